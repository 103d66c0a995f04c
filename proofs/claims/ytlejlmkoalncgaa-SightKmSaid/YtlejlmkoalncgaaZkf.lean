/- A part of the proof of sightKm_holds. Conditions: none. -/
import Derived.Test.YtlejlmkoalncgaaZke
section
namespace Px
open Go
set_option linter.unusedVariables false
set_option linter.unusedSimpArgs false
theorem zn3 {n b : Nat} (h : n ≤ 100000) (hb : b ≤ 1000) : fits n b := by
  unfold fits
  have : n * b ≤ 100000 * 1000 := Nat.mul_le_mul h hb
  omega
def z7l (r : zi) (place time : Int) : z4y := ⟨r.item.wagon, place, r.ref, false, time, time⟩
/-- The events of a report that counts. -/
def evs (p : Pool) (r : zi) (i : Int) : List z1 :=
  if r.item.kind = 1 then [⟨z7l r (gt p.readers r.item.other).place r.item.from_, i, false, false, r.item.other⟩]
  else if r.item.kind = 2 ∨ r.item.kind = 9 then [⟨z7l r r.item.place r.item.from_, i, false, true, -1⟩, ⟨z7l r r.item.place r.item.to, i, true, true, -1⟩]
  else if r.item.kind = 3 ∨ r.item.kind = 4 ∨ r.item.kind = 6 ∨ r.item.kind = 7 then [⟨z7l r r.item.place r.item.from_, i, false, false, -1⟩] else []
theorem zlo (φ : Nat) (p : Pool) (r : zi) (i : Int) (h : r.item.kind = 1 → 0 ≤ r.item.other ∧ r.item.other < (p.readers.length : Int)) : z0a φ p r i = some (evs p r i, ()) := by
  by_cases h1 : r.item.kind = 1
  · have h' := h h1
    simp [z0a, evs, h1, z2 h', zm, z7l]
  by_cases h2 : r.item.kind = 2
  · simp [z0a, evs, h2, zw, z17, z15, zm, z7l]
  by_cases h9 : r.item.kind = 9
  · simp [z0a, evs, h9, zw, z17, z15, zm, z7l]
  by_cases h3 : r.item.kind = 3
  · simp [z0a, evs, h3, zw, zt, zm, z7l]
  by_cases h4 : r.item.kind = 4
  · simp [z0a, evs, h4, zw, zt, zm, z7l]
  by_cases h6 : r.item.kind = 6
  · simp [z0a, evs, h6, zw, zt, zm, z7l]
  by_cases h7 : r.item.kind = 7
  · simp [z0a, evs, h7, zw, zt, zm, z7l]
  · simp [z0a, evs, h1, h2, h9, h3, h4, h6, h7, zw, zt]
theorem zd3 {p : Pool} {r : zi} {i : Int} {x : z1} (h : x ∈ evs p r i) : x.report = i ∧ x.visit.wagon = r.item.wagon ∧ x.visit.ref = r.ref := by
  unfold evs at h
  split at h
  · simp only [List.mem_singleton] at h; subst h; exact ⟨rfl, rfl, rfl⟩
  · split at h
    · simp only [List.mem_cons, List.not_mem_nil, or_false] at h
      rcases h with rfl | rfl <;> exact ⟨rfl, rfl, rfl⟩
    · split at h
      · simp only [List.mem_singleton] at h; subst h; exact ⟨rfl, rfl, rfl⟩
      · cases h
theorem zre (p : Pool) (r : zi) (i : Int) : (evs p r i).length ≤ 2 := by
  unfold evs
  split
  · simp
  · split
    · simp
    · split <;> simp
theorem zyr (p : Pool) (r : zi) (i : Int) : (evs p r i).Pairwise fun a b => a.report ≠ b.report ∨ a.second ≠ b.second := by
  unfold evs
  split
  · simp
  · split
    · simp
    · split <;> simp
/-- The numbers of the reports that count. -/
def cntN (p : Pool) (l : List zi) (n : Nat) : List Int := ((List.range n).filter fun (i : Nat) => zav p (gt l (i : Int)).item).map fun (i : Nat) => (i : Int)
def cnt (p : Pool) (l : List zi) : List Int := cntN p l l.length
theorem zru (p : Pool) (l : List zi) (n : Nat) : cntN p l (n + 1) = cntN p l n ++ (bif zav p (gt l (n : Int)).item then [(n : Int)] else []) := by
  unfold cntN
  rw [List.range_succ, List.filter_append, List.map_append]
  congr 1
  cases h : zav p (gt l (n : Int)).item <;> simp [h]
theorem zer (p : Pool) (l : List zi) (n : Nat) : (cntN p l n).length ≤ n := by
  unfold cntN
  rw [List.length_map]
  exact Nat.le_trans (List.length_filter_le _ _) (by simp)
theorem zq6 {p : Pool} {l : List zi} {i : Int} (h : i ∈ cnt p l) : 0 ≤ i ∧ i < (l.length : Int) ∧ zav p (gt l i).item = true := by
  simp only [cnt, cntN, List.mem_map, List.mem_filter, List.mem_range] at h
  obtain ⟨n, ⟨h1, h2⟩, rfl⟩ := h
  exact ⟨by omega, by omega, h2⟩
theorem zxj (p : Pool) (l : List zi) : (cnt p l).Pairwise (· < ·) := by
  unfold cnt cntN
  rw [List.pairwise_map]
  refine (List.pairwise_lt_range.filter _).imp ?_
  intro a b h
  omega
/-- A list of reports that the laws admit. -/
structure FewL (l : List zi) : Prop where
  len : l.length ≤ 1000
  parts : ∀ r ∈ l, r.item.parts.length ≤ 1000
theorem FewL.gt {l : List zi} (h : FewL l) {i : Int} (h0 : 0 ≤ i) (hi : i < (l.length : Int)) : (Px.gt l i).item.parts.length ≤ 1000 := h.parts _ (ze0 h0 hi)
theorem zox (φ : Nat) (hφ : 800000 < φ) {p : Pool} (hc : z2f p = 0) {l : List zi} (hl : FewL l) : z6o φ p l = some (cnt p l, ()) := by
  have h1 := hl.len
  unfold z6o
  refine z0l (fun n i acc => z1b φ n l (l.length : Int) i p acc) l.length (fun i acc => acc = cntN p l i) (fun o => o = some (cnt p l, ())) ?_ ?_ φ [] rfl (by omega)
  · intro n i acc hi hacc hs
    rw [z1b, if_pos (by simp; omega), z2 ⟨by omega, by omega⟩, zko φ hφ hc (hl.gt (by omega) (by omega)), Option.bind_some, W_id (by omega) (by omega)]
    have hs' := hs (cntN p l (i + 1)) rfl
    rw [zru] at hs'
    cases h : zav p (gt l (i : Int)).item with
    | true =>
      rw [h] at hs'
      rw [if_pos (by rfl), z2 (zn3 (by have := zer p l i; rw [hacc]; simp; omega) (by omega)), hacc]
      exact hs'
    | false =>
      rw [h] at hs'
      simp only [cond_false, List.append_nil] at hs'
      rw [if_neg (by decide), hacc]
      exact hs'
  · intro n acc hacc
    rw [z1b, if_neg (by simp), hacc]; rfl
/-- The events of a wagon, as they were collected. -/
def unsC (p : Pool) (l : List zi) (c : List Int) (w : Int) : List z1 := c.flatMap fun i => if (gt l i).item.wagon = w then evs p (gt l i) i else []
def uns (p : Pool) (l : List zi) (w : Int) : List z1 := unsC p l (cnt p l) w
theorem zbq (p : Pool) (l : List zi) (w : Int) : ∀ c : List Int, (unsC p l c w).length ≤ 2 * c.length
  | [] => by simp [unsC]
  | i :: c => by
    have := zbq p l w c
    have h2 := zre p (gt l i) i
    unfold unsC at *
    rw [List.flatMap_cons, List.length_append, List.length_cons]
    split
    · omega
    · simp only [List.length_nil]; omega
theorem zwl {a b : z1} (h : a.report ≠ b.report ∨ a.second ≠ b.second) : cfEv a b < 0 ∨ cfEv b a < 0 := by
  rw [zcn, zcn]
  have h2 : a.second ≠ b.second → ordB a.second ≠ ordB b.second := by
    cases a.second <;> cases b.second <;> simp [ordB]
  by_cases hs : a.second = b.second
  · have h3 := h.resolve_right (fun q => q hs)
    rw [hs]; omega
  · have := h2 hs
    omega
theorem zy3 (p : Pool) (l : List zi) (w : Int) : (uns p l w).Pairwise fun a b => a.report ≠ b.report ∨ a.second ≠ b.second := by
  unfold uns unsC
  rw [List.pairwise_flatMap]
  refine ⟨fun i hi => ?_, (zxj p l).imp ?_⟩
  · split
    · exact zyr _ _ _
    · exact List.Pairwise.nil
  · intro i j hij x hx y hy
    split at hx
    · split at hy
      · rw [(zd3 hx).1, (zd3 hy).1]
        exact .inl (by omega)
      · cases hy
    · cases hx
theorem zue {p : Pool} {l : List zi} (hl : l.length ≤ 1000) {w : Int} {x : z1} (h : x ∈ uns p l w) : 0 ≤ x.report ∧ x.report < (l.length : Int) ∧ x.visit.wagon = w ∧ zav p (gt l x.report).item = true ∧ x ∈ evs p (gt l x.report) x.report := by
  simp only [uns, unsC, List.mem_flatMap] at h
  obtain ⟨i, hi, hx⟩ := h
  obtain ⟨h1, h2, h3⟩ := zq6 hi
  split at hx
  · rename_i hw
    obtain ⟨r1, r2, r3⟩ := zd3 hx
    rw [r1]
    exact ⟨h1, h2, by rw [r2, hw], h3, hx⟩
  · cases hx
def ltEv (a b : z1) : Bool := decide (cfEv a b < 0)
def srt (p : Pool) (l : List zi) (w : Int) : List z1 := z73 ltEv (uns p l w)
theorem zob {p : Pool} {l : List zi} (hl : l.length ≤ 1000) (w : Int) : sortEv (uns p l w) = some (srt p l w) := by
  refine zt3 (fun y hy => ?_) ?_ ((zy3 p l w).imp fun h => zwl h)
  · obtain ⟨h1, h2, _⟩ := zue hl hy
    simp only [okEv, decide_eq_true_eq]; omega
  · have := zbq p l w (cnt p l)
    have h2 := zer p l l.length
    unfold uns cnt at *
    omega
/-- Stays cover the gaps of a za9. -/
def covM (e : z1) (m : List (Int × Bool)) : List (Int × Bool) := if (e.stay && e.second) = true then mdel m e.report else if e.stay = true then mset m e.report true else m
def ziu (e : z1) (b : Bool) : z1 := ⟨⟨e.visit.wagon, e.visit.place, e.visit.ref, b, e.visit.early, e.visit.late⟩, e.report, e.second, e.stay, e.reader⟩
def zgt : List z1 → List (Int × Bool) → List z1
  | [], _ => []
  | e :: t, m => ziu e (decide ((0 : Int) < ((covM e m).length : Int))) :: zgt t (covM e m)
theorem zjm : ∀ (t : List z1) (m : List (Int × Bool)), (zgt t m).length = t.length
  | [], _ => rfl
  | e :: t, m => by simp [zgt, zjm t]
def za9 (p : Pool) (l : List zi) (w : Int) : List z1 := zgt (srt p l w) []
theorem zpa {α : Type} (a : List α) (x y : α) (b : List α) : z08 (a ++ x :: b) (a.length : Int) y = a ++ y :: b := by
  simp [z08]
theorem zv6 {α : Type} [Inhabited α] (a : List α) (x : α) (b : List α) : gt (a ++ x :: b) (a.length : Int) = x := by
  simp [gt]
theorem zo7 (φ : Nat) (k : Int → Int → List (List z1) → Option ((List (List z1)) × Unit)) (x19 x20 x24 : Int) (x23 : List (List z1)) :
    ∀ (n : Nat) (done todo : List z1) (m : List (Int × Bool)), todo.length < n → done.length + todo.length ≤ 100000 →
      z0e φ k n ((done.length + todo.length : Nat) : Int) (done.length : Int) x19 x20 (done ++ todo) m x23 x24 = k x19 (W (x20 + 1)) (z08 x23 x24 (done ++ zgt todo m)) := by
  intro n
  induction n with
  | zero => intro d t m h _; omega
  | succ n ih =>
    intro d t m hn hl
    cases t with
    | nil =>
      rw [z0e, if_neg (by simp)]
      rfl
    | cons e t =>
      simp only [List.length_cons] at hn hl
      have hin : (0 : Int) ≤ (d.length : Int) ∧ (d.length : Int) < ((d ++ e :: t).length : Int) := ⟨by omega, by simp; omega⟩
      have key : ∀ m', z1r φ (z0e φ k n) (d.length : Int) ((d.length + (e :: t).length : Nat) : Int) (d.length : Int) x19 x20 (d ++ e :: t) m' x23 x24 =
          k x19 (W (x20 + 1)) (z08 x23 x24 (d ++ ziu e (decide ((0 : Int) < (m'.length : Int))) :: zgt t m')) := by
        intro m'
        unfold z1r
        rw [z2 hin, zv6, W_id (by omega) (by omega), zpa]
        have := ih (d ++ [ziu e (decide ((0 : Int) < (m'.length : Int)))]) t m' (by omega) (by simp; omega)
        simp only [List.length_append, List.length_cons, List.length_nil, List.append_assoc, List.cons_append, List.nil_append] at this
        rw [show ((d.length + (e :: t).length : Nat) : Int) = ((d.length + (0 + 1) + t.length : Nat) : Int) by simp; omega, show (d.length : Int) + 1 = ((d.length + (0 + 1) : Nat) : Int) by omega]
        exact this
      rw [z0e, if_pos (by simp; omega), z2 hin, z2 (fun _ => hin), zv6]
      have hg : ∀ m', covM e m = m' → zgt (e :: t) m = ziu e (decide ((0 : Int) < (m'.length : Int))) :: zgt t m' := fun m' hm => by subst hm; rfl
      by_cases h1 : (e.stay && e.second) = true
      · rw [if_pos h1, z2 hin, key, hg _ (if_pos h1)]
      · rw [if_neg h1, z2 hin]
        by_cases h2 : e.stay = true
        · rw [if_pos h2, z2 hin, key, hg (mset m e.report true) (by unfold covM; rw [if_neg h1, if_pos h2])]
        · rw [if_neg h2, key, hg m (by unfold covM; rw [if_neg h1, if_neg h2])]
theorem zkr (φ : Nat) (hφ : 800000 < φ) {p : Pool} (hc : z2f p = 0) {l : List zi} (hl : FewL l) : z42 φ p l = some ((List.range p.fleet.wagons.length).map fun (w : Nat) => za9 p l (w : Int), ()) := by
  have h1 := hl.len
  obtain ⟨_, hf, _⟩ := zh0 hc
  obtain ⟨_, f2, _⟩ := zb4 hf
  have hcl := zer p l l.length
  unfold z42
  rw [z2 (mk_t _ _ (by omega) (by omega) (by omega)), zox φ hφ hc hl, Option.bind_some]
  generalize hn0 : p.fleet.wagons.length = n0 at *
  have second : ∀ out : List (List z1), out.length = n0 → (∀ w : Nat, w < n0 → gt out (w : Int) = uns p l w) → z0t φ φ (out.length : Int) 0 out = some ((List.range n0).map fun (w : Nat) => za9 p l (w : Int), ()) := by
    intro out ho hu
    rw [ho]
    refine z0l (fun n i o => z0t φ n (n0 : Int) i o) n0 (fun i o => o.length = n0 ∧ ∀ w : Nat, w < n0 → gt o (w : Int) = if w < i then za9 p l w else uns p l w) (fun o => o = some ((List.range n0).map fun (w : Nat) => za9 p l (w : Int), ())) ?_ ?_ φ out ⟨ho, fun w hw => by rw [hu w hw, if_neg (by omega)]⟩ (by omega)
    · intro n i o hi ⟨ho1, ho2⟩ hs
      rw [z0t, if_pos (by simp; omega), z2 ⟨by omega, by omega⟩, z2 ⟨by omega, by omega⟩, z2 rfl, ho2 i hi, if_neg (by omega), zob h1, Option.bind_some]
      have hsl : (srt p l (i : Int)).length ≤ 2000 := by
        rw [srt, (z2p _ _).length_eq]
        have := zbq p l i (cnt p l)
        unfold uns cnt at *
        omega
      have := zo7 φ (z0t φ n) (n0 : Int) (i : Int) (i : Int) o φ [] (srt p l (i : Int)) [] (by omega) (by simp; omega)
      simp only [List.length_nil, Nat.zero_add, List.nil_append] at this
      refine this.trans ?_
      rw [W_id (by omega) (by omega)]
      refine hs _ ⟨by rw [z1c]; exact ho1, fun w hw => ?_⟩
      rw [z0o _ _ _ _ (by omega) (by omega) (by omega)]
      by_cases e : w = i
      · subst e; rw [if_pos rfl, if_pos (by omega)]; rfl
      · rw [if_neg (by omega), ho2 w hw]
        by_cases h2 : w < i
        · rw [if_pos h2, if_pos (by omega)]
        · rw [if_neg h2, if_neg (by omega)]
    · intro n o ⟨ho1, ho2⟩
      rw [z0t, if_neg (by simp)]
      congr 2
      refine List.ext_getElem (by simp [ho1]) fun w hw hw2 => ?_
      have := ho2 w (by omega)
      rw [z6t hw, if_pos (by omega)] at this
      simpa using this
  refine z0l (fun n i o => z1a φ n l (cnt p l) ((cnt p l).length : Int) i p o) (cnt p l).length (fun i o => o.length = n0 ∧ ∀ w : Nat, w < n0 → gt o (w : Int) = unsC p l ((cnt p l).take i) w) (fun o => o = some ((List.range n0).map fun (w : Nat) => za9 p l (w : Int), ())) ?_ ?_ φ _ ⟨by simp, fun w hw => ?_⟩ (by unfold cnt; omega)
  · intro n i o hi ⟨ho1, ho2⟩ hs
    have hmem : gt (cnt p l) (i : Int) ∈ cnt p l := ze0 (by omega) (by omega)
    obtain ⟨c1, c2, c3⟩ := zq6 hmem
    have hI := zq0 hc (hl.gt c1 c2) c3
    have hcn : (cnt p l).length ≤ 1000 := by unfold cnt; omega
    rw [z1a, if_pos (by simp; omega), z2 ⟨by omega, by omega⟩, z2 ⟨c1, c2⟩, zlo φ p _ _ hI.read, Option.bind_some]
    have hW : W ((i : Int) + 1) = (i : Int) + 1 := W_id (by omega) (by omega)
    have htake : ∀ w, unsC p l ((cnt p l).take (i + 1)) w = unsC p l ((cnt p l).take i) w ++ (if (gt l (gt (cnt p l) (i : Int))).item.wagon = w then evs p (gt l (gt (cnt p l) (i : Int))) (gt (cnt p l) (i : Int)) else []) := by
      intro w
      rw [z7u _ _ hi]
      simp [unsC]
    generalize gt (cnt p l) (i : Int) = ci at *
    generalize hev : evs p (gt l ci) ci = E at *
    have hE : E.length ≤ 2 := by rw [← hev]; exact zre _ _ _
    simp only []
    by_cases h0 : 0 < E.length
    · have hkind : (gt l ci).item.kind ≤ 9 := by
        rcases Int.lt_or_le 9 (gt l ci).item.kind with h | h
        · exfalso
          have : E = [] := by
            rw [← hev]; unfold evs
            rw [if_neg (by omega), if_neg (by omega), if_neg (by omega)]
          rw [this] at h0; simp at h0
        · exact h
      have hwg := hI.wagon hkind
      rw [hn0] at hwg
      obtain ⟨w0, hw0⟩ : ∃ w0 : Nat, (gt l ci).item.wagon = (w0 : Int) := ⟨(gt l ci).item.wagon.toNat, by omega⟩
      rw [hw0] at hwg htake ⊢
      have hwg' : (0 : Int) ≤ (w0 : Int) ∧ (w0 : Int) < (o.length : Int) := ⟨by omega, by omega⟩
      have hul := zbq p l w0 ((cnt p l).take i)
      rw [if_pos (by simpa using h0), z2 ⟨c1, c2⟩, z2 hwg', z2 hwg', z2 trivial, ho2 w0 (by omega),
        z2 (zn3 (by rw [List.length_take] at hul; omega) (by omega)), z2 hwg', z2 trivial, hW]
      refine hs _ ⟨by rw [z1c]; exact ho1, fun w hw => ?_⟩
      rw [z0o _ _ _ _ (by omega) (by omega) (by omega), htake]
      by_cases e : (w : Int) = (w0 : Int)
      · rw [if_pos e, e, if_pos rfl]
      · rw [if_neg e, if_neg (fun q => e q.symm), List.append_nil, ho2 w hw]
    · have hnil : E = [] := List.eq_nil_of_length_eq_zero (by omega)
      rw [if_neg (by simpa using h0), hW]
      refine hs _ ⟨ho1, fun w hw => ?_⟩
      rw [htake, hnil, ho2 w hw]
      split <;> simp
  · intro n o ⟨ho1, ho2⟩
    rw [z1a, if_neg (by simp)]
    refine second o ho1 fun w hw => ?_
    rw [ho2 w hw, List.take_length]; rfl
  · rw [z82 _ _ _ (by omega) (by simp; omega)]
    simp [unsC]
    rfl
theorem zjp {p : Pool} {l : List zi} {w : Int} (h0 : 0 ≤ w) (h : w < (p.fleet.wagons.length : Int)) : gt ((List.range p.fleet.wagons.length).map fun (w : Nat) => za9 p l (w : Int)) w = za9 p l w := by
  obtain ⟨n, rfl⟩ : ∃ n : Nat, w = (n : Int) := ⟨w.toNat, by omega⟩
  rw [z6t (by simp; omega)]
  simp
end Px
end
section
namespace Px
open Go
set_option linter.unusedVariables false
set_option linter.unusedSimpArgs false
theorem zr3 (m : List (Int × Int)) (a v c : Int) : mget (mset m a v) c = if c = a then some v else mget m c := by
  induction m with
  | nil =>
    show (bif c == a then some v else none) = _
    by_cases h : c = a
    · rw [if_pos h]; simp [h]
    · rw [if_neg h]
      have : (c == a) = false := by simpa using h
      rw [this]; rfl
  | cons p m ih =>
    obtain ⟨k, w⟩ := p
    show mget (bif a == k then (a, v) :: m else (k, w) :: mset m a v) c = _
    have e1 : mget ((k, w) :: m) c = bif c == k then some w else mget m c := rfl
    by_cases h1 : a = k
    · subst h1
      simp only [beq_self_eq_true, cond_true]
      show (bif c == a then some v else mget m c) = _
      rw [e1]
      by_cases h : c = a
      · rw [if_pos h]; simp [h]
      · rw [if_neg h]
        have : (c == a) = false := by simpa using h
        rw [this]; rfl
    · have : (a == k) = false := by simpa using h1
      rw [this]
      show (bif c == k then some w else mget (mset m a v) c) = _
      rw [ih, e1]
      by_cases h2 : c = k
      · subst h2
        have h3 : ¬ c = a := fun e => h1 e.symm
        simp [h3]
      · have : (c == k) = false := by simpa using h2
        rw [this]; rfl
theorem zo5 (φ : Nat) (M : Int) (hM : 0 ≤ M) (km : List (Int × Int)) (hkm : ∀ r v, mget km r = some v → 0 ≤ v ∧ v ≤ M) (hφ : 16 < φ) : ∃ s, z09 φ φ 0 [] km = some (s, 0, ()) ∧ s.length ≤ 16 ∧ ∀ y ∈ s, 0 ≤ y.km ∧ y.km ≤ M := by
  refine z0l (fun n i sh => z09 φ n i sh km) 16 (fun i sh => sh.length ≤ i ∧ ∀ y ∈ sh, 0 ≤ y.km ∧ y.km ≤ M) (fun o => ∃ s, o = some (s, 0, ()) ∧ s.length ≤ 16 ∧ ∀ y ∈ s, 0 ≤ y.km ∧ y.km ≤ M) ?_ ?_ φ [] ⟨by simp, fun y hy => by cases hy⟩ (by omega)
  · intro n i sh hi ⟨h1, h2⟩ hs
    rw [z09, if_pos (by simp; omega), W_id (by omega) (by omega)]
    cases hg : mget km (i : Int) with
    | none =>
      rw [if_neg (by simp)]
      exact hs _ ⟨by omega, h2⟩
    | some v =>
      rw [if_pos (by rfl), z2 (zn3 (by simp; omega) (by omega))]
      refine hs _ ⟨by simp; omega, fun y hy => ?_⟩
      rcases List.mem_append.1 hy with hy | hy
      · exact h2 y hy
      · rw [List.mem_singleton.1 hy]; exact hkm _ _ hg
  · intro n sh ⟨h1, h2⟩
    rw [z09, if_neg (by simp)]
    exact ⟨sh, rfl, h1, h2⟩
theorem zq1 (φ : Nat) (hφ : 60000000 < φ) {x : z6} (hn : z6f x = 0) {rt : List Int} (hw : Way x rt) (hl : rt.length ≤ 51200001) : ∃ s, z1e φ x rt = some (s, 0, ()) ∧ s.length ≤ 16 ∧ ∀ y ∈ s, 0 ≤ y.km ∧ y.km ≤ 512000020000 := by
  have hx := zv8 hn
  have hP := hx.places
  unfold z1e
  rw [z3q _ (by omega), Option.bind_some, if_neg (by simp [hn])]
  have hr := hw.rng
  refine z0l (fun n i (_ : Unit) => z16 φ n rt (rt.length : Int) i rt x x [] []) rt.length (fun _ _ => True) (fun o => ∃ s, o = some (s, 0, ()) ∧ s.length ≤ 16 ∧ ∀ y ∈ s, 0 ≤ y.km ∧ y.km ≤ 512000020000) ?_ ?_ φ () trivial (by omega)
  · intro n i _ hi _ hs
    obtain ⟨h1, h2⟩ := hr _ (ze0 (l := rt) (i := (i : Int)) (by omega) (by omega))
    rw [z16, if_pos (by simp; omega), z2 ⟨by omega, by omega⟩, if_neg (by simp; omega), W_id (by omega) (by omega)]
    exact hs () trivial
  · intro n _ _
    rw [z16, if_neg (by simp), z2 (mk_t _ _ (by omega) (by omega) (by omega)), zar φ x rt [] hx (by omega)]
    clear n
    have walk : ∀ (n i : Nat) (km : List (Int × Int)), 1 ≤ i → rt.length + 1 < n + i → (∀ r v, mget km r = some v → 0 ≤ v ∧ v ≤ 10000 * (i : Int)) → i ≤ rt.length + 1 →
        ∃ s, zu φ n rt i x [] km (zk x) (z14 x) = some (s, 0, ()) ∧ s.length ≤ 16 ∧ ∀ y ∈ s, 0 ≤ y.km ∧ y.km ≤ 512000020000 := by
      intro n
      induction n with
      | zero => intro i km h1 h2; 
                intro hkm h3
                exfalso; omega
      | succ n ih =>
        intro i km h1 h2 hkm h3
        by_cases hi : i < rt.length
        · obtain ⟨j, rfl⟩ : ∃ j, i = j + 1 := ⟨i - 1, by omega⟩
          have hst := hw.step j hi
          obtain ⟨r0, r1⟩ := hr _ (ze0 (l := rt) (i := (j : Int)) (by omega) (by omega))
          obtain ⟨li, hli, l0, l1, _⟩ := zb6 hx r0 r1 hst
          obtain ⟨_, _, _, _, _, _, _, _, _, k0, k1⟩ := hx.ends l0 l1
          have hWm : W (((j + 1 : Nat) : Int) - 1) = (j : Int) := by rw [W_id (by omega) (by omega)]; omega
          have hli' : @mget (Nat → Int) Int ⟨beqA 2⟩ (z14 x) (upd (upd (fun _ => (default : Int)) 0 (gt rt (j : Int))) 1 (gt rt ((j + 1 : Nat) : Int))) = some li := hli
          rw [zu, if_pos (by simp; omega), hWm, z2 ⟨by omega, by omega⟩, z2 ⟨by omega, by omega⟩, hli', if_neg (by simp)]
          simp only [Option.getD_some]
          have hold : 0 ≤ (mget km (gt x.edges li).railway).getD default ∧ (mget km (gt x.edges li).railway).getD default ≤ 10000 * ((j + 1 : Nat) : Int) := by
            cases hg : mget km (gt x.edges li).railway with
            | none => exact ⟨Int.le_refl _, by show (0 : Int) ≤ _; omega⟩
            | some v => exact hkm _ _ hg
          rw [z2 ⟨l0, l1⟩, z2 ⟨l0, l1⟩, W_id (x := _ + (gt x.edges li).km) (by omega) (by omega), W_id (by omega) (by omega)]
          have := ih (j + 1 + 1) (mset km (gt x.edges li).railway ((mget km (gt x.edges li).railway).getD default + (gt x.edges li).km)) (by omega) (by omega) (fun r v hv => by
            rw [zr3] at hv
            split at hv
            · have := Option.some.inj hv
              omega
            · have := hkm r v hv
              omega) (by omega)
          exact this
        · rw [zu, if_neg (by simp; omega)]
          obtain ⟨s, h4, h5, h6⟩ := zo5 φ (10000 * (i : Int)) (by omega) km hkm (by omega)
          exact ⟨s, h4, h5, fun y hy => by have := h6 y hy; omega⟩
    exact walk φ 1 [] (by omega) (by omega) (fun r v hv => by simp [mget] at hv) (by omega)
theorem zl4 (φ : Nat) (hφ : 60000000 < φ) (x : z6) (a b : Int) : ∃ k, z3w φ x a b = some (k, ()) ∧ 0 ≤ k ∧ k ≤ 10000000000000 := by
  obtain ⟨r, e, hr, he⟩ := zto φ hφ x a b
  unfold z3w
  rw [hr, Option.bind_some]
  by_cases h0 : e = 0
  case neg => rw [if_pos (by simpa using h0)]; exact ⟨0, rfl, by omega, by omega⟩
  obtain ⟨hn, hw, hl⟩ := he h0
  rw [if_neg (by simp [h0])]
  obtain ⟨s, hs, hs1, hs2⟩ := zq1 φ hφ hn hw hl
  rw [hs, Option.bind_some]
  refine z0l (fun n i k => z1t φ n k s (s.length : Int) i) s.length (fun i k => 0 ≤ k ∧ k ≤ 512000020000 * (i : Int)) (fun o => ∃ k, o = some (k, ()) ∧ 0 ≤ k ∧ k ≤ 10000000000000) ?_ ?_ φ 0 ⟨by omega, by omega⟩ (by omega)
  · intro n i k hi ⟨h1, h2⟩ hk
    obtain ⟨h3, h4⟩ := hs2 _ (ze0 (l := s) (i := (i : Int)) (by omega) (by omega))
    rw [z1t, if_pos (by simp; omega), z2 ⟨by omega, by omega⟩, W_id (x := k + _) (by omega) (by omega), W_id (by omega) (by omega)]
    exact hk _ ⟨by omega, by omega⟩
  · intro n k ⟨h1, h2⟩
    rw [z1t, if_neg (by simp)]
    exact ⟨k, rfl, h1, by omega⟩
/-- Kilometres within a span. -/
def z6x (f : Int → Int → Int) (s : Span) : List z1 → Int
  | a :: b :: l => (if s.from_ ≤ a.visit.early ∧ b.visit.early ≤ s.to then f a.visit.place b.visit.place else 0) + z6x f s (b :: l)
  | _ => 0
theorem zc3 {f : Int → Int → Int} {M : Int} (hM : 0 ≤ M) (hf : ∀ a b, 0 ≤ f a b ∧ f a b ≤ M) (s : Span) : ∀ t : List z1, 0 ≤ z6x f s t ∧ z6x f s t ≤ M * t.length
  | [] => ⟨by simp [z6x], by simp [z6x]⟩
  | [a] => ⟨by simp [z6x], by simp [z6x]; omega⟩
  | a :: b :: l => by
    obtain ⟨h1, h2⟩ := zc3 hM hf s (b :: l)
    have := hf a.visit.place b.visit.place
    have e : M * ((a :: b :: l).length : Int) = M * ((b :: l).length : Int) + M := by simp only [List.length_cons]; rw [Int.natCast_succ (n := l.length + 1), Int.mul_add, Int.mul_one]
    rw [e]
    simp only [z6x]
    split <;> omega
/-- What Km asks of its arguments. -/
def z8c (p : Pool) (w : Int) (s : Span) : Prop := 0 ≤ w ∧ w < (p.fleet.wagons.length : Int) ∧ 0 ≤ s.from_ ∧ s.from_ ≤ s.to ∧ s.to ≤ 1073741824
instance (p : Pool) (w : Int) (s : Span) : Decidable (z8c p w s) := inferInstanceAs (Decidable (_ ∧ _))
theorem zg5 {p : Pool} {l : List zi} (hl : l.length ≤ 1000) (w : Int) : (za9 p l w).length ≤ 2000 := by
  unfold za9
  rw [zjm, srt, (z2p _ _).length_eq]
  have := zbq p l w (cnt p l)
  have := zer p l l.length
  unfold uns cnt at *
  omega
theorem zdz {α : Type} [Inhabited α] (l : List α) (i : Nat) (h : i + 1 < l.length) : l.drop i = gt l (i : Int) :: gt l ((i + 1 : Nat) : Int) :: l.drop (i + 2) := by
  rw [zi5 l i (by omega), zi5 l (i + 1) h]
theorem zvq (φ : Nat) (hφ : 60000000 < φ) (p : Pool) {l : List zi} (hl : FewL l) {f : Int → Int → Int} (hf : ∀ a b, z3w φ p.network a b = some (f a b, ()) ∧ 0 ≤ f a b ∧ f a b ≤ 10000000000000) (w : Int) (s : Span) :
    z7v φ p l w s = some (if z2f p ≠ 0 then (0, z2f p, ()) else if z8c p w s then (z6x f s (za9 p l w), 0, ()) else (0, 1, ())) := by
  unfold z7v
  rw [z4u φ (by omega), Option.bind_some]
  by_cases hc : z2f p = 0
  case neg => rw [if_pos (by simpa using hc), if_pos hc]
  rw [if_neg (by simp [hc]), if_neg (fun h : z2f p ≠ 0 => h hc)]
  by_cases hs : z8c p w s
  case neg =>
    rw [if_pos (by unfold z8c at hs; simp; omega), if_neg hs]
  rw [if_neg (by unfold z8c at hs; simp; omega), if_pos hs, zkr φ (by omega) hc hl, Option.bind_some, z2 ⟨hs.1, by simp; exact hs.2.1⟩, zjp hs.1 hs.2.1]
  have htl := zg5 (p := p) hl.len w
  generalize za9 p l w = t at *
  have hb := fun n : Nat => zc3 (f := f) (M := 10000000000000) (by omega) (fun a b => (hf a b).2) s (t.drop n)
  have key : ∀ (n i : Nat) (acc : Int), t.length < n + i → i ≤ t.length → 0 ≤ acc → acc ≤ 10000000000000 * (i : Int) → z3y φ n acc t ((i + 1 : Nat) : Int) p s = some (acc + z6x f s (t.drop i), 0, ()) := by
    intro n
    induction n with
    | zero =>
      intro i acc h1 h2 h3 h4
      exfalso; omega
    | succ n ih =>
      intro i acc h1 h2 h3 h4
      by_cases hi : i + 1 < t.length
      · have hWm : W (((i + 1 : Nat) : Int) - 1) = (i : Int) := by rw [W_id (by omega) (by omega)]; omega
        have hWp : W (((i + 1 : Nat) : Int) + 1) = ((i + 1 + 1 : Nat) : Int) := by rw [W_id (by omega) (by omega)]; omega
        obtain ⟨hf1, hf2, hf3⟩ := hf (gt t (i : Int)).visit.place (gt t ((i + 1 : Nat) : Int)).visit.place
        have hd : t.drop (i + 1) = gt t ((i + 1 : Nat) : Int) :: t.drop (i + 2) := zi5 t (i + 1) hi
        have e := zdz t i hi
        rw [← hd] at e
        have ek : z6x f s (t.drop i) = (if s.from_ ≤ (gt t (i : Int)).visit.early ∧ (gt t ((i + 1 : Nat) : Int)).visit.early ≤ s.to then f (gt t (i : Int)).visit.place (gt t ((i + 1 : Nat) : Int)).visit.place else 0) + z6x f s (t.drop (i + 1)) := by
          rw [zdz t i hi, hd]; rfl
        rw [z3y, if_pos (by simp; omega)]
        unfold z5x z5t
        rw [hWm, z2 ⟨by omega, by omega⟩, z2 ⟨by omega, by omega⟩, hWp, ek]
        by_cases hcond : s.from_ ≤ (gt t (i : Int)).visit.early ∧ (gt t ((i + 1 : Nat) : Int)).visit.early ≤ s.to
        · rw [if_pos (by simpa using hcond), if_pos hcond, hf1, Option.bind_some, W_id (x := acc + _) (by omega) (by omega), ih (i + 1) _ (by omega) (by omega) (by omega) (by omega)]
          congr 2
          omega
        · rw [if_neg (by simpa using hcond), if_neg hcond, ih (i + 1) acc (by omega) (by omega) h3 (by omega)]
          congr 2
          omega
      · rw [z3y, if_neg (by simp; omega)]
        have : z6x f s (t.drop i) = 0 := by
          have hdl : (t.drop i).length ≤ 1 := by rw [List.length_drop]; omega
          match hq : t.drop i, hdl with
          | [], _ => rfl
          | [a], _ => rfl
          | a :: b :: q, h => simp at h
        rw [this, Int.add_zero]
  have := key φ 0 0 (by omega) (by omega) (by omega) (by omega)
  rw [List.drop_zero, Int.zero_add] at this
  exact this
/-- The visits of a wagon. -/
theorem zsx (φ : Nat) (hφ : 800000 < φ) (p : Pool) {l : List zi} (hl : FewL l) (w : Int) :
    z7a φ p l w = some (if z2f p = 0 ∧ 0 ≤ w ∧ w < (p.fleet.wagons.length : Int) then (za9 p l w).map (·.visit) else [], ()) := by
  unfold z7a
  rw [z4u φ hφ, Option.bind_some]
  by_cases hc : z2f p = 0 ∧ 0 ≤ w ∧ w < (p.fleet.wagons.length : Int)
  case neg =>
    rw [if_neg hc, if_pos (by
      simp only [Bool.or_eq_true, bne_iff_ne, ne_eq, decide_eq_true_eq]
      by_cases h : z2f p = 0
      · omega
      · exact .inl (.inl h))]
  rw [if_pos hc, if_neg (by simp [hc]), zkr φ hφ hc.1 hl, Option.bind_some, z2 ⟨hc.2.1, by simp; exact hc.2.2⟩, zjp hc.2.1 hc.2.2]
  have htl := zg5 (p := p) hl.len w
  generalize za9 p l w = t at *
  refine z0l (fun n i acc => z2c φ n t (t.length : Int) i acc) t.length (fun i acc => acc = (t.take i).map (·.visit)) (fun o => o = some (t.map (·.visit), ())) ?_ ?_ φ [] (by simp) (by omega)
  · intro n i acc hi hacc hs
    rw [z2c, if_pos (by simp; omega), z2 ⟨by omega, by omega⟩, z2 (zn3 (by rw [hacc]; simp; omega) (by omega)), W_id (by omega) (by omega)]
    refine hs _ ?_
    rw [hacc, z7u t i hi, List.map_append]; rfl
  · intro n acc hacc
    rw [z2c, if_neg (by simp), hacc, List.take_length]
/-- What the laws ask: a small pool, few reports. -/
theorem zye (φ : Nat) (hφ : 1000 < φ) (p : Pool) (l : List zi) : ∃ b, zc4 φ p l = some (b, ()) ∧ (b = true → FewL l ∧ l.length ≤ 60 ∧ p.network.places.length ≤ 16 ∧ p.network.edges.length ≤ 40 ∧ p.fleet.wagons.length ≤ 8 ∧ p.readers.length ≤ 8) := by
  have hsmall : ∃ b, z4d φ p = some (b, ()) ∧ (b = true → p.network.places.length ≤ 16 ∧ p.network.edges.length ≤ 40 ∧ p.fleet.wagons.length ≤ 8 ∧ p.readers.length ≤ 8) := by
    unfold z4d
    split
    · exact ⟨false, rfl, fun h => by cases h⟩
    · rename_i hc
      simp only [Bool.or_eq_true, decide_eq_true_eq, not_or] at hc
      obtain ⟨⟨⟨⟨⟨⟨c1, c2⟩, c3⟩, c4⟩, c5⟩, c6⟩, c7⟩ := hc
      have : ∃ b, z0m φ φ 0 p = some (b, ()) := by
        refine z0l (fun n i (_ : Unit) => z0m φ n i p) p.railways.length (fun _ _ => True) (fun o => ∃ b, o = some (b, ())) ?_ ?_ φ () trivial (by omega)
        · intro n i _ hi _ hs
          rw [z0m, if_pos (by simp; omega), z2 ⟨by omega, by omega⟩, W_id (by omega) (by omega)]
          split
          · exact ⟨false, rfl⟩
          · exact hs () trivial
        · intro n _ _
          rw [z0m, if_neg (by simp)]
          exact ⟨true, rfl⟩
      obtain ⟨b, hb⟩ := this
      exact ⟨b, hb, fun _ => by omega⟩
  have hfew : ∃ b, z3n φ l 60 = some (b, ()) ∧ (b = true → FewL l ∧ l.length ≤ 60) := by
    unfold z3n
    by_cases h60 : 60 < l.length
    · rw [if_pos (by simp; omega)]
      exact ⟨false, rfl, fun h => by cases h⟩
    · rw [if_neg (by simp; omega)]
      refine z0l (fun n i (_ : Unit) => z0y φ n l i) l.length (fun i _ => ∀ j : Nat, j < i → (gt l (j : Int)).item.parts.length ≤ 40) (fun o => ∃ b, o = some (b, ()) ∧ (b = true → FewL l ∧ l.length ≤ 60)) ?_ ?_ φ () (fun j hj => by omega) (by omega)
      · intro n i _ hi hI hs
        rw [z0y, if_pos (by simp; omega), z2 ⟨by omega, by omega⟩, z2 (fun _ => ⟨by omega, by omega⟩), W_id (by omega) (by omega)]
        split
        · exact ⟨false, rfl, fun h => by cases h⟩
        · rename_i hc
          simp only [Bool.or_eq_true, decide_eq_true_eq, not_or] at hc
          refine hs () fun j hj => ?_
          by_cases e : j = i
          · subst e; omega
          · exact hI j (by omega)
      · intro n _ hI
        rw [z0y, if_neg (by simp)]
        refine ⟨true, rfl, fun _ => ⟨⟨by omega, fun r hr => ?_⟩, by omega⟩⟩
        obtain ⟨j, hj, rfl⟩ := zv7 hr
        have := hI j hj
        omega
  obtain ⟨b1, h1, h2⟩ := hsmall
  obtain ⟨b2, h3, h4⟩ := hfew
  unfold zc4
  rw [h1, Option.bind_some]
  cases b1 with
  | false =>
    rw [gz_f (by simp), Option.bind_some]
    exact ⟨_, rfl, fun h => by cases h⟩
  | true =>
    rw [gz_t rfl, h3, Option.bind_some]
    refine ⟨_, rfl, fun h => ?_⟩
    obtain ⟨q1, q2⟩ := h4 h
    obtain ⟨a1, a2, a3, a4⟩ := h2 rfl
    exact ⟨q1, q2, a1, a2, a3, a4⟩
end Px
end
section
namespace Px
open Go
set_option linter.unusedVariables false
set_option linter.unusedSimpArgs false
theorem zxh : zde 100000000 = some (true, ()) := by kernel_rfl
theorem zqi {p : Pool} {l : List zi} (hl : l.length ≤ 1000) (w : Int) : (srt p l w).Pairwise fun a b => a.visit.early ≤ b.visit.early := by
  have h := z86 (α := {y : z1 // okEv y = true}) znb
  have hok : ∀ y ∈ uns p l w, okEv y = true := fun y hy => by
    obtain ⟨h1, h2, _⟩ := zue hl hy
    simp only [okEv, decide_eq_true_eq]; omega
  have hm := zgg (fun y : {y : z1 // okEv y = true} => y.1) ltEv ((uns p l w).attach.map fun y => ⟨y.1, hok y.1 y.2⟩)
  rw [zg6] at hm
  unfold srt
  rw [← hm, List.pairwise_map]
  refine (h _).imp ?_
  intro a b hab
  simp only [Proofs.ltOf, decide_eq_false_iff_not] at hab
  rw [zcn] at hab
  omega
theorem zjv : ∀ (t : List z1) (m : List (Int × Bool)), (zgt t m).map (fun e => e.visit.early) = t.map fun e => e.visit.early
  | [], _ => rfl
  | e :: t, m => by simp only [zgt, List.map_cons, zjv t]; rfl
theorem zlv {p : Pool} {l : List zi} (hl : l.length ≤ 1000) (w : Int) : (za9 p l w).Pairwise fun a b => a.visit.early ≤ b.visit.early := by
  have := zqi (p := p) hl w
  rw [← List.pairwise_map (f := fun e : z1 => e.visit.early) (R := (· ≤ ·))] at this ⊢
  unfold za9
  rw [zjv]; exact this
/-- A span in two parts. -/
theorem zfo {f : Int → Int → Int} (hf : ∀ a b, 0 ≤ f a b) {a b c : Int} (h1 : a ≤ b) (h2 : b < c) : ∀ t : List z1, t.Pairwise (fun a b => a.visit.early ≤ b.visit.early) →
    z6x f ⟨a, b⟩ t + z6x f ⟨b + 1, c⟩ t ≤ z6x f ⟨a, c⟩ t
  | [], _ => by simp [z6x]
  | [x], _ => by simp [z6x]
  | x :: y :: l, h => by
    have ih := zfo hf h1 h2 (y :: l) (List.pairwise_cons.1 h).2
    have hxy := (List.pairwise_cons.1 h).1 y (List.mem_cons_self)
    have := hf x.visit.place y.visit.place
    simp only [z6x]
    by_cases c1 : a ≤ x.visit.early ∧ y.visit.early ≤ b
    · rw [if_pos c1, if_neg (by omega), if_pos (by omega)]; omega
    · rw [if_neg c1]
      by_cases c2 : b + 1 ≤ x.visit.early ∧ y.visit.early ≤ c
      · rw [if_pos c2, if_pos (by omega)]; omega
      · rw [if_neg c2]
        split <;> omega
theorem zrm (φ : Nat) (p : Pool) (l : List zi) (w a b c : Int) : (z4x φ).F (p, l, w, a, b, c, ()) = z6h φ p l w a b c := rfl
theorem zjg (x : Tup TT [30, 38, 0, 0, 0, 0]) (h : zvz TV 30 [30, 38, 0, 0, 0, 0] x) : ∃ φ, (z4x φ).F x = some (true, ()) := by
  obtain ⟨p, l, w, a, b, c, _⟩ := x
  obtain ⟨_, _, _, ha, hb, hc, _⟩ := h
  have ha : RI .i64 a := ha
  have hb : RI .i64 b := hb
  have hc : RI .i64 c := hc
  change List zi at l
  change Pool at p
  change Int at w a b c
  suffices key : ∃ φ, z6h φ p l w a b c = some (true, ()) by
    obtain ⟨φ, h⟩ := key
    exact ⟨φ, (zrm φ p l w a b c).trans h⟩
  refine ⟨100000000, ?_⟩
  unfold z6h
  obtain ⟨bf, hbf, hfew⟩ := zye 100000000 (by omega) p l
  rw [zxh, Option.bind_some, if_neg (by simp), hbf, Option.bind_some]
  by_cases h0 : bf = true ∧ a ≤ b ∧ b < c
  case neg =>
    rw [if_pos (by
      simp only [Bool.or_eq_true, Bool.not_eq_true', decide_eq_true_eq]
      cases bf
      · exact .inl (.inl rfl)
      · simp at h0; omega)]
  obtain ⟨rfl, hab, hbc⟩ := h0
  obtain ⟨hl, hlen, _⟩ := hfew rfl
  rw [if_neg (by simp; omega)]
  have hex : ∃ f : Int → Int → Int, ∀ a b, z3w 100000000 p.network a b = some (f a b, ()) ∧ 0 ≤ f a b ∧ f a b ≤ 10000000000000 :=
    ⟨fun a b => Classical.choose (zl4 100000000 (by omega) p.network a b), fun a b => Classical.choose_spec (zl4 100000000 (by omega) p.network a b)⟩
  obtain ⟨f, hf⟩ := hex
  have hmax : c ≤ 9223372036854775807 := hc.2
  have hmin : -9223372036854775808 ≤ b := hb.1
  rw [zvq _ (by omega) p hl hf, zvq _ (by omega) p hl hf, zvq _ (by omega) p hl hf, W_id (x := b + 1) (by omega) (by omega)]
  simp only [Option.bind_some]
  by_cases hcp : z2f p = 0
  case neg =>
    simp only [if_pos hcp]
    rw [if_pos (by simpa using hcp)]
    simp
  simp only [if_neg (fun h : z2f p ≠ 0 => h hcp)]
  by_cases h3 : z8c p w ⟨a, c⟩
  case neg =>
    simp only [if_neg h3]
    rw [if_pos (by decide)]
    by_cases h1 : z8c p w ⟨a, b⟩
    · simp only [if_pos h1]; simp
    · simp only [if_neg h1]
      by_cases h2 : z8c p w ⟨b + 1, c⟩
      · simp only [if_pos h2]; simp
      · simp only [if_neg h2]; simp
  have h1 : z8c p w ⟨a, b⟩ := ⟨h3.1, h3.2.1, h3.2.2.1, hab, by have := h3.2.2.2.2; simp at this; show b ≤ _; omega⟩
  have h2 : z8c p w ⟨b + 1, c⟩ := ⟨h3.1, h3.2.1, by have := h3.2.2.1; simp at this; show 0 ≤ b + 1; omega, by show b + 1 ≤ c; omega, h3.2.2.2.2⟩
  simp only [if_pos h1, if_pos h2, if_pos h3]
  rw [if_neg (by decide)]
  have htl := zg5 (p := p) hl.len w
  have hpw := zlv (p := p) hl.len w
  rw [zsx _ (by omega) p hl, Option.bind_some, if_pos (show z2f p = 0 ∧ 0 ≤ w ∧ w < (p.fleet.wagons.length : Int) from ⟨hcp, h3.1, h3.2.1⟩)]
  simp only [List.length_map]
  generalize za9 p l w = t at *
  have hparts := zfo (fun x y => (hf x y).2.1) hab hbc t hpw
  have b1 := zc3 (f := f) (M := 10000000000000) (by omega) (fun x y => (hf x y).2) ⟨a, b⟩ t
  have b2 := zc3 (f := f) (M := 10000000000000) (by omega) (fun x y => (hf x y).2) ⟨b + 1, c⟩ t
  have b3 := zc3 (f := f) (M := 10000000000000) (by omega) (fun x y => (hf x y).2) ⟨a, c⟩ t
  have hz : t.length ≤ 1 → z6x f ⟨a, c⟩ t = 0 := by
    intro h
    match t, h with
    | [], _ => rfl
    | [x], _ => rfl
    | x :: y :: q, h => simp at h
  generalize z6x f ⟨a, b⟩ t = k1 at *
  generalize z6x f ⟨b + 1, c⟩ t = k2 at *
  generalize z6x f ⟨a, c⟩ t = k3 at *
  rw [W_id (by omega) (by omega), if_neg (by simp; omega)]
  congr 2
  simp only [Bool.or_eq_true, decide_eq_true_eq, beq_iff_eq]
  by_cases ht : t.length ≤ 1
  · exact .inr (hz ht)
  · exact .inl (by omega)
end Px
end
