/- A part of the proof of sightStays_holds. Conditions: none. -/
import Derived.Test.YtlejlmkoalncgaaGreatZdf
section
namespace Px
open Go
set_option linter.unusedVariables false
set_option linter.unusedSimpArgs false
theorem zxb {n b : Nat} (h : n ≤ 100000) (hb : b ≤ 1000) : fits n b := by
  unfold fits
  have : n * b ≤ 100000 * 1000 := Nat.mul_le_mul h hb
  omega
def z4d (r : zf) (place time : Int) : z0c := ⟨r.item.wagon, place, r.ref, false, time, time⟩
/-- The events of a report that counts. -/
def evs (p : Pool) (r : zf) (i : Int) : List z1 :=
  if r.item.kind = 1 then [⟨z4d r (gt p.readers r.item.other).place r.item.from_, i, false, false, r.item.other⟩]
  else if r.item.kind = 2 ∨ r.item.kind = 9 then [⟨z4d r r.item.place r.item.from_, i, false, true, -1⟩, ⟨z4d r r.item.place r.item.to, i, true, true, -1⟩]
  else if r.item.kind = 3 ∨ r.item.kind = 4 ∨ r.item.kind = 6 ∨ r.item.kind = 7 then [⟨z4d r r.item.place r.item.from_, i, false, false, -1⟩] else []
theorem zs2 (φ : Nat) (p : Pool) (r : zf) (i : Int) (h : r.item.kind = 1 → 0 ≤ r.item.other ∧ r.item.other < (p.readers.length : Int)) : z0b φ p r i = some (evs p r i, ()) := by
  by_cases h1 : r.item.kind = 1
  · have h' := h h1
    simp [z0b, evs, h1, z2 h', zm, z4d]
  by_cases h2 : r.item.kind = 2
  · simp [z0b, evs, h2, zu, z1c, z1b, zm, z4d]
  by_cases h9 : r.item.kind = 9
  · simp [z0b, evs, h9, zu, z1c, z1b, zm, z4d]
  by_cases h3 : r.item.kind = 3
  · simp [z0b, evs, h3, zu, zt, zm, z4d]
  by_cases h4 : r.item.kind = 4
  · simp [z0b, evs, h4, zu, zt, zm, z4d]
  by_cases h6 : r.item.kind = 6
  · simp [z0b, evs, h6, zu, zt, zm, z4d]
  by_cases h7 : r.item.kind = 7
  · simp [z0b, evs, h7, zu, zt, zm, z4d]
  · simp [z0b, evs, h1, h2, h9, h3, h4, h6, h7, zu, zt]
theorem zdz {p : Pool} {r : zf} {i : Int} {x : z1} (h : x ∈ evs p r i) : x.report = i ∧ x.visit.wagon = r.item.wagon ∧ x.visit.ref = r.ref := by
  unfold evs at h
  split at h
  · simp only [List.mem_singleton] at h; subst h; exact ⟨rfl, rfl, rfl⟩
  · split at h
    · simp only [List.mem_cons, List.not_mem_nil, or_false] at h
      rcases h with rfl | rfl <;> exact ⟨rfl, rfl, rfl⟩
    · split at h
      · simp only [List.mem_singleton] at h; subst h; exact ⟨rfl, rfl, rfl⟩
      · cases h
theorem zxa (p : Pool) (r : zf) (i : Int) : (evs p r i).length ≤ 2 := by
  unfold evs
  split
  · simp
  · split
    · simp
    · split <;> simp
theorem y71 (p : Pool) (r : zf) (i : Int) : (evs p r i).Pairwise fun a b => a.report ≠ b.report ∨ a.second ≠ b.second := by
  unfold evs
  split
  · simp
  · split
    · simp
    · split <;> simp
/-- The numbers of the reports that count. -/
def cntN (p : Pool) (l : List zf) (n : Nat) : List Int := ((List.range n).filter fun (i : Nat) => zek p (gt l (i : Int)).item).map fun (i : Nat) => (i : Int)
def cnt (p : Pool) (l : List zf) : List Int := cntN p l l.length
theorem zyi (p : Pool) (l : List zf) (n : Nat) : cntN p l (n + 1) = cntN p l n ++ (bif zek p (gt l (n : Int)).item then [(n : Int)] else []) := by
  unfold cntN
  rw [List.range_succ, List.filter_append, List.map_append]
  congr 1
  cases h : zek p (gt l (n : Int)).item <;> simp [h]
theorem zis (p : Pool) (l : List zf) (n : Nat) : (cntN p l n).length ≤ n := by
  unfold cntN
  rw [List.length_map]
  exact Nat.le_trans (List.length_filter_le _ _) (by simp)
theorem zxz {p : Pool} {l : List zf} {i : Int} (h : i ∈ cnt p l) : 0 ≤ i ∧ i < (l.length : Int) ∧ zek p (gt l i).item = true := by
  simp only [cnt, cntN, List.mem_map, List.mem_filter, List.mem_range] at h
  obtain ⟨n, ⟨h1, h2⟩, rfl⟩ := h
  exact ⟨by omega, by omega, h2⟩
theorem y78 (p : Pool) (l : List zf) : (cnt p l).Pairwise (· < ·) := by
  unfold cnt cntN
  rw [List.pairwise_map]
  refine (List.pairwise_lt_range.filter _).imp ?_
  intro a b h
  omega
/-- A list of reports that the laws admit. -/
structure FewL (l : List zf) : Prop where
  len : l.length ≤ 1000
  parts : ∀ r ∈ l, r.item.parts.length ≤ 1000
theorem FewL.gt {l : List zf} (h : FewL l) {i : Int} (h0 : 0 ≤ i) (hi : i < (l.length : Int)) : (Px.gt l i).item.parts.length ≤ 1000 := h.parts _ (z9a h0 hi)
theorem zuq (φ : Nat) (hφ : 800000 < φ) {p : Pool} (hc : z1l p = 0) {l : List zf} (hl : FewL l) : z8l φ p l = some (cnt p l, ()) := by
  have h1 := hl.len
  unfold z8l
  refine z00 (fun n i acc => z1f φ n l (l.length : Int) i p acc) l.length (fun i acc => acc = cntN p l i) (fun o => o = some (cnt p l, ())) ?_ ?_ φ [] rfl (by omega)
  · intro n i acc hi hacc hs
    rw [z1f, if_pos (by simp; omega), z2 ⟨by omega, by omega⟩, zr9 φ hφ hc (hl.gt (by omega) (by omega)), Option.bind_some, W_id (by omega) (by omega)]
    have hs' := hs (cntN p l (i + 1)) rfl
    rw [zyi] at hs'
    cases h : zek p (gt l (i : Int)).item with
    | true =>
      rw [h] at hs'
      rw [if_pos (by rfl), z2 (zxb (by have := zis p l i; rw [hacc]; simp; omega) (by omega)), hacc]
      exact hs'
    | false =>
      rw [h] at hs'
      simp only [cond_false, List.append_nil] at hs'
      rw [if_neg (by decide), hacc]
      exact hs'
  · intro n acc hacc
    rw [z1f, if_neg (by simp), hacc]; rfl
/-- The events of a wagon, as they were collected. -/
def unsC (p : Pool) (l : List zf) (c : List Int) (w : Int) : List z1 := c.flatMap fun i => if (gt l i).item.wagon = w then evs p (gt l i) i else []
def uns (p : Pool) (l : List zf) (w : Int) : List z1 := unsC p l (cnt p l) w
theorem zfs (p : Pool) (l : List zf) (w : Int) : ∀ c : List Int, (unsC p l c w).length ≤ 2 * c.length
  | [] => by simp [unsC]
  | i :: c => by
    have := zfs p l w c
    have h2 := zxa p (gt l i) i
    unfold unsC at *
    rw [List.flatMap_cons, List.length_append, List.length_cons]
    split
    · omega
    · simp only [List.length_nil]; omega
theorem y5q {a b : z1} (h : a.report ≠ b.report ∨ a.second ≠ b.second) : cfEv a b < 0 ∨ cfEv b a < 0 := by
  rw [zaz, zaz]
  have h2 : a.second ≠ b.second → ordB a.second ≠ ordB b.second := by
    cases a.second <;> cases b.second <;> simp [ordB]
  by_cases hs : a.second = b.second
  · have h3 := h.resolve_right (fun q => q hs)
    rw [hs]; omega
  · have := h2 hs
    omega
theorem y7r (p : Pool) (l : List zf) (w : Int) : (uns p l w).Pairwise fun a b => a.report ≠ b.report ∨ a.second ≠ b.second := by
  unfold uns unsC
  rw [List.pairwise_flatMap]
  refine ⟨fun i hi => ?_, (y78 p l).imp ?_⟩
  · split
    · exact y71 _ _ _
    · exact List.Pairwise.nil
  · intro i j hij x hx y hy
    split at hx
    · split at hy
      · rw [(zdz hx).1, (zdz hy).1]
        exact .inl (by omega)
      · cases hy
    · cases hx
theorem ztm {p : Pool} {l : List zf} (hl : l.length ≤ 1000) {w : Int} {x : z1} (h : x ∈ uns p l w) : 0 ≤ x.report ∧ x.report < (l.length : Int) ∧ x.visit.wagon = w ∧ zek p (gt l x.report).item = true ∧ x ∈ evs p (gt l x.report) x.report := by
  simp only [uns, unsC, List.mem_flatMap] at h
  obtain ⟨i, hi, hx⟩ := h
  obtain ⟨h1, h2, h3⟩ := zxz hi
  split at hx
  · rename_i hw
    obtain ⟨r1, r2, r3⟩ := zdz hx
    rw [r1]
    exact ⟨h1, h2, by rw [r2, hw], h3, hx⟩
  · cases hx
def ltEv (a b : z1) : Bool := decide (cfEv a b < 0)
def srt (p : Pool) (l : List zf) (w : Int) : List z1 := zdj ltEv (uns p l w)
theorem zvk {p : Pool} {l : List zf} (hl : l.length ≤ 1000) (w : Int) : sortEv (uns p l w) = some (srt p l w) := by
  refine zzg (fun y hy => ?_) ?_ ((y7r p l w).imp fun h => y5q h)
  · obtain ⟨h1, h2, _⟩ := ztm hl hy
    simp only [okEv, decide_eq_true_eq]; omega
  · have := zfs p l w (cnt p l)
    have h2 := zis p l l.length
    unfold uns cnt at *
    omega
/-- Stays cover the gaps of a z34. -/
def covM (e : z1) (m : List (Int × Bool)) : List (Int × Bool) := if (e.stay && e.second) = true then mdel m e.report else if e.stay = true then mset m e.report true else m
def zgv (e : z1) (b : Bool) : z1 := ⟨⟨e.visit.wagon, e.visit.place, e.visit.ref, b, e.visit.early, e.visit.late⟩, e.report, e.second, e.stay, e.reader⟩
def zct : List z1 → List (Int × Bool) → List z1
  | [], _ => []
  | e :: t, m => zgv e (decide ((0 : Int) < ((covM e m).length : Int))) :: zct t (covM e m)
theorem zp5 : ∀ (t : List z1) (m : List (Int × Bool)), (zct t m).length = t.length
  | [], _ => rfl
  | e :: t, m => by simp [zct, zp5 t]
def z34 (p : Pool) (l : List zf) (w : Int) : List z1 := zct (srt p l w) []
theorem zwa {α : Type} (a : List α) (x y : α) (b : List α) : zz (a ++ x :: b) (a.length : Int) y = a ++ y :: b := by
  simp [zz]
theorem y25 {α : Type} [Inhabited α] (a : List α) (x : α) (b : List α) : gt (a ++ x :: b) (a.length : Int) = x := by
  simp [gt]
theorem zuf (φ : Nat) (k : Int → Int → List (List z1) → Option ((List (List z1)) × Unit)) (x19 x20 x24 : Int) (x23 : List (List z1)) :
    ∀ (n : Nat) (done todo : List z1) (m : List (Int × Bool)), todo.length < n → done.length + todo.length ≤ 100000 →
      z0f φ k n ((done.length + todo.length : Nat) : Int) (done.length : Int) x19 x20 (done ++ todo) m x23 x24 = k x19 (W (x20 + 1)) (zz x23 x24 (done ++ zct todo m)) := by
  intro n
  induction n with
  | zero => intro d t m h _; omega
  | succ n ih =>
    intro d t m hn hl
    cases t with
    | nil =>
      rw [z0f, if_neg (by simp)]
      rfl
    | cons e t =>
      simp only [List.length_cons] at hn hl
      have hin : (0 : Int) ≤ (d.length : Int) ∧ (d.length : Int) < ((d ++ e :: t).length : Int) := ⟨by omega, by simp; omega⟩
      have key : ∀ m', z23 φ (z0f φ k n) (d.length : Int) ((d.length + (e :: t).length : Nat) : Int) (d.length : Int) x19 x20 (d ++ e :: t) m' x23 x24 =
          k x19 (W (x20 + 1)) (zz x23 x24 (d ++ zgv e (decide ((0 : Int) < (m'.length : Int))) :: zct t m')) := by
        intro m'
        unfold z23
        rw [z2 hin, y25, W_id (by omega) (by omega), zwa]
        have := ih (d ++ [zgv e (decide ((0 : Int) < (m'.length : Int)))]) t m' (by omega) (by simp; omega)
        simp only [List.length_append, List.length_cons, List.length_nil, List.append_assoc, List.cons_append, List.nil_append] at this
        rw [show ((d.length + (e :: t).length : Nat) : Int) = ((d.length + (0 + 1) + t.length : Nat) : Int) by simp; omega, show (d.length : Int) + 1 = ((d.length + (0 + 1) : Nat) : Int) by omega]
        exact this
      rw [z0f, if_pos (by simp; omega), z2 hin, z2 (fun _ => hin), y25]
      have hg : ∀ m', covM e m = m' → zct (e :: t) m = zgv e (decide ((0 : Int) < (m'.length : Int))) :: zct t m' := fun m' hm => by subst hm; rfl
      by_cases h1 : (e.stay && e.second) = true
      · rw [if_pos h1, z2 hin, key, hg _ (if_pos h1)]
      · rw [if_neg h1, z2 hin]
        by_cases h2 : e.stay = true
        · rw [if_pos h2, z2 hin, key, hg (mset m e.report true) (by unfold covM; rw [if_neg h1, if_pos h2])]
        · rw [if_neg h2, key, hg m (by unfold covM; rw [if_neg h1, if_neg h2])]
theorem zqn (φ : Nat) (hφ : 800000 < φ) {p : Pool} (hc : z1l p = 0) {l : List zf} (hl : FewL l) : z5b φ p l = some ((List.range p.fleet.wagons.length).map fun (w : Nat) => z34 p l (w : Int), ()) := by
  have h1 := hl.len
  obtain ⟨_, hf, _⟩ := zas hc
  obtain ⟨_, f2, _⟩ := z54 hf
  have hcl := zis p l l.length
  unfold z5b
  rw [z2 (mk_t _ _ (by omega) (by omega) (by omega)), zuq φ hφ hc hl, Option.bind_some]
  generalize hn0 : p.fleet.wagons.length = n0 at *
  have second : ∀ out : List (List z1), out.length = n0 → (∀ w : Nat, w < n0 → gt out (w : Int) = uns p l w) → z0v φ φ (out.length : Int) 0 out = some ((List.range n0).map fun (w : Nat) => z34 p l (w : Int), ()) := by
    intro out ho hu
    rw [ho]
    refine z00 (fun n i o => z0v φ n (n0 : Int) i o) n0 (fun i o => o.length = n0 ∧ ∀ w : Nat, w < n0 → gt o (w : Int) = if w < i then z34 p l w else uns p l w) (fun o => o = some ((List.range n0).map fun (w : Nat) => z34 p l (w : Int), ())) ?_ ?_ φ out ⟨ho, fun w hw => by rw [hu w hw, if_neg (by omega)]⟩ (by omega)
    · intro n i o hi ⟨ho1, ho2⟩ hs
      rw [z0v, if_pos (by simp; omega), z2 ⟨by omega, by omega⟩, z2 ⟨by omega, by omega⟩, z2 rfl, ho2 i hi, if_neg (by omega), zvk h1, Option.bind_some]
      have hsl : (srt p l (i : Int)).length ≤ 2000 := by
        rw [srt, (z20 _ _).length_eq]
        have := zfs p l i (cnt p l)
        unfold uns cnt at *
        omega
      have := zuf φ (z0v φ n) (n0 : Int) (i : Int) (i : Int) o φ [] (srt p l (i : Int)) [] (by omega) (by simp; omega)
      simp only [List.length_nil, Nat.zero_add, List.nil_append] at this
      refine this.trans ?_
      rw [W_id (by omega) (by omega)]
      refine hs _ ⟨by rw [z1y]; exact ho1, fun w hw => ?_⟩
      rw [z0w _ _ _ _ (by omega) (by omega) (by omega)]
      by_cases e : w = i
      · subst e; rw [if_pos rfl, if_pos (by omega)]; rfl
      · rw [if_neg (by omega), ho2 w hw]
        by_cases h2 : w < i
        · rw [if_pos h2, if_pos (by omega)]
        · rw [if_neg h2, if_neg (by omega)]
    · intro n o ⟨ho1, ho2⟩
      rw [z0v, if_neg (by simp)]
      congr 2
      refine List.ext_getElem (by simp [ho1]) fun w hw hw2 => ?_
      have := ho2 w (by omega)
      rw [zch hw, if_pos (by omega)] at this
      simpa using this
  refine z00 (fun n i o => z1i φ n l (cnt p l) ((cnt p l).length : Int) i p o) (cnt p l).length (fun i o => o.length = n0 ∧ ∀ w : Nat, w < n0 → gt o (w : Int) = unsC p l ((cnt p l).take i) w) (fun o => o = some ((List.range n0).map fun (w : Nat) => z34 p l (w : Int), ())) ?_ ?_ φ _ ⟨by simp, fun w hw => ?_⟩ (by unfold cnt; omega)
  · intro n i o hi ⟨ho1, ho2⟩ hs
    have hmem : gt (cnt p l) (i : Int) ∈ cnt p l := z9a (by omega) (by omega)
    obtain ⟨c1, c2, c3⟩ := zxz hmem
    have hI := zfw hc (hl.gt c1 c2) c3
    have hcn : (cnt p l).length ≤ 1000 := by unfold cnt; omega
    rw [z1i, if_pos (by simp; omega), z2 ⟨by omega, by omega⟩, z2 ⟨c1, c2⟩, zs2 φ p _ _ hI.read, Option.bind_some]
    have hW : W ((i : Int) + 1) = (i : Int) + 1 := W_id (by omega) (by omega)
    have htake : ∀ w, unsC p l ((cnt p l).take (i + 1)) w = unsC p l ((cnt p l).take i) w ++ (if (gt l (gt (cnt p l) (i : Int))).item.wagon = w then evs p (gt l (gt (cnt p l) (i : Int))) (gt (cnt p l) (i : Int)) else []) := by
      intro w
      rw [z0n _ _ hi]
      simp [unsC]
    generalize gt (cnt p l) (i : Int) = ci at *
    generalize hev : evs p (gt l ci) ci = E at *
    have hE : E.length ≤ 2 := by rw [← hev]; exact zxa _ _ _
    simp only []
    by_cases h0 : 0 < E.length
    · have hkind : (gt l ci).item.kind ≤ 9 := by
        rcases Int.lt_or_le 9 (gt l ci).item.kind with h | h
        · exfalso
          have : E = [] := by
            rw [← hev]; unfold evs
            rw [if_neg (by omega), if_neg (by omega), if_neg (by omega)]
          rw [this] at h0; simp at h0
        · exact h
      have hwg := hI.wagon hkind
      rw [hn0] at hwg
      obtain ⟨w0, hw0⟩ : ∃ w0 : Nat, (gt l ci).item.wagon = (w0 : Int) := ⟨(gt l ci).item.wagon.toNat, by omega⟩
      rw [hw0] at hwg htake ⊢
      have hwg' : (0 : Int) ≤ (w0 : Int) ∧ (w0 : Int) < (o.length : Int) := ⟨by omega, by omega⟩
      have hul := zfs p l w0 ((cnt p l).take i)
      rw [if_pos (by simpa using h0), z2 ⟨c1, c2⟩, z2 hwg', z2 hwg', z2 trivial, ho2 w0 (by omega),
        z2 (zxb (by rw [List.length_take] at hul; omega) (by omega)), z2 hwg', z2 trivial, hW]
      refine hs _ ⟨by rw [z1y]; exact ho1, fun w hw => ?_⟩
      rw [z0w _ _ _ _ (by omega) (by omega) (by omega), htake]
      by_cases e : (w : Int) = (w0 : Int)
      · rw [if_pos e, e, if_pos rfl]
      · rw [if_neg e, if_neg (fun q => e q.symm), List.append_nil, ho2 w hw]
    · have hnil : E = [] := List.eq_nil_of_length_eq_zero (by omega)
      rw [if_neg (by simpa using h0), hW]
      refine hs _ ⟨ho1, fun w hw => ?_⟩
      rw [htake, hnil, ho2 w hw]
      split <;> simp
  · intro n o ⟨ho1, ho2⟩
    rw [z1i, if_neg (by simp)]
    refine second o ho1 fun w hw => ?_
    rw [ho2 w hw, List.take_length]; rfl
  · rw [z3w _ _ _ (by omega) (by simp; omega)]
    simp [unsC]
    rfl
theorem zz3 {p : Pool} {l : List zf} {w : Int} (h0 : 0 ≤ w) (h : w < (p.fleet.wagons.length : Int)) : gt ((List.range p.fleet.wagons.length).map fun (w : Nat) => z34 p l (w : Int)) w = z34 p l w := by
  obtain ⟨n, rfl⟩ : ∃ n : Nat, w = (n : Int) := ⟨w.toNat, by omega⟩
  rw [zch (by simp; omega)]
  simp
end Px
end
section
namespace Px
open Go
set_option linter.unusedVariables false
set_option linter.unusedSimpArgs false
theorem zgg (m : List (Int × Int)) (a v c : Int) : mget (mset m a v) c = if c = a then some v else mget m c := by
  induction m with
  | nil =>
    show (bif c == a then some v else none) = _
    by_cases h : c = a
    · rw [if_pos h]; simp [h]
    · rw [if_neg h]
      have : (c == a) = false := by simpa using h
      rw [this]; rfl
  | cons p m ih =>
    obtain ⟨k, w⟩ := p
    show mget (bif a == k then (a, v) :: m else (k, w) :: mset m a v) c = _
    have e1 : mget ((k, w) :: m) c = bif c == k then some w else mget m c := rfl
    by_cases h1 : a = k
    · subst h1
      simp only [beq_self_eq_true, cond_true]
      show (bif c == a then some v else mget m c) = _
      rw [e1]
      by_cases h : c = a
      · rw [if_pos h]; simp [h]
      · rw [if_neg h]
        have : (c == a) = false := by simpa using h
        rw [this]; rfl
    · have : (a == k) = false := by simpa using h1
      rw [this]
      show (bif c == k then some w else mget (mset m a v) c) = _
      rw [ih, e1]
      by_cases h2 : c = k
      · subst h2
        have h3 : ¬ c = a := fun e => h1 e.symm
        simp [h3]
      · have : (c == k) = false := by simpa using h2
        rw [this]; rfl
theorem zji {p : Pool} {l : List zf} (hl : l.length ≤ 1000) (w : Int) : (z34 p l w).length ≤ 2000 := by
  unfold z34
  rw [zp5, srt, (z20 _ _).length_eq]
  have := zfs p l w (cnt p l)
  have := zis p l l.length
  unfold uns cnt at *
  omega
/-- The visits of a wagon. -/
theorem y1g (φ : Nat) (hφ : 800000 < φ) (p : Pool) {l : List zf} (hl : FewL l) (w : Int) :
    z95 φ p l w = some (if z1l p = 0 ∧ 0 ≤ w ∧ w < (p.fleet.wagons.length : Int) then (z34 p l w).map (·.visit) else [], ()) := by
  unfold z95
  rw [z61 φ hφ, Option.bind_some]
  by_cases hc : z1l p = 0 ∧ 0 ≤ w ∧ w < (p.fleet.wagons.length : Int)
  case neg =>
    rw [if_neg hc, if_pos (by
      simp only [Bool.or_eq_true, bne_iff_ne, ne_eq, decide_eq_true_eq]
      by_cases h : z1l p = 0
      · omega
      · exact .inl (.inl h))]
  rw [if_pos hc, if_neg (by simp [hc]), zqn φ hφ hc.1 hl, Option.bind_some, z2 ⟨hc.2.1, by simp; exact hc.2.2⟩, zz3 hc.2.1 hc.2.2]
  have htl := zji (p := p) hl.len w
  generalize z34 p l w = t at *
  refine z00 (fun n i acc => z2n φ n t (t.length : Int) i acc) t.length (fun i acc => acc = (t.take i).map (·.visit)) (fun o => o = some (t.map (·.visit), ())) ?_ ?_ φ [] (by simp) (by omega)
  · intro n i acc hi hacc hs
    rw [z2n, if_pos (by simp; omega), z2 ⟨by omega, by omega⟩, z2 (zxb (by rw [hacc]; simp; omega) (by omega)), W_id (by omega) (by omega)]
    refine hs _ ?_
    rw [hacc, z0n t i hi, List.map_append]; rfl
  · intro n acc hacc
    rw [z2n, if_neg (by simp), hacc, List.take_length]
/-- What the laws ask: a small pool, few reports. -/
theorem y68 (φ : Nat) (hφ : 1000 < φ) (p : Pool) (l : List zf) : ∃ b, zgi φ p l = some (b, ()) ∧ (b = true → FewL l ∧ l.length ≤ 60 ∧ p.network.places.length ≤ 16 ∧ p.network.edges.length ≤ 40 ∧ p.fleet.wagons.length ≤ 8 ∧ p.readers.length ≤ 8) := by
  have hsmall : ∃ b, z5v φ p = some (b, ()) ∧ (b = true → p.network.places.length ≤ 16 ∧ p.network.edges.length ≤ 40 ∧ p.fleet.wagons.length ≤ 8 ∧ p.readers.length ≤ 8) := by
    unfold z5v
    split
    · exact ⟨false, rfl, fun h => by cases h⟩
    · rename_i hc
      simp only [Bool.or_eq_true, decide_eq_true_eq, not_or] at hc
      obtain ⟨⟨⟨⟨⟨⟨c1, c2⟩, c3⟩, c4⟩, c5⟩, c6⟩, c7⟩ := hc
      have : ∃ b, z0p φ φ 0 p = some (b, ()) := by
        refine z00 (fun n i (_ : Unit) => z0p φ n i p) p.railways.length (fun _ _ => True) (fun o => ∃ b, o = some (b, ())) ?_ ?_ φ () trivial (by omega)
        · intro n i _ hi _ hs
          rw [z0p, if_pos (by simp; omega), z2 ⟨by omega, by omega⟩, W_id (by omega) (by omega)]
          split
          · exact ⟨false, rfl⟩
          · exact hs () trivial
        · intro n _ _
          rw [z0p, if_neg (by simp)]
          exact ⟨true, rfl⟩
      obtain ⟨b, hb⟩ := this
      exact ⟨b, hb, fun _ => by omega⟩
  have hfew : ∃ b, z4w φ l 60 = some (b, ()) ∧ (b = true → FewL l ∧ l.length ≤ 60) := by
    unfold z4w
    by_cases h60 : 60 < l.length
    · rw [if_pos (by simp; omega)]
      exact ⟨false, rfl, fun h => by cases h⟩
    · rw [if_neg (by simp; omega)]
      refine z00 (fun n i (_ : Unit) => z12 φ n l i) l.length (fun i _ => ∀ j : Nat, j < i → (gt l (j : Int)).item.parts.length ≤ 40) (fun o => ∃ b, o = some (b, ()) ∧ (b = true → FewL l ∧ l.length ≤ 60)) ?_ ?_ φ () (fun j hj => by omega) (by omega)
      · intro n i _ hi hI hs
        rw [z12, if_pos (by simp; omega), z2 ⟨by omega, by omega⟩, z2 (fun _ => ⟨by omega, by omega⟩), W_id (by omega) (by omega)]
        split
        · exact ⟨false, rfl, fun h => by cases h⟩
        · rename_i hc
          simp only [Bool.or_eq_true, decide_eq_true_eq, not_or] at hc
          refine hs () fun j hj => ?_
          by_cases e : j = i
          · subst e; omega
          · exact hI j (by omega)
      · intro n _ hI
        rw [z12, if_neg (by simp)]
        refine ⟨true, rfl, fun _ => ⟨⟨by omega, fun r hr => ?_⟩, by omega⟩⟩
        obtain ⟨j, hj, rfl⟩ := y2a hr
        have := hI j hj
        omega
  obtain ⟨b1, h1, h2⟩ := hsmall
  obtain ⟨b2, h3, h4⟩ := hfew
  unfold zgi
  rw [h1, Option.bind_some]
  cases b1 with
  | false =>
    rw [gz_f (by simp), Option.bind_some]
    exact ⟨_, rfl, fun h => by cases h⟩
  | true =>
    rw [gz_t rfl, h3, Option.bind_some]
    refine ⟨_, rfl, fun h => ?_⟩
    obtain ⟨q1, q2⟩ := h4 h
    obtain ⟨a1, a2, a3, a4⟩ := h2 rfl
    exact ⟨q1, q2, a1, a2, a3, a4⟩
end Px
end
section
namespace Px
open Go
set_option linter.unusedVariables false
set_option linter.unusedSimpArgs false
theorem zx9 (φ : Nat) (hφ : 800000 < φ) (x : z6) (a b : z0c) : ∃ t, z3x φ x a b = some (t, ()) ∧ 0 ≤ t ∧ t ≤ 1073741825 := by
  unfold z3x
  split
  · exact ⟨_, rfl, by omega, by omega⟩
  · obtain ⟨t, e, h, h1, h2⟩ := zv0 φ hφ x a.place b.place
    rw [h, Option.bind_some]
    split
    · exact ⟨_, rfl, by omega, by omega⟩
    · exact ⟨_, rfl, h1, by omega⟩
/-- The least travel time as Build takes it. -/
def tvl (φ : Nat) (x : z6) (a b : z0c) : Int := ((z3x φ x a b).getD default).1
theorem y2n (φ : Nat) (hφ : 800000 < φ) (x : z6) (a b : z0c) : z3x φ x a b = some (tvl φ x a b, ()) ∧ 0 ≤ tvl φ x a b ∧ tvl φ x a b ≤ 1073741825 := by
  obtain ⟨t, h, h1, h2⟩ := zx9 φ hφ x a b
  unfold tvl
  rw [h]
  exact ⟨rfl, h1, h2⟩
def y0 : Nat → Ref := fun _ => (default : Ref)
def y1 (r : Ref) : Nat → Ref := upd (fun _ => (default : Ref)) 0 r
def y2 (r q : Ref) : Nat → Ref := upd (upd (fun _ => (default : Ref)) 0 r) 1 q
/-- Which readers are used. -/
def zuh (m : List (Int × Int)) (e : z1) : List (Int × Int) := if 0 ≤ e.reader then mset m e.reader 0 else m
def zlj (m : List (Int × Int)) (t : List z1) : List (Int × Int) := t.foldl zuh m
def used (ts : List (List z1)) : List (Int × Int) := ts.foldl zlj []
/-- What is built. -/
structure BS where
  v : Int
  b : List z8
  y : List (Nat → Ref)
  e : List z1j
structure RS where
  v : Int
  m : List (Int × Int)
  b : List z8
  y : List (Nat → Ref)
def zpc (rs : List z2m) (i : Nat) (s : RS) : RS :=
  if (mget s.m (i : Int)).isSome = true then ⟨s.v + 1, mset s.m (i : Int) s.v, s.b ++ [⟨0, s.v, 0 - (gt rs (i : Int)).low⟩, ⟨s.v, 0, (gt rs (i : Int)).high⟩], s.y ++ [y0, y0]⟩ else s
def rdsN (rs : List z2m) (m : List (Int × Int)) : Nat → RS
  | 0 => ⟨1, m, [], []⟩
  | n + 1 => zpc rs n (rdsN rs m n)
def rv (m : List (Int × Int)) (e : z1) : Int := (mget m e.reader).getD default
def evB (m : List (Int × Int)) (v : Int) (e : z1) : List z8 :=
  if e.reader < 0 then [⟨0, v, e.visit.early⟩, ⟨v, 0, 0 - e.visit.early⟩]
  else [⟨rv m e, v, e.visit.early⟩, ⟨v, rv m e, 0 - e.visit.early⟩, ⟨0, v, 1073741824⟩, ⟨v, 0, 0⟩]
def evY (e : z1) : List (Nat → Ref) := List.replicate (if e.reader < 0 then 2 else 4) (y1 e.visit.ref)
def trB (tv : z0c → z0c → Int) (v : Int) (pr : Option z0c) (e : z1) : List z8 :=
  match pr with
  | none => []
  | some a => [⟨v, v - 1, 0 - tv a e.visit⟩]
def trY (pr : Option z0c) (e : z1) : List (Nat → Ref) :=
  match pr with
  | none => []
  | some a => [y2 a.ref e.visit.ref]
def zl7 (tv : z0c → z0c → Int) (m : List (Int × Int)) (pr : Option z0c) (e : z1) (s : BS) : BS :=
  ⟨s.v + 1, s.b ++ evB m s.v e ++ trB tv s.v pr e, s.y ++ evY e ++ trY pr e, s.e ++ [⟨e.visit.wagon, e.visit.place, s.v, e.visit.ref, e.visit.stay⟩]⟩
def bEv (tv : z0c → z0c → Int) (m : List (Int × Int)) : Option z0c → List z1 → BS → BS
  | _, [], s => s
  | pr, e :: t, s => bEv tv m (some e.visit) t (zl7 tv m pr e s)
def bAll (tv : z0c → z0c → Int) (rs : List z2m) (ts : List (List z1)) : BS :=
  ts.foldl (fun s t => bEv tv (rdsN rs (used ts) rs.length).m none t s) ⟨(rdsN rs (used ts) rs.length).v, (rdsN rs (used ts) rs.length).b, (rdsN rs (used ts) rs.length).y, []⟩
def bEnd (s : BS) : z0o × Int × Unit := if 512 < s.v ∨ 4096 < s.b.length then (⟨0, [], [], []⟩, 2, ()) else (⟨s.v, s.b, s.y, s.e⟩, 0, ())
def z8v (p : Pool) (l : List zf) : List (List z1) := (List.range p.fleet.wagons.length).map fun (w : Nat) => z34 p l (w : Int)
theorem zf3 (rs : List z2m) (m : List (Int × Int)) : ∀ n, 1 ≤ (rdsN rs m n).v ∧ (rdsN rs m n).v ≤ 1 + n ∧ (rdsN rs m n).b.length ≤ 2 * n ∧ (rdsN rs m n).y.length ≤ 2 * n
  | 0 => ⟨by simp [rdsN], by simp [rdsN], by simp [rdsN], by simp [rdsN]⟩
  | n + 1 => by
    obtain ⟨h1, h2, h3, h4⟩ := zf3 rs m n
    simp only [rdsN, zpc]
    split
    · refine ⟨?_, ?_, ?_, ?_⟩ <;> simp <;> omega
    · refine ⟨?_, ?_, ?_, ?_⟩ <;> omega
theorem y4y (m : List (Int × Int)) (v : Int) (e : z1) : (evB m v e).length ≤ 4 := by
  unfold evB; split <;> simp
theorem y4b (e : z1) : (evY e).length ≤ 4 := by
  unfold evY; split <;> simp
theorem y4n (tv : z0c → z0c → Int) (v : Int) (pr : Option z0c) (e : z1) : (trB tv v pr e).length ≤ 1 := by
  cases pr <;> simp [trB]
theorem y3b (pr : Option z0c) (e : z1) : (trY pr e).length ≤ 1 := by
  cases pr <;> simp [trY]
/-- How much there is. -/
structure BB (n : Nat) (s : BS) : Prop where
  v0 : 1 ≤ s.v
  v1 : s.v ≤ 257 + n
  b : s.b.length ≤ 512 + 5 * n
  y : s.y.length ≤ 512 + 5 * n
  e : s.e.length ≤ n
theorem BB.step {n : Nat} {s : BS} (h : BB n s) (tv m pr e) : BB (n + 1) (zl7 tv m pr e s) := by
  have h1 := y4y m s.v e
  have h2 := y4b e
  have h3 := y4n tv s.v pr e
  have h4 := y3b pr e
  obtain ⟨a, b, c, d, f⟩ := h
  unfold zl7
  constructor
  · show 1 ≤ s.v + 1; omega
  · show s.v + 1 ≤ 257 + ((n + 1 : Nat) : Int); omega
  · show (s.b ++ evB m s.v e ++ trB tv s.v pr e).length ≤ _
    rw [List.length_append, List.length_append]; omega
  · show (s.y ++ evY e ++ trY pr e).length ≤ _
    rw [List.length_append, List.length_append]; omega
  · show (s.e ++ [_]).length ≤ _
    rw [List.length_append]; simp; omega
theorem BB.ev (tv m) : ∀ (t : List z1) (n : Nat) (pr : Option z0c) (s : BS), BB n s → BB (n + t.length) (bEv tv m pr t s)
  | [], n, pr, s, h => h
  | e :: t, n, pr, s, h => by
    have := BB.ev tv m t (n + 1) (some e.visit) (zl7 tv m pr e s) (h.step tv m pr e)
    rw [show n + (e :: t).length = n + 1 + t.length by simp; omega]
    exact this
section
variable (φ : Nat)
/-- The two bounds of a reader. -/
theorem y89 (hφ : 10 < φ) (k) (x55 x56 x57 x58 x59 x60 x61 x62 x63 x64 x65 x66 x67 x68) (B : List z8) (x70 x71 x72 x73) (b : List z8) (y : List (Nat → Ref)) (x76 x77 x78 x79) (hB : B.length ≤ 4) (hb : b.length ≤ 50000000) (hy : y.length ≤ 50000000) :
    z1x φ k φ (B.length : Int) 0 x55 x56 x57 x58 x59 x60 x61 x62 x63 x64 x65 x66 x67 x68 B x70 x71 x72 x73 b y x76 x77 x78 x79 = k x55 x56 x57 (W (x58 + 1)) x70 x71 (W (x67 + 1)) x72 x77 x78 x79 (b ++ B) (y ++ List.replicate B.length x68) x76 := by
  refine z00 (fun n i (s : List z8 × List (Nat → Ref)) => z1x φ k n (B.length : Int) i x55 x56 x57 x58 x59 x60 x61 x62 x63 x64 x65 x66 x67 x68 B x70 x71 x72 x73 s.1 s.2 x76 x77 x78 x79) B.length (fun i s => s.1 = b ++ B.take i ∧ s.2 = y ++ List.replicate i x68) (fun o => o = k x55 x56 x57 (W (x58 + 1)) x70 x71 (W (x67 + 1)) x72 x77 x78 x79 (b ++ B) (y ++ List.replicate B.length x68) x76) ?_ ?_ φ (b, y) ⟨by simp, by simp⟩ (by omega)
  · intro n i s hi ⟨h1, h2⟩ hs
    rw [z1x, if_pos (by simp; omega), z2 ⟨by omega, by omega⟩, z2 (zg6 (by rw [h1]; simp; omega) (by omega)), z2 (zg6 (by rw [h2]; simp; omega) (by omega)), W_id (by omega) (by omega)]
    exact hs (_, _) ⟨by rw [h1, z0n B i hi, List.append_assoc], by rw [h2, List.replicate_succ', List.append_assoc]⟩
  · intro n s ⟨h1, h2⟩
    rw [z1x, if_neg (by simp), h1, h2, List.take_length]
theorem y6a (hφ : 10 < φ) (k) (x137 x138 x139 x140 x141 x142 x143 x144 x145 x146 x147 x148 x149 x150 x151 x152 x153 x154 x155 x156 x157) (B : List z8) (x159 x160 x161 x162 x163) (b : List z8) (y : List (Nat → Ref)) (x166 x167 x168 x169) (hB : B.length ≤ 4) (hb : b.length ≤ 50000000) (hy : y.length ≤ 50000000) :
    z1g φ k φ (B.length : Int) 0 x137 x138 x139 x140 x141 x142 x143 x144 x145 x146 x147 x148 x149 x150 x151 x152 x153 x154 x155 x156 x157 B x159 x160 x161 x162 x163 b y x166 x167 x168 x169 = k x137 x138 x139 x140 x141 x142 (W (x143 + 1)) x159 x160 x156 x161 x167 x168 x169 (b ++ B) (y ++ List.replicate B.length x157) x166 := by
  refine z00 (fun n i (s : List z8 × List (Nat → Ref)) => z1g φ k n (B.length : Int) i x137 x138 x139 x140 x141 x142 x143 x144 x145 x146 x147 x148 x149 x150 x151 x152 x153 x154 x155 x156 x157 B x159 x160 x161 x162 x163 s.1 s.2 x166 x167 x168 x169) B.length (fun i s => s.1 = b ++ B.take i ∧ s.2 = y ++ List.replicate i x157) (fun o => o = k x137 x138 x139 x140 x141 x142 (W (x143 + 1)) x159 x160 x156 x161 x167 x168 x169 (b ++ B) (y ++ List.replicate B.length x157) x166) ?_ ?_ φ (b, y) ⟨by simp, by simp⟩ (by omega)
  · intro n i s hi ⟨h1, h2⟩ hs
    rw [z1g, if_pos (by simp; omega), z2 ⟨by omega, by omega⟩, z2 (zg6 (by rw [h1]; simp; omega) (by omega)), z2 (zg6 (by rw [h2]; simp; omega) (by omega)), W_id (by omega) (by omega)]
    exact hs (_, _) ⟨by rw [h1, z0n B i hi, List.append_assoc], by rw [h2, List.replicate_succ', List.append_assoc]⟩
  · intro n s ⟨h1, h2⟩
    rw [z1g, if_neg (by simp), h1, h2, List.take_length]
theorem y6m (hφ : 10 < φ) (k) (x173 x174 x175 x176 x177 x178 x179 x180 x181 x182 x183) (B : List z8) (x185 x186 x187 x188) (b : List z8) (y : List (Nat → Ref)) (x191 x192 x193 x194) (hB : B.length ≤ 4) (hb : b.length ≤ 50000000) (hy : y.length ≤ 50000000) :
    z1h φ k φ (B.length : Int) 0 x173 x174 x175 x176 x177 x178 x179 x180 x181 x182 x183 B x185 x186 x187 x188 b y x191 x192 x193 x194 = z0e φ k x173 x174 x175 x176 x177 x178 x179 x180 x181 x185 x186 x182 x187 x188 x192 x193 x194 (b ++ B) (y ++ List.replicate B.length x183) x191 := by
  refine z00 (fun n i (s : List z8 × List (Nat → Ref)) => z1h φ k n (B.length : Int) i x173 x174 x175 x176 x177 x178 x179 x180 x181 x182 x183 B x185 x186 x187 x188 s.1 s.2 x191 x192 x193 x194) B.length (fun i s => s.1 = b ++ B.take i ∧ s.2 = y ++ List.replicate i x183) (fun o => o = z0e φ k x173 x174 x175 x176 x177 x178 x179 x180 x181 x185 x186 x182 x187 x188 x192 x193 x194 (b ++ B) (y ++ List.replicate B.length x183) x191) ?_ ?_ φ (b, y) ⟨by simp, by simp⟩ (by omega)
  · intro n i s hi ⟨h1, h2⟩ hs
    rw [z1h, if_pos (by simp; omega), z2 ⟨by omega, by omega⟩, z2 (zg6 (by rw [h1]; simp; omega) (by omega)), z2 (zg6 (by rw [h2]; simp; omega) (by omega)), W_id (by omega) (by omega)]
    exact hs (_, _) ⟨by rw [h1, z0n B i hi, List.append_assoc], by rw [h2, List.replicate_succ', List.append_assoc]⟩
  · intro n s ⟨h1, h2⟩
    rw [z1h, if_neg (by simp), h1, h2, List.take_length]
theorem y6i (hφ : 10 < φ) (k) (x173 x174 x175 x176 x177 x178 x179 x180 x181 x182 x183) (B : List z8) (x185 x186 x187 x188) (b : List z8) (y : List (Nat → Ref)) (x191 x192 x193 x194) (hB : B.length ≤ 4) (hb : b.length ≤ 50000000) (hy : y.length ≤ 50000000) :
    z1e φ k φ (B.length : Int) 0 x173 x174 x175 x176 x177 x178 x179 x180 x181 x182 x183 B x185 x186 x187 x188 b y x191 x192 x193 x194 = z0e φ k x173 x174 x175 x176 x177 x178 x179 x180 x181 x185 x186 x182 x187 x188 x192 x193 x194 (b ++ B) (y ++ List.replicate B.length x183) x191 := by
  refine z00 (fun n i (s : List z8 × List (Nat → Ref)) => z1e φ k n (B.length : Int) i x173 x174 x175 x176 x177 x178 x179 x180 x181 x182 x183 B x185 x186 x187 x188 s.1 s.2 x191 x192 x193 x194) B.length (fun i s => s.1 = b ++ B.take i ∧ s.2 = y ++ List.replicate i x183) (fun o => o = z0e φ k x173 x174 x175 x176 x177 x178 x179 x180 x181 x185 x186 x182 x187 x188 x192 x193 x194 (b ++ B) (y ++ List.replicate B.length x183) x191) ?_ ?_ φ (b, y) ⟨by simp, by simp⟩ (by omega)
  · intro n i s hi ⟨h1, h2⟩ hs
    rw [z1e, if_pos (by simp; omega), z2 ⟨by omega, by omega⟩, z2 (zg6 (by rw [h1]; simp; omega) (by omega)), z2 (zg6 (by rw [h2]; simp; omega) (by omega)), W_id (by omega) (by omega)]
    exact hs (_, _) ⟨by rw [h1, z0n B i hi, List.append_assoc], by rw [h2, List.replicate_succ', List.append_assoc]⟩
  · intro n s ⟨h1, h2⟩
    rw [z1e, if_neg (by simp), h1, h2, List.take_length]
/-- The travel zcm and what follows it. -/
theorem zz2 (hφ : 800000 < φ) (k) (T : List z1) (n : Nat) (hn : n < T.length) (x115 x116 x117 x118 x119 x120) (x122 : Pool) (x123 : Int) (x125 : List (Int × Int)) (e : z1) (pr : Option z0c) (hpr : pr = if 0 < n then some (gt T ((n : Int) - 1)).visit else none) (x127 x128 x129) (b : List z8) (y : List (Nat → Ref)) (x132) (hb : b.length ≤ 50000000) (hy : y.length ≤ 50000000) (h15 : 0 ≤ x115 ∧ x115 ≤ 100000000) (hT : n ≤ 100000000) :
    z0e φ k T (n : Int) x115 x116 x117 x118 x119 x120 (n : Int) x122 x123 (x115 + 1) x125 e x127 x128 x129 b y x132 =
      k T x116 x117 x118 x119 x120 ((n + 1 : Nat) : Int) x122 x123 (x115 + 1) x125 x127 x128 x129 (b ++ trB (tvl φ x122.network) x115 pr e) (y ++ trY pr e) x132 := by
  have hW : W ((n : Int) + 1) = ((n + 1 : Nat) : Int) := by rw [W_id (by omega) (by omega)]; omega
  unfold z0e
  by_cases h : 0 < n
  · obtain ⟨ht, t1, t2⟩ := y2n φ hφ x122.network (gt T ((n : Int) - 1)).visit e.visit
    rw [if_pos (by simp; omega), W_id (x := (n : Int) - 1) (by omega) (by omega), z2 ⟨by omega, by omega⟩, ht, Option.bind_some, W_id (x := x115 - 1) (by omega) (by omega)]
    rw [hpr, if_pos h]
    simp only [trB, trY]
    generalize tvl φ x122.network (gt T ((n : Int) - 1)).visit e.visit = tt at *
    rw [W_id (x := 0 - tt) (by omega) (by omega)]
    refine (y6a φ (by omega) k T x116 x117 x118 x119 x120 (n : Int) _ _ _ _ _ _ _ _ _ _ _ _ _ _ ([⟨x115, x115 - 1, 0 - tt⟩] : List z8) x122 x123 x125 _ _ b y x132 x127 x128 x129 (by simp) hb hy).trans ?_
    rw [hW]
    rfl
  · rw [if_neg (by simp; omega), hW, hpr, if_neg h]
    simp only [trB, trY, List.append_nil]
/-- One z34. -/
theorem zuj (hφ : 800000 < φ) (k) (x96 x97 x98) (T : List z1) (hE : ∀ e ∈ T, 0 ≤ e.visit.early ∧ e.visit.early ≤ 1073741824) (x102 : Pool) (x103 : Int) (m : List (Int × Int)) (g1 g2 g3) (hT : T.length ≤ 2000) :
    ∀ (n i N : Nat) (s : BS), T.length < n + i → i ≤ T.length → BB N s → N ≤ 8300000 + i →
      zy φ k n T x96 x97 x98 T (T.length : Int) (i : Int) x102 x103 s.v m g1 g2 g3 s.b s.y s.e =
        (fun s' : BS => k x96 x97 (W (x98 + 1)) x102 x103 s'.v m g1 g2 g3 s'.b s'.y s'.e) (bEv (tvl φ x102.network) m (if 0 < i then some (gt T ((i : Int) - 1)).visit else none) (T.drop i) s) := by
  intro n
  induction n with
  | zero => intro i N s h1 h2; exfalso; omega
  | succ n ih =>
    intro i N s h1 h2 hB hN
    obtain ⟨v0, v1, b1, b2, b3⟩ := hB
    by_cases hi : i < T.length
    · obtain ⟨e0, e1⟩ := hE _ (z9a (l := T) (i := (i : Int)) (by omega) (by omega))
      have hWv : W (s.v + 1) = s.v + 1 := W_id (by omega) (by omega)
      have hWe : W (0 - (gt T (i : Int)).visit.early) = 0 - (gt T (i : Int)).visit.early := W_id (by omega) (by omega)
      have hnext := ih (i + 1) (N + 1) (zl7 (tvl φ x102.network) m (if 0 < i then some (gt T ((i : Int) - 1)).visit else none) (gt T (i : Int)) s) (by omega) (by omega) (BB.step ⟨v0, v1, b1, b2, b3⟩ _ _ _ _) (by omega)
      rw [if_pos (show 0 < i + 1 by omega), show ((i + 1 : Nat) : Int) - 1 = (i : Int) by omega] at hnext
      rw [zsn T i hi]
      refine Eq.trans ?_ hnext
      rw [zy, if_pos (by simp; omega), z2 ⟨by omega, by omega⟩, z2 (zg6 (by simp; omega) (by omega)), hWv, hWe]
      by_cases hr : (gt T (i : Int)).reader < 0
      · rw [if_pos (by simpa using hr)]
        refine (y6m φ (by omega) (zy φ k n) T (i : Int) s.v x96 x97 x98 T (T.length : Int) (i : Int) (s.v + 1) (y1 (gt T (i : Int)).visit.ref) ([⟨0, s.v, (gt T (i : Int)).visit.early⟩, ⟨s.v, 0, 0 - (gt T (i : Int)).visit.early⟩] : List z8) x102 x103 m (gt T (i : Int)) s.b s.y _ g1 g2 g3 (by simp) (by omega) (by omega)).trans ?_
        refine (zz2 φ hφ (zy φ k n) T i hi s.v x96 x97 x98 T (T.length : Int) x102 x103 m (gt T (i : Int)) _ rfl g1 g2 g3 _ _ _ (by simp; omega) (by simp; omega) ⟨by omega, by omega⟩ (by omega)).trans ?_
        simp only [zl7, evB, evY, if_pos hr]
        rfl
      · rw [if_neg (by simpa using hr)]
        refine (y6i φ (by omega) (zy φ k n) T (i : Int) s.v x96 x97 x98 T (T.length : Int) (i : Int) (s.v + 1) (y1 (gt T (i : Int)).visit.ref) ([⟨rv m (gt T (i : Int)), s.v, (gt T (i : Int)).visit.early⟩, ⟨s.v, rv m (gt T (i : Int)), 0 - (gt T (i : Int)).visit.early⟩, ⟨0, s.v, 1073741824⟩, ⟨s.v, 0, 0⟩] : List z8) x102 x103 m (gt T (i : Int)) s.b s.y _ g1 g2 g3 (by simp) (by omega) (by omega)).trans ?_
        refine (zz2 φ hφ (zy φ k n) T i hi s.v x96 x97 x98 T (T.length : Int) x102 x103 m (gt T (i : Int)) _ rfl g1 g2 g3 _ _ _ (by simp; omega) (by simp; omega) ⟨by omega, by omega⟩ (by omega)).trans ?_
        simp only [zl7, evB, evY, if_neg hr]
        rfl
    · have : i = T.length := by omega
      subst this
      rw [zy, if_neg (by simp), List.drop_length]
      rfl
/-- All tracks. -/
theorem zsd (hφ : 800000 < φ) (ts : List (List z1)) (hE : ∀ T ∈ ts, T.length ≤ 2000 ∧ ∀ e ∈ T, 0 ≤ e.visit.early ∧ e.visit.early ≤ 1073741824) (hts : ts.length ≤ 4096) (x84 : Pool) (x85 : Int) (m : List (Int × Int)) (g1 g2 g3) (s : BS) (hs : BB 0 s) :
    z15 φ φ ts (ts.length : Int) 0 x84 x85 s.v m g1 g2 g3 s.b s.y s.e = some (bEnd (ts.foldl (fun s t => bEv (tvl φ x84.network) m none t s) s)) := by
  refine z00 (fun n i (s : BS) => z15 φ n ts (ts.length : Int) i x84 x85 s.v m g1 g2 g3 s.b s.y s.e) ts.length (fun i s' => BB (2000 * i) s' ∧ s' = (ts.take i).foldl (fun s t => bEv (tvl φ x84.network) m none t s) s) (fun o => o = some (bEnd (ts.foldl (fun s t => bEv (tvl φ x84.network) m none t s) s))) ?_ ?_ φ s ⟨hs, rfl⟩ (by omega)
  · intro n i s' hi ⟨h1, h2⟩ hk
    obtain ⟨q1, q2⟩ := hE _ (z9a (l := ts) (i := (i : Int)) (by omega) (by omega))
    rw [z15, if_pos (by simp; omega), z2 ⟨by omega, by omega⟩]
    have := zuj φ hφ (z15 φ n) ts (ts.length : Int) (i : Int) (gt ts (i : Int)) q2 x84 x85 m g1 g2 g3 q1 φ 0 (2000 * i) s' (by omega) (by omega) h1 (by omega)
    refine this.trans ?_
    simp only [W_id (x := (i : Int) + 1) (by omega) (by omega), List.drop_zero]
    rw [if_neg (by omega)]
    refine hk _ ⟨?_, ?_⟩
    · have := BB.ev (tvl φ x84.network) m (gt ts (i : Int)) (2000 * i) none s' h1
      obtain ⟨a, b, c, d, f⟩ := this
      exact ⟨a, by omega, by omega, by omega, by omega⟩
    · rw [z0n ts i hi, List.foldl_append, ← h2]; rfl
  · intro n s' ⟨h1, h2⟩
    rw [List.take_length] at h2
    rw [z15, if_neg (by simp), ← h2]
    unfold bEnd
    by_cases h : 512 < s'.v ∨ 4096 < s'.b.length
    · rw [if_pos (by simp; omega), if_pos h]
    · rw [if_neg (by simp; omega), if_neg h]
/-- The readers. -/
theorem zpv (hφ : 800000 < φ) (ts : List (List z1)) (hE : ∀ T ∈ ts, T.length ≤ 2000 ∧ ∀ e ∈ T, 0 ≤ e.visit.early ∧ e.visit.early ≤ 1073741824) (hts : ts.length ≤ 4096) (p : Pool) (hp : p.readers.length ≤ 256) (hr : ∀ r ∈ p.readers, -1000 ≤ r.low ∧ r.low ≤ 1000) (x43 : Int) (m : List (Int × Int)) (g1 g2) :
    z0s φ φ ts p.readers (p.readers.length : Int) 0 p x43 1 m g1 g2 [] [] [] [] = some (bEnd (ts.foldl (fun s t => bEv (tvl φ p.network) (rdsN p.readers m p.readers.length).m none t s) ⟨(rdsN p.readers m p.readers.length).v, (rdsN p.readers m p.readers.length).b, (rdsN p.readers m p.readers.length).y, []⟩)) := by
  refine z00 (fun n i (s : RS) => z0s φ n ts p.readers (p.readers.length : Int) i p x43 s.v s.m g1 g2 [] s.b s.y []) p.readers.length (fun i s => s = rdsN p.readers m i) (fun o => o = _) ?_ ?_ φ ⟨1, m, [], []⟩ rfl (by omega)
  · intro n i s hi hs hk
    obtain ⟨a1, a2, a3, a4⟩ := zf3 p.readers m i
    rw [← hs] at a1 a2 a3 a4
    obtain ⟨r1, r2⟩ := hr _ (z9a (l := p.readers) (i := (i : Int)) (by omega) (by omega))
    have hk' := hk (rdsN p.readers m (i + 1)) rfl
    simp only [rdsN, zpc] at hk'
    rw [← hs] at hk'
    have hW : W ((i : Int) + 1) = (i : Int) + 1 := W_id (by omega) (by omega)
    rw [z0s, if_pos (by simp; omega), z2 ⟨by omega, by omega⟩]
    by_cases h : (mget s.m (i : Int)).isSome = true
    · rw [if_pos h] at hk' ⊢
      have hWl : W (0 - (gt p.readers (i : Int)).low) = 0 - (gt p.readers (i : Int)).low := W_id (by omega) (by omega)
      rw [hWl]
      refine (y89 φ (by omega) (z0s φ n) ts p.readers (p.readers.length : Int) (i : Int) _ _ _ _ _ _ _ _ _ _ ([⟨0, s.v, 0 - (gt p.readers (i : Int)).low⟩, ⟨s.v, 0, (gt p.readers (i : Int)).high⟩] : List z8) p x43 (mset s.m (i : Int) s.v) _ s.b s.y [] g1 g2 [] (by simp) (by omega) (by omega)).trans ?_
      rw [hW, W_id (x := s.v + 1) (by omega) (by omega)]
      exact hk'
    · rw [if_neg h] at hk' ⊢
      rw [hW]
      exact hk'
  · intro n s hs
    rw [z0s, if_neg (by simp), ← hs]
    obtain ⟨a1, a2, a3, a4⟩ := zf3 p.readers m p.readers.length
    rw [← hs] at a1 a2 a3 a4
    exact zsd φ hφ ts hE hts p x43 s.m g1 g2 [] ⟨s.v, s.b, s.y, []⟩ ⟨a1, by show s.v ≤ _; omega, by show s.b.length ≤ _; omega, by show s.y.length ≤ _; omega, by simp⟩
/-- One track's readers. -/
theorem zyz (k) (x20 x21 x22 x23) (T : List z1) (hT : T.length ≤ 2000) (hφ : 800000 < φ) (x27 x28 x29 x30 x31 x32 x33 x34 x35 x36) :
    z16 φ k φ x20 x21 x22 x23 T (T.length : Int) 0 x27 x28 x29 x30 x31 x32 x33 x34 x35 x36 = k x20 x21 x22 (W (x23 + 1)) x27 x28 x29 (zlj x30 T) x31 x32 x33 x34 x35 x36 := by
  refine z00 (fun n i (m : List (Int × Int)) => z16 φ k n x20 x21 x22 x23 T (T.length : Int) i x27 x28 x29 m x31 x32 x33 x34 x35 x36) T.length (fun i m => m = zlj x30 (T.take i)) (fun o => o = _) ?_ ?_ φ x30 rfl (by omega)
  · intro n i m hi hm hk
    have hk' := hk (zlj x30 (T.take (i + 1))) rfl
    rw [z0n T i hi] at hk'
    simp only [zlj, List.foldl_append, List.foldl_cons, List.foldl_nil] at hk' hm
    rw [← hm] at hk'
    rw [z16, if_pos (by simp; omega), z2 ⟨by omega, by omega⟩, W_id (by omega) (by omega)]
    unfold zuh at hk'
    by_cases h : 0 ≤ (gt T (i : Int)).reader
    · rw [if_pos h] at hk'
      rw [if_pos (by simpa using h)]
      exact hk'
    · rw [if_neg h] at hk'
      rw [if_neg (by simpa using h)]
      exact hk'
  · intro n m hm
    rw [List.take_length] at hm
    rw [z16, if_neg (by simp), hm]
theorem zxc {p : Pool} {r : zf} (h : ztz p r.item) {i : Int} {x : z1} (hx : x ∈ evs p r i) : 0 ≤ x.visit.early ∧ x.visit.early ≤ 1073741824 := by
  have hf := h.from_
  have ht := h.to
  unfold evs at hx
  split at hx
  · simp only [List.mem_singleton] at hx; subst hx
    simp only [z4d]; omega
  · split at hx
    · simp only [List.mem_cons, List.not_mem_nil, or_false] at hx
      rcases hx with rfl | rfl <;> simp only [z4d] <;> omega
    · split at hx
      · simp only [List.mem_singleton] at hx; subst hx
        simp only [z4d]; omega
      · cases hx
theorem zqq : ∀ {t : List z1} {m : List (Int × Bool)} {x : z1}, x ∈ zct t m → ∃ y ∈ t, ∃ b, x = zgv y b
  | [], m, x, h => by cases h
  | e :: t, m, x, h => by
    rcases List.mem_cons.1 h with rfl | h
    · exact ⟨e, List.mem_cons_self, _, rfl⟩
    · obtain ⟨y, hy, b, hb⟩ := zqq h
      exact ⟨y, List.mem_cons_of_mem _ hy, b, hb⟩
theorem zqm {p : Pool} {l : List zf} {w : Int} {x : z1} (h : x ∈ z34 p l w) : ∃ y ∈ uns p l w, ∃ b, x = zgv y b := by
  obtain ⟨y, hy, b, hb⟩ := zqq h
  exact ⟨y, (z20 _ _).mem_iff.1 hy, b, hb⟩
theorem zoy {p : Pool} (hc : z1l p = 0) {l : List zf} (hl : FewL l) {w : Int} {x : z1} (h : x ∈ z34 p l w) : 0 ≤ x.visit.early ∧ x.visit.early ≤ 1073741824 := by
  obtain ⟨y, hy, b, rfl⟩ := zqm h
  obtain ⟨h1, h2, _, h3, h4⟩ := ztm hl.len hy
  show 0 ≤ y.visit.early ∧ y.visit.early ≤ 1073741824
  exact zxc (zfw hc (hl.gt h1 h2) h3) h4
/-- What Build answers. -/
theorem y1u (hφ : 800000 < φ) (p : Pool) {l : List zf} (hl : FewL l) :
    z6r φ p l = some (if z1l p = 0 then bEnd (bAll (tvl φ p.network) p.readers (z8v p l)) else (⟨0, [], [], []⟩, z1l p, ())) := by
  unfold z6r
  rw [z61 φ hφ, Option.bind_some]
  by_cases hc : z1l p = 0
  case neg => rw [if_pos (by simpa using hc), if_neg hc]
  rw [if_neg (by simp [hc]), if_pos hc, zqn φ hφ hc hl, Option.bind_some]
  obtain ⟨_, hf, hr1, _⟩ := zas hc
  obtain ⟨_, f2, _⟩ := z54 hf
  have hrd := (zlz hc).1
  show z17 φ φ (z8v p l) (z8v p l) ((z8v p l).length : Int) 0 p 0 1 [] [] [] [] [] [] [] = _
  have hlen : (z8v p l).length ≤ 4096 := by unfold z8v; simp; omega
  have hE : ∀ T ∈ z8v p l, T.length ≤ 2000 ∧ ∀ e ∈ T, 0 ≤ e.visit.early ∧ e.visit.early ≤ 1073741824 := by
    intro T hT
    unfold z8v at hT
    obtain ⟨w, _, rfl⟩ := List.mem_map.1 hT
    exact ⟨zji hl.len _, fun e he => zoy hc hl he⟩
  generalize z8v p l = ts at *
  refine z00 (fun n i (m : List (Int × Int)) => z17 φ n ts ts (ts.length : Int) i p 0 1 m [] [] [] [] [] []) ts.length (fun i m => m = (ts.take i).foldl zlj []) (fun o => o = some (bEnd (bAll (tvl φ p.network) p.readers ts))) ?_ ?_ φ [] rfl (by omega)
  · intro n i m hi hm hk
    rw [z17, if_pos (by simp; omega), z2 ⟨by omega, by omega⟩]
    rw [zyz φ (z17 φ n) ts ts (ts.length : Int) (i : Int) (gt ts (i : Int)) (hE _ (z9a (by omega) (by omega))).1 hφ, W_id (by omega) (by omega)]
    exact hk _ (by rw [z0n ts i hi, List.foldl_append, ← hm]; rfl)
  · intro n m hm
    rw [List.take_length] at hm
    rw [z17, if_neg (by simp)]
    refine (zpv φ hφ ts hE hlen p hr1 (fun r hr => ?_) 0 m [] []).trans ?_
    · have := hrd r hr; omega
    · rw [hm]; rfl
end
end Px
end
section
namespace Px
open Go
set_option linter.unusedVariables false
set_option linter.unusedSimpArgs false
/-- The first report with a Ref. -/
def idx : List zf → Ref → Int
  | [], _ => 0
  | r :: l, q => if r.ref.railway = q.railway ∧ r.ref.no = q.no then 0 else idx l q + 1
theorem y0n : Sort.SWO ltEv where
  irrefl := fun x => by
    unfold ltEv
    simp only [decide_eq_false_iff_not]
    rw [zaz]; omega
  trans := fun x y z h1 h2 => by
    unfold ltEv at *
    simp only [decide_eq_true_eq] at *
    rw [zaz] at *
    omega
  ntrans := fun x y z h1 h2 => by
    unfold ltEv at *
    simp only [decide_eq_false_iff_not] at *
    rw [zaz] at *
    omega
end Px
end
section
namespace Px
set_option linter.unusedVariables false
namespace BF
section
variable {β : Type} (si sj : β → Nat) (sw : β → Int)
abbrev X := Nat → Option Int
def ltO (a : Int) : Option Int → Bool
  | none => true
  | some b => decide (a < b)
def imp (x : X) (b : β) : Bool := match x (si b) with
  | none => false
  | some a => ltO (a + sw b) (x (sj b))
def rlx (x : X) (b : β) : X := match x (si b) with
  | none => x
  | some a => if ltO (a + sw b) (x (sj b)) = true then fun v => if v = sj b then some (a + sw b) else x v else x
def rnd (L : List β) (x : X) : X := L.foldl (rlx si sj sw) x
def rnds (L : List β) (x : X) : Nat → X
  | 0 => x
  | n + 1 => rnd si sj sw L (rnds L x n)
/-- Walks: their length, their end, their sum. -/
inductive Wk (x0 : X) (L : List β) : Nat → Nat → Int → Prop where
  | nil {v : Nat} {c : Int} : x0 v = some c → Wk x0 L 0 v c
  | step {m : Nat} {c : Int} {b : β} : Wk x0 L m (si b) c → b ∈ L → Wk x0 L (m + 1) (sj b) (c + sw b)
def le (o : Option Int) (c : Int) : Prop := ∃ a, o = some a ∧ a ≤ c
variable {si sj sw}
theorem rlx_not {x : X} {b : β} (h : imp si sj sw x b = false) : rlx si sj sw x b = x := by
  unfold imp at h; unfold rlx
  cases hx : x (si b) with
  | none => rfl
  | some a => rw [hx] at h; simp only at h ⊢; rw [if_neg (by rw [h]; simp)]
theorem rlx_imp {x : X} {b : β} (h : imp si sj sw x b = true) : ∃ a, x (si b) = some a ∧ ltO (a + sw b) (x (sj b)) = true ∧ rlx si sj sw x b = fun v => if v = sj b then some (a + sw b) else x v := by
  unfold imp at h; unfold rlx
  cases hx : x (si b) with
  | none => rw [hx] at h; cases h
  | some a => rw [hx] at h; simp only at h ⊢; exact ⟨a, rfl, h, by rw [if_pos h]⟩
theorem rlx_mono {x : X} {b : β} {v : Nat} {c : Int} (h : le (x v) c) : le (rlx si sj sw x b v) c := by
  cases hi : imp si sj sw x b with
  | false => rw [rlx_not hi]; exact h
  | true =>
    obtain ⟨a, ha, hl, e⟩ := rlx_imp hi
    rw [e]
    simp only
    split
    · rename_i hv; subst hv
      obtain ⟨d, hd, hc⟩ := h
      rw [hd] at hl
      simp only [ltO, decide_eq_true_eq] at hl
      exact ⟨_, rfl, by omega⟩
    · exact h
theorem rlx_new {x : X} {b : β} {c : Int} (h : le (x (si b)) c) : le (rlx si sj sw x b (sj b)) (c + sw b) := by
  obtain ⟨a, ha, hc⟩ := h
  cases hi : imp si sj sw x b with
  | false =>
    rw [rlx_not hi]
    unfold imp at hi
    rw [ha] at hi
    simp only at hi
    cases hx : x (sj b) with
    | none => rw [hx] at hi; cases hi
    | some d => rw [hx] at hi; simp only [ltO, decide_eq_false_iff_not] at hi; exact ⟨d, rfl, by omega⟩
  | true =>
    obtain ⟨a', ha', hl, e⟩ := rlx_imp hi
    rw [ha] at ha'; cases ha'
    rw [e]
    exact ⟨_, if_pos rfl, by omega⟩
theorem rnd_mono {v : Nat} {c : Int} : ∀ (L : List β) (x : X), le (x v) c → le (rnd si sj sw L x v) c
  | [], x, h => h
  | b :: L, x, h => rnd_mono L _ (rlx_mono h)
theorem rnd_new {c : Int} : ∀ (L : List β) (x : X) (b : β), b ∈ L → le (x (si b)) c → le (rnd si sj sw L x (sj b)) (c + sw b)
  | b' :: L, x, b, hb, h => by
    rcases List.mem_cons.1 hb with rfl | hb
    · exact rnd_mono L _ (rlx_new h)
    · exact rnd_new L _ b hb (rlx_mono h)
theorem rnds_mono (L : List β) {x : X} {v : Nat} {c : Int} (h : le (x v) c) : ∀ n, le (rnds si sj sw L x n v) c
  | 0 => h
  | n + 1 => rnd_mono L _ (rnds_mono L h n)
theorem rnds_low {L : List β} {x0 : X} : ∀ (k m v : Nat) (c : Int), Wk si sj sw x0 L m v c → m ≤ k → le (rnds si sj sw L x0 k v) c
  | k, 0, v, c, h, hm => by cases h with | nil h => exact rnds_mono L ⟨c, h, Int.le_refl _⟩ k
  | k + 1, m + 1, v, c, h, hm => by
    cases h with
    | step h hb => exact rnd_new L _ _ hb (rnds_low k m _ _ h (by omega))
/-- Every value is the sum of a walk. -/
def Inv (si sj : β → Nat) (sw : β → Int) (x0 : X) (L : List β) (x : X) : Prop := ∀ v a, x v = some a → ∃ m, Wk si sj sw x0 L m v a
theorem Inv.rlx {x0 x : X} {L : List β} {b : β} (h : Inv si sj sw x0 L x) (hb : b ∈ L) : Inv si sj sw x0 L (rlx si sj sw x b) := by
  cases hi : imp si sj sw x b with
  | false => rw [rlx_not hi]; exact h
  | true =>
    obtain ⟨a, ha, hl, e⟩ := rlx_imp hi
    intro v d hv
    rw [e] at hv
    simp only at hv
    split at hv
    · rename_i hj; subst hj
      cases hv
      obtain ⟨m, hm⟩ := h _ _ ha
      exact ⟨_, .step hm hb⟩
    · exact h v d hv
theorem Inv.rnd {x0 : X} {L : List β} : ∀ (M : List β) (x : X), (∀ b ∈ M, b ∈ L) → Inv si sj sw x0 L x → Inv si sj sw x0 L (rnd si sj sw M x)
  | [], x, _, h => h
  | b :: M, x, hM, h => Inv.rnd M _ (fun b hb => hM b (List.mem_cons_of_mem _ hb)) (h.rlx (hM b (List.mem_cons_self ..)))
theorem Inv.rnds {x0 : X} {L : List β} : ∀ n, Inv si sj sw x0 L (rnds si sj sw L x0 n)
  | 0 => fun v a h => ⟨0, .nil h⟩
  | n + 1 => Inv.rnd L _ (fun _ h => h) (Inv.rnds n)
theorem least {Q : Nat → Prop} : ∀ n, Q n → ∃ m, Q m ∧ ∀ k, Q k → m ≤ k := by
  intro n
  induction n using Nat.strongRecOn with
  | _ n ih =>
    intro h
    by_cases hk : ∃ k, k < n ∧ Q k
    · obtain ⟨k, hk, hq⟩ := hk; exact ih k hk hq
    · exact ⟨n, h, fun k hq => Nat.le_of_not_lt fun hl => hk ⟨k, hl, hq⟩⟩
/-- A solution: no zcm is broken; all walks are bounded below by it. -/
structure Feas (si sj : β → Nat) (sw : β → Int) (x0 : X) (L : List β) (n : Nat) : Prop where
  ex : ∃ (p : Nat → Int) (C : Int), (∀ b ∈ L, p (sj b) ≤ p (si b) + sw b) ∧ ∀ v c, x0 v = some c → p v - c ≤ C
  j : ∀ b ∈ L, sj b < n
  z : ∀ v c, x0 v = some c → v < n
theorem Wk.lt {x0 : X} {L : List β} {n : Nat} (F : Feas si sj sw x0 L n) {m v : Nat} {c : Int} (h : Wk si sj sw x0 L m v c) : v < n := by
  cases h with
  | nil h => exact F.z _ _ h
  | step h hb => exact F.j _ hb
theorem Wk.low {x0 : X} {L : List β} {p : Nat → Int} {C : Int} (h1 : ∀ b ∈ L, p (sj b) ≤ p (si b) + sw b) (h2 : ∀ v c, x0 v = some c → p v - c ≤ C) : ∀ {m v : Nat} {c : Int}, Wk si sj sw x0 L m v c → p v - c ≤ C
  | 0, _, _, .nil h => h2 _ _ h
  | _ + 1, _, _, .step h hb => by have := Wk.low h1 h2 h; have := h1 _ hb; omega
/-- The least sum, and the least length among those. -/
structure Mn (si sj : β → Nat) (sw : β → Int) (x0 : X) (L : List β) (v m : Nat) (c : Int) : Prop where
  w : Wk si sj sw x0 L m v c
  lo : ∀ m' c', Wk si sj sw x0 L m' v c' → c ≤ c'
  sh : ∀ m', Wk si sj sw x0 L m' v c → m ≤ m'
theorem Mn.ex {x0 : X} {L : List β} {n : Nat} (F : Feas si sj sw x0 L n) {m v : Nat} {c : Int} (h : Wk si sj sw x0 L m v c) : ∃ m c, Mn si sj sw x0 L v m c := by
  obtain ⟨p, C, h1, h2⟩ := F.ex
  obtain ⟨k, ⟨m1, c1, hk, hw⟩, hl⟩ := least (Q := fun k => ∃ m c, (C - (p v - c)).toNat = k ∧ Wk si sj sw x0 L m v c) _ ⟨m, c, rfl, h⟩
  obtain ⟨m2, hm, hm2⟩ := least (Q := fun m => Wk si sj sw x0 L m v c1) m1 hw
  refine ⟨m2, c1, hm, fun m' c' h' => ?_, hm2⟩
  have := hl _ ⟨m', c', rfl, h'⟩
  have := Wk.low h1 h2 hw
  have := Wk.low h1 h2 h'
  omega
theorem Mn.pred {x0 : X} {L : List β} {v m : Nat} {c : Int} (h : Mn si sj sw x0 L v (m + 1) c) : ∃ u d, Mn si sj sw x0 L u m d := by
  obtain ⟨w, hc, hm⟩ := h
  cases w with
  | @step _ d b hw hb =>
    refine ⟨si b, d, hw, fun m' c' h' => ?_, fun m' h' => ?_⟩
    · have := hc _ _ (.step h' hb); omega
    · have := hm _ (.step h' hb); omega
theorem Mn.all {x0 : X} {L : List β} : ∀ {m v : Nat} {c : Int}, Mn si sj sw x0 L v m c → ∀ k, k ≤ m → ∃ u d, Mn si sj sw x0 L u k d
  | 0, v, c, h, k, hk => by have : k = 0 := by omega
                            subst this; exact ⟨v, c, h⟩
  | m + 1, v, c, h, k, hk => by
    by_cases e : k = m + 1
    · subst e; exact ⟨v, c, h⟩
    · obtain ⟨u, d, h'⟩ := h.pred; exact Mn.all h' k (by omega)
theorem Mn.uniq {x0 : X} {L : List β} {v m m' : Nat} {c c' : Int} (h : Mn si sj sw x0 L v m c) (h' : Mn si sj sw x0 L v m' c') : c = c' ∧ m = m' := by
  have e : c = c' := Int.le_antisymm (h.lo _ _ h'.w) (h'.lo _ _ h.w)
  subst e
  exact ⟨rfl, Nat.le_antisymm (h.sh _ h'.w) (h'.sh _ h.w)⟩
theorem holes : ∀ (n M : Nat) (R : Nat → Nat → Prop), (∀ k k' u, R k u → R k' u → k = k') → (∀ k, k < M → ∃ u, u < n ∧ R k u) → M ≤ n
  | 0, M, R, _, h => by
    cases M with
    | zero => exact Nat.le_refl _
    | succ M => obtain ⟨u, hu, _⟩ := h 0 (by omega); omega
  | n + 1, M, R, hR, h => by
    by_cases hk : ∃ k, k < M ∧ R k n
    · obtain ⟨k0, hk0, hr⟩ := hk
      have := holes n (M - 1) (fun k u => R (if k < k0 then k else k + 1) u) (fun k k' u h1 h2 => by
        have := hR _ _ _ h1 h2
        split at this <;> split at this <;> omega) fun k hk => by
        obtain ⟨u, hu, hru⟩ := h (if k < k0 then k else k + 1) (by split <;> omega)
        refine ⟨u, ?_, hru⟩
        by_cases e : u = n
        · subst e
          have := hR _ _ _ hru hr
          split at this <;> omega
        · omega
      omega
    · have := holes n M R hR fun k hk' => by
        obtain ⟨u, hu, hru⟩ := h k hk'
        exact ⟨u, by
          by_cases e : u = n
          · subst e; exact (hk ⟨k, hk', hru⟩).elim
          · omega, hru⟩
      omega
theorem Mn.short {x0 : X} {L : List β} {n : Nat} (F : Feas si sj sw x0 L n) {m v : Nat} {c : Int} (h : Mn si sj sw x0 L v m c) : m < n :=
  holes n (m + 1) (fun k u => ∃ d, Mn si sj sw x0 L u k d) (fun k k' u ⟨_, a⟩ ⟨_, b⟩ => (a.uniq b).2) fun k hk => by
    obtain ⟨u, d, hu⟩ := h.all k (by omega)
    exact ⟨u, hu.w.lt F, d, hu⟩
/-- After n - 1 rounds nothing is lowered any more. -/
theorem done {x0 : X} {L : List β} {n : Nat} (F : Feas si sj sw x0 L n) {k : Nat} (hk : n ≤ k + 1) : ∀ b ∈ L, imp si sj sw (rnds si sj sw L x0 k) b = false := by
  intro b hb
  unfold imp
  cases hx : rnds si sj sw L x0 k (si b) with
  | none => rfl
  | some a =>
    obtain ⟨m, hm⟩ := Inv.rnds k _ _ hx
    obtain ⟨m', d, hd⟩ := Mn.ex F (.step hm hb)
    obtain ⟨e, he, hed⟩ := rnds_low k m' _ _ hd.w (by have := hd.short F; omega)
    have := hd.lo _ _ (.step hm hb)
    rw [he]
    simp only [ltO, decide_eq_false_iff_not]
    omega
/-- No zcm lowers anything. -/
def Fix (si sj : β → Nat) (sw : β → Int) (L : List β) (x : X) : Prop := ∀ b ∈ L, imp si sj sw x b = false
theorem Fix.le {L : List β} {x : X} (h : Fix si sj sw L x) {b : β} (hb : b ∈ L) {a : Int} (ha : x (si b) = some a) : ∃ d, x (sj b) = some d ∧ d ≤ a + sw b := by
  have := h b hb
  unfold imp at this
  rw [ha] at this
  simp only at this
  cases hx : x (sj b) with
  | none => rw [hx] at this; cases this
  | some d => rw [hx] at this; simp only [ltO, decide_eq_false_iff_not] at this; exact ⟨d, rfl, by omega⟩
end
end BF
end Px
end
section
namespace Px
open Go
set_option linter.unusedVariables false
set_option linter.unusedSimpArgs false
theorem zkb (φ : Nat) : ∀ (n m N : Nat), m ≤ N → N < n + m → 1 ≤ m ∨ N = 0 → N ≤ 5000 → z32 φ n (m : Int) (List.replicate m (-1) ++ List.replicate (N - m) (default : Int)) = some (List.replicate N (-1), ())
  | 0, m, N, h1, h2, _, _ => by omega
  | n + 1, m, N, h1, h2, h3, h4 => by
    have hlen : (List.replicate m (-1 : Int) ++ List.replicate (N - m) (default : Int)).length = N := by simp; omega
    rw [z32, hlen]
    by_cases h : m < N
    · rw [if_pos (by simp; omega), z2 ⟨by omega, by omega, by omega⟩, z2 ⟨by omega, by omega, by omega⟩]
      have e1 : z5e (List.replicate m (-1 : Int) ++ List.replicate (N - m) (default : Int)) ((0 : Int).toNat) ((m : Int).toNat) = List.replicate m (-1) := by
        simp [z5e, List.take_append]
      rw [e1, List.length_replicate]
      have e2 : ((N : Int).toNat - (m : Int).toNat) = N - m := by omega
      have e3 : W ((m : Int) + ((min m (N - m) : Nat) : Int)) = ((m + min m (N - m) : Nat) : Int) := by rw [W_id (by omega) (by omega)]; omega
      rw [e2, e3]
      have e4 : cpy (List.replicate m (-1 : Int) ++ List.replicate (N - m) (default : Int)) ((m : Int).toNat) (N - m) (List.replicate m (-1)) = List.replicate (m + min m (N - m)) (-1) ++ List.replicate (N - (m + min m (N - m))) (default : Int) := by
        unfold cpy
        rw [Int.toNat_natCast, List.length_replicate, List.take_append_of_le_length (by simp), List.take_of_length_le (by simp), List.take_replicate, List.drop_append, List.drop_of_length_le (by simp), List.drop_replicate, List.length_replicate, List.nil_append]
        rw [show min (min m (N - m)) m = min m (N - m) by omega, List.replicate_append_replicate]
        congr 2
        omega
      rw [e4]
      exact zkb φ n (m + min m (N - m)) N (by omega) (by omega) (by omega) h4
    · rw [if_neg (by simp; omega)]
      have : m = N := by omega
      subst this
      simp
theorem zyr (φ : Nat) (n : Nat) (hn : n ≤ 5000) (hφ : 5001 < φ) : z2s φ [-1] (n : Int) = some (List.replicate n (-1), ()) := by
  unfold z2s znm
  rw [if_neg (by simp), show (([-1] : List Int).length : Int) = 1 from rfl, U_id (x := 1) (by omega) (by omega), U_id (x := (n : Int)) (by omega) (by omega), zsx φ 1 n (by omega) (by omega) (by omega) (by omega)]
  simp only [Option.bind_some, Int.one_mul]
  have e1 : (n : Int) / 18446744073709551616 = 0 := by omega
  have e2 : (n : Int) % 18446744073709551616 = n := by omega
  rw [e1, e2, if_neg (by simp; omega), W_id (by omega) (by omega), z2 (mk_t _ _ (by omega) (by omega) (by omega))]
  rw [Int.toNat_natCast]
  have e3 : cpy (List.replicate n (default : Int)) 0 ((List.replicate n (default : Int)).length - 0) [-1] = List.replicate (min 1 n) (-1) ++ List.replicate (n - min 1 n) (default : Int) := by
    cases n with
    | zero => rfl
    | succ n => simp [cpy, show min 1 (n + 1) = 1 by omega]
  rw [e3, List.length_replicate]
  exact zkb φ φ (min 1 n) n (by omega) (by omega) (by omega) hn
/-- The state of a round. -/
structure LS where
  x : List Int
  y : List Int
  z : Int
def stp (b : z8) (i : Int) (s : LS) : LS := if gt s.x b.i + b.w < gt s.x b.j then ⟨zz s.x b.j (gt s.x b.i + b.w), zz s.y b.j i, i⟩ else s
def rndL (L : List z8) : Nat → LS → LS
  | 0, s => s
  | m + 1, s => stp (gt L (m : Int)) m (rndL L m s)
def lowR (L : List z8) : Nat → LS → LS
  | 0, s => s
  | k + 1, s => if (rndL L L.length ⟨s.x, s.y, -1⟩).z < 0 then rndL L L.length ⟨s.x, s.y, -1⟩ else lowR L k (rndL L L.length ⟨s.x, s.y, -1⟩)
def low (n : Nat) (L : List z8) : LS := lowR L n ⟨List.replicate n 0, List.replicate n (-1), -1⟩
def okBd (n : Nat) (b : z8) : Prop := 0 ≤ b.i ∧ b.i < (n : Int) ∧ 0 ≤ b.j ∧ b.j < (n : Int) ∧ -1099511627776 ≤ b.w ∧ b.w ≤ 1099511627776
/-- How low the values may be after c steps. -/
structure LB (n c : Nat) (s : LS) : Prop where
  lx : s.x.length = n
  ly : s.y.length = n
  bd : ∀ i : Int, 0 ≤ i → i < (n : Int) → -(1099511627776 * (c : Int)) ≤ gt s.x i ∧ gt s.x i ≤ 0
theorem LB.up {n c d : Nat} {s : LS} (h : LB n c s) (hd : c ≤ d) : LB n d s := ⟨h.lx, h.ly, fun i h0 h1 => by have := h.bd i h0 h1; omega⟩
theorem LB.stp {n c : Nat} {s : LS} (h : LB n c s) {b : z8} (hb : okBd n b) (i : Int) : LB n (c + 1) (stp b i s) := by
  unfold Px.stp
  obtain ⟨a1, a2, a3, a4, a5, a6⟩ := hb
  have hx := h.lx
  have hy := h.ly
  split
  · rename_i hlt
    refine ⟨by rw [z1y]; exact hx, by rw [z1y]; exact hy, fun k h0 h1 => ?_⟩
    have q1 := h.bd b.i a1 a2
    have q2 := h.bd k h0 h1
    have q3 := h.bd b.j a3 a4
    rw [z0w _ _ _ _ a3 (by rw [hx]; exact a4) h0]
    split <;> omega
  · exact h.up (by omega)
theorem LB.rnd {n c : Nat} {s : LS} (h : LB n c s) {L : List z8} (hL : ∀ b ∈ L, okBd n b) : ∀ m, m ≤ L.length → LB n (c + m) (rndL L m s)
  | 0, _ => h
  | m + 1, hm => (LB.rnd h hL m (by omega)).stp (hL _ (z9a (by omega) (by omega))) m
/-- One round of the program. -/
theorem y1p (φ : Nat) (k : List z8 → Int → Int → Int → List Int → List Int → Option (List Int × List Int × Int × Unit)) (L : List z8) (n : Nat) (r : Int) (c : Nat) (s : LS) (hs : LB n c s) (hL : ∀ b ∈ L, okBd n b) (hl : L.length ≤ 5000) (hc : c + L.length ≤ 2100000) (hφ : 5001 < φ) :
    z18 φ k φ L s.z n r L (L.length : Int) 0 s.x s.y = if (rndL L L.length s).z < 0 then some ((rndL L L.length s).x, (rndL L L.length s).y, (rndL L L.length s).z, ()) else k L (rndL L L.length s).z n (W (r + 1)) (rndL L L.length s).x (rndL L L.length s).y := by
  refine z00 (fun f i (t : LS) => z18 φ k f L t.z n r L (L.length : Int) i t.x t.y) L.length (fun i t => t = rndL L i s) (fun o => o = _) ?_ ?_ φ s rfl (by omega)
  · intro f i t hi ht hk
    have hB := hs.rnd hL i (by omega)
    rw [← ht] at hB
    obtain ⟨a1, a2, a3, a4, a5, a6⟩ := hL _ (z9a (l := L) (i := (i : Int)) (by omega) (by omega))
    have q1 := hB.bd _ a1 a2
    have q2 := hB.bd _ a3 a4
    have hx := hB.lx
    have hy := hB.ly
    have hk' := hk (stp (gt L (i : Int)) i t) (by rw [ht]; rfl)
    rw [z18, if_pos (by simp; omega), z2 ⟨by omega, by omega⟩, z2 ⟨a1, by rw [hx]; exact a2⟩, z2 ⟨a3, by rw [hx]; exact a4⟩, W_id (x := gt t.x (gt L (i : Int)).i + (gt L (i : Int)).w) (by omega) (by omega)]
    unfold stp at hk'
    by_cases h : gt t.x (gt L (i : Int)).i + (gt L (i : Int)).w < gt t.x (gt L (i : Int)).j
    · rw [if_pos h] at hk'
      rw [if_pos (by simpa using h), z3t, z2 ⟨a3, by rw [hx]; exact a4⟩, z2 ⟨a3, by rw [hy]; exact a4⟩, W_id (x := (i : Int) + 1) (by omega) (by omega)]
      exact hk'
    · rw [if_neg h] at hk'
      rw [if_neg (by simpa using h), W_id (x := (i : Int) + 1) (by omega) (by omega)]
      exact hk'
  · intro f t ht
    subst ht
    rw [z18, if_neg (by simp)]
    by_cases h : (rndL L L.length s).z < 0
    · rw [if_pos (by simpa using h), if_pos h]; rfl
    · rw [if_neg (by simpa using h), if_neg h]
theorem zq7 (φ : Nat) (L : List z8) (n : Nat) (hn : n ≤ 512) (hL : ∀ b ∈ L, okBd n b) (hl : L.length ≤ 4096) (hφ : 5001 < φ) :
    ∀ (f k : Nat) (s : LS), LB n (k * L.length) s → k ≤ n → n < f + k → z2p φ f L s.z n (k : Int) s.x s.y = some ((lowR L (n - k) s).x, (lowR L (n - k) s).y, (lowR L (n - k) s).z, ())
  | 0, k, s, _, h1, h2 => by omega
  | f + 1, k, s, hs, h1, h2 => by
    rw [z2p]
    by_cases h : k < n
    · have hs1 : LB n (k * L.length) ⟨s.x, s.y, -1⟩ := ⟨hs.lx, hs.ly, hs.bd⟩
      have hb := Nat.mul_le_mul (show k + 1 ≤ 512 by omega) hl
      rw [Nat.add_mul, Nat.one_mul] at hb
      rw [if_pos (by simp; omega)]
      have := y1p φ (z2p φ f) L n (k : Int) _ ⟨s.x, s.y, -1⟩ hs1 hL (by omega) (by omega) hφ
      refine this.trans ?_
      rw [show n - k = (n - (k + 1)) + 1 by omega, lowR, W_id (x := (k : Int) + 1) (by omega) (by omega)]
      have hs2 := hs1.rnd hL L.length (Nat.le_refl _)
      split
      · rfl
      · exact zq7 φ L n hn hL hl hφ f (k + 1) _ (hs2.up (by rw [Nat.add_mul, Nat.one_mul]; omega)) (by omega) (by omega)
    · rw [if_neg (by simp; omega), show n - k = 0 by omega]; rfl
theorem lb0 (n : Nat) : LB n 0 ⟨List.replicate n 0, List.replicate n (-1), -1⟩ := ⟨by simp, by simp, fun i h0 h1 => by rw [show gt (LS.x ⟨List.replicate n 0, List.replicate n (-1), -1⟩) i = 0 from z3w n 0 i h0 h1]; omega⟩
theorem zyg (φ : Nat) (hφ : 5001 < φ) (L : List z8) (n : Nat) (hn : n ≤ 512) (hL : ∀ b ∈ L, okBd n b) (hl : L.length ≤ 4096) : zb9 φ (n : Int) L = some ((low n L).x, (low n L).y, (low n L).z, ()) := by
  unfold zb9 z3v z3d
  rw [z2 (mk_t _ _ (by omega) (by omega) (by omega)), zyr φ n (by omega) hφ, Option.bind_some, Int.toNat_natCast]
  have := zq7 φ L n hn hL hl hφ φ 0 ⟨List.replicate n 0, List.replicate n (-1), -1⟩ ((lb0 n).up (by omega)) (by omega) (by omega)
  exact this
/-- The first error of a system. -/
def zlb (n : Int) (b : z8) : Bool := (((decide ((min2 b.i b.j) < 0) || decide (n ≤ max2 b.i b.j)) || decide (b.w < (-1099511627776))) || decide (1099511627776 < b.w))
def chkD (n : Int) (L : List z8) : Int := if n < 1 then 1 else if 512 < n ∨ 4096 < L.length then 2 else bif L.any (zlb n) then 1 else 0
theorem zpd {n : Nat} {b : z8} : zlb n b = false ↔ okBd n b := by
  unfold zlb okBd
  simp only [Bool.or_eq_false_iff, decide_eq_false_iff_not, zw2, y5c]
  have : ¬ ((n : Int) ≤ max2 b.i b.j) ↔ b.i < n ∧ b.j < n := by unfold max2; split <;> omega
  rw [this]
  omega
theorem zmh (φ : Nat) (hφ : 5001 < φ) (n : Int) (L : List z8) : ze4 φ n L = some (chkD n L, ()) := by
  unfold ze4 chkD
  by_cases h1 : n < 1
  · rw [if_pos (by simpa using h1), if_pos h1]
  · rw [if_neg (by simpa using h1), if_neg h1]
    by_cases h2 : 512 < n ∨ 4096 < L.length
    · rw [if_pos (by simp; omega), if_pos h2]
    · rw [if_neg (by simp; omega), if_neg h2]
      have := z2z (fun f i => z41 φ f n L (L.length : Int) i) (some (0, ())) (some (1, ())) L (zlb n) (fun f i hi => by
          rw [z41, if_pos (by simp; omega), z2 ⟨by omega, by omega⟩, W_id (by omega) (by omega)]
          show (if zlb n (gt L (i : Int)) = true then _ else _) = _
          cases zlb n (gt L (i : Int)) <;> rfl) (fun f => by
          rw [z41, if_neg (by simp)]) φ (by omega)
      rw [this]; cases L.any (zlb n) <;> rfl
theorem y5a {n : Int} {L : List z8} (h : chkD n L = 0) : ∃ m : Nat, n = m ∧ 1 ≤ m ∧ m ≤ 512 ∧ L.length ≤ 4096 ∧ ∀ b ∈ L, okBd m b := by
  unfold chkD at h
  split at h
  · cases h
  · split at h
    · cases h
    · refine ⟨n.toNat, by omega, by omega, by omega, by omega, fun b hb => ?_⟩
      cases ha : L.any (zlb n) with
      | true => rw [ha] at h; cases h
      | false =>
        rw [← zpd, show ((n.toNat : Nat) : Int) = n by omega]
        cases hbb : zlb n b with
        | false => rfl
        | true => rw [List.any_eq_false] at ha; exact absurd hbb (ha b hb)
theorem y5s {n : Nat} {L : List z8} (h1 : 1 ≤ n) (h2 : n ≤ 512) (h3 : L.length ≤ 4096) (h4 : ∀ b ∈ L, okBd n b) : chkD n L = 0 := by
  unfold chkD
  rw [if_neg (by omega), if_neg (by omega)]
  have : L.any (zlb n) = false := by
    rw [List.any_eq_false]
    intro b hb h
    rw [zpd.2 (h4 b hb)] at h; cases h
  rw [this]; rfl
theorem y0r (φ : Nat) (hφ : 5001 < φ) (n : Int) (L : List z8) : zdu φ n L = some (if chkD n L ≠ 0 then ([], chkD n L, ()) else if 0 ≤ (low n.toNat L).z then ([], 230, ()) else ((low n.toNat L).x, 0, ())) := by
  unfold zdu
  rw [zmh φ hφ, Option.bind_some]
  by_cases h : chkD n L = 0
  · rw [if_neg (by simpa using h), if_neg (by simpa using h)]
    obtain ⟨m, rfl, h1, h2, h3, h4⟩ := y5a h
    rw [zyg φ hφ L m h2 h4 h3, Option.bind_some, Int.toNat_natCast]
    by_cases hz : 0 ≤ (low m L).z
    · rw [if_pos (by simpa using hz), if_pos hz]
    · rw [if_neg (by simpa using hz), if_neg hz]
  · rw [if_pos (by simpa using h), if_pos (by simpa using h)]
end Px
end
section
namespace Px
open Go
set_option linter.unusedVariables false
set_option linter.unusedSimpArgs false
def bI (b : z8) : Nat := b.i.toNat
def bJ (b : z8) : Nat := b.j.toNat
def bW (b : z8) : Int := b.w
def xf (x : List Int) : BF.X := fun v => if v < x.length then some (gt x (v : Int)) else none
theorem zzl {x : List Int} {i : Int} (h0 : 0 ≤ i) (h : i < (x.length : Int)) : xf x i.toNat = some (gt x i) := by
  unfold xf
  rw [if_pos (by omega), show ((i.toNat : Nat) : Int) = i by omega]
theorem zxg {n : Nat} {s : LS} (hx : s.x.length = n) {b : z8} (hb : okBd n b) (i : Int) :
    xf (stp b i s).x = BF.rlx bI bJ bW (xf s.x) b ∧ (BF.imp bI bJ bW (xf s.x) b = true → (stp b i s).z = i) ∧ (BF.imp bI bJ bW (xf s.x) b = false → stp b i s = s) := by
  obtain ⟨a1, a2, a3, a4, _, _⟩ := hb
  have e1 : xf s.x (bI b) = some (gt s.x b.i) := zzl a1 (by rw [hx]; exact a2)
  have e2 : xf s.x (bJ b) = some (gt s.x b.j) := zzl a3 (by rw [hx]; exact a4)
  have ei : BF.imp bI bJ bW (xf s.x) b = decide (gt s.x b.i + b.w < gt s.x b.j) := by
    unfold BF.imp; rw [e1, e2]; rfl
  have er : BF.rlx bI bJ bW (xf s.x) b = if gt s.x b.i + b.w < gt s.x b.j then fun v => if v = bJ b then some (gt s.x b.i + b.w) else xf s.x v else xf s.x := by
    unfold BF.rlx; rw [e1, e2]; simp only [BF.ltO, bW]
    by_cases h : gt s.x b.i + b.w < gt s.x b.j <;> simp [h]
  rw [ei, er]
  unfold stp
  by_cases h : gt s.x b.i + b.w < gt s.x b.j
  · rw [if_pos h, if_pos h]
    refine ⟨?_, fun _ => rfl, fun q => by simp [h] at q⟩
    funext v
    unfold xf
    rw [z1y]
    simp only
    by_cases hv : v < s.x.length
    · rw [if_pos hv, if_pos hv, z0w _ _ _ _ a3 (by rw [hx]; exact a4) (by omega)]
      by_cases e : v = bJ b
      · rw [if_pos e, if_pos (by unfold bJ at e; omega)]
      · rw [if_neg e, if_neg (by unfold bJ at e; omega)]
    · rw [if_neg hv, if_neg hv, if_neg (fun e => hv (by rw [hx, e]; unfold bJ; omega))]
  · rw [if_neg h, if_neg h]
    exact ⟨rfl, fun q => by simp [h] at q, fun _ => rfl⟩
theorem zdv {n : Nat} {s : LS} (hs : s.x.length = n) {L : List z8} : ∀ m, (rndL L m s).x.length = n
  | 0 => hs
  | m + 1 => by
    have := zdv hs (L := L) m
    unfold rndL stp
    split
    · simp only [z1y]; exact this
    · exact this
theorem zxj {n : Nat} {s : LS} (hs : s.x.length = n) {L : List z8} (hL : ∀ b ∈ L, okBd n b) : ∀ m, m ≤ L.length → xf (rndL L m s).x = (L.take m).foldl (BF.rlx bI bJ bW) (xf s.x)
  | 0, _ => rfl
  | m + 1, hm => by
    have ih := zxj hs hL m (by omega)
    rw [z0n L m (by omega), List.foldl_append, ← ih]
    exact (zxg (zdv hs m) (hL _ (z9a (by omega) (by omega))) m).1
theorem y2s {n : Nat} {s : LS} (hs : s.x.length = n) {L : List z8} (hL : ∀ b ∈ L, okBd n b) (hz : s.z = -1) : ∀ m, m ≤ L.length →
    ((rndL L m s).z < 0 → rndL L m s = s ∧ ∀ k : Nat, k < m → BF.imp bI bJ bW (xf s.x) (gt L (k : Int)) = false) ∧ -1 ≤ (rndL L m s).z ∧ (rndL L m s).z < m
  | 0, _ => ⟨fun _ => ⟨rfl, fun k hk => by omega⟩, by rw [show (rndL L 0 s).z = s.z from rfl]; omega, by rw [show (rndL L 0 s).z = s.z from rfl]; omega⟩
  | m + 1, hm => by
    obtain ⟨h1, h2, h3⟩ := y2s hs hL hz m (by omega)
    obtain ⟨q1, q2, q3⟩ := zxg (zdv hs m) (hL _ (z9a (l := L) (i := (m : Int)) (by omega) (by omega))) m
    change _ ∧ -1 ≤ (stp (gt L (m : Int)) m (rndL L m s)).z ∧ (stp (gt L (m : Int)) m (rndL L m s)).z < _
    cases hi : BF.imp bI bJ bW (xf (rndL L m s).x) (gt L (m : Int)) with
    | true =>
      have := q2 hi
      refine ⟨fun h => ?_, by omega, by omega⟩
      change (stp (gt L (m : Int)) m (rndL L m s)).z < 0 at h
      omega
    | false =>
      have e := q3 hi
      rw [e]
      refine ⟨fun h => ?_, h2, by omega⟩
      change (stp (gt L (m : Int)) m (rndL L m s)).z < 0 at h
      rw [e] at h
      obtain ⟨e2, h4⟩ := h1 h
      refine ⟨by change stp (gt L (m : Int)) m (rndL L m s) = s; rw [e, e2], fun k hk => ?_⟩
      by_cases hkm : k = m
      · subst hkm; rw [e2] at hi; exact hi
      · exact h4 k (by omega)
theorem zor {n : Nat} {s : LS} (hs : s.x.length = n) {L : List z8} (hL : ∀ b ∈ L, okBd n b) (hz : s.z = -1) (hf : ∀ b ∈ L, BF.imp bI bJ bW (xf s.x) b = false) : ∀ m, m ≤ L.length → rndL L m s = s
  | 0, _ => rfl
  | m + 1, hm => by
    have ih := zor hs hL hz hf m (by omega)
    have hb := z9a (l := L) (i := (m : Int)) (by omega) (by omega)
    change stp (gt L (m : Int)) m (rndL L m s) = s
    rw [ih]
    exact (zxg hs (hL _ hb) m).2.2 (hf _ hb)
/-- At the start. -/
def xz (n : Nat) : BF.X := fun v => if v < n then some 0 else none
theorem y7j (n : Nat) : xf (List.replicate n 0) = xz n := by
  funext v
  unfold xf xz
  rw [List.length_replicate]
  split
  · rw [z3w _ _ _ (by omega) (by omega)]
  · rfl
theorem zwq {n : Nat} {L : List z8} (hL : ∀ b ∈ L, okBd n b) : ∀ (f k : Nat) (s : LS), s.x.length = n → xf s.x = BF.rnds bI bJ bW L (xz n) k → (lowR L f s).x.length = n ∧
    (((lowR L f s).z < 0 → f ≠ 0 ∨ s.z < 0) → ((lowR L f s).z < 0 → f ≠ 0) → ((lowR L f s).z < 0 → BF.Fix bI bJ bW L (xf (lowR L f s).x) ∧ ∃ k', xf (lowR L f s).x = BF.rnds bI bJ bW L (xz n) k')) ∧
    (0 ≤ (lowR L f s).z → f ≠ 0 → ¬ BF.Feas bI bJ bW (xz n) L n ∨ k + f < n) ∧ (f ≠ 0 → -1 ≤ (lowR L f s).z ∧ (lowR L f s).z < L.length)
  | 0, k, s, hs, hx => ⟨hs, fun _ h2 h => absurd rfl (h2 h), fun _ h => absurd rfl h, fun h => absurd rfl h⟩
  | f + 1, k, s, hs, hx => by
    have hs1 : (LS.mk s.x s.y (-1)).x.length = n := hs
    obtain ⟨h1, h2, h3⟩ := y2s hs1 hL rfl L.length (Nat.le_refl _)
    have hr := zxj hs1 hL L.length (Nat.le_refl _)
    rw [List.take_length] at hr
    have hr2 : xf (rndL L L.length ⟨s.x, s.y, -1⟩).x = BF.rnds bI bJ bW L (xz n) (k + 1) := by
      rw [hr, show xf (LS.mk s.x s.y (-1)).x = _ from hx]; rfl
    have hq : ¬ (rndL L L.length ⟨s.x, s.y, -1⟩).z < 0 → n ≤ k + 1 → ¬ BF.Feas bI bJ bW (xz n) L n := fun hz hk F => by
      have := zor hs1 hL rfl (fun b hb => by
        have := BF.done F hk b hb
        rw [← hx] at this; exact this) L.length (Nat.le_refl _)
      rw [this] at hz
      exact hz (by show (-1 : Int) < 0; omega)
    unfold lowR
    split
    · rename_i hz
      obtain ⟨e1, e2⟩ := h1 hz
      refine ⟨zdv hs1 _, fun _ _ _ => ⟨fun b hb => ?_, k + 1, hr2⟩, fun h => by omega, fun _ => ⟨h2, h3⟩⟩
      rw [e1]
      obtain ⟨i, hi, rfl⟩ := y2a hb
      exact e2 i hi
    · rename_i hz
      by_cases hf : f = 0
      · subst hf
        refine ⟨zdv hs1 _, fun _ _ h => absurd h hz, fun _ _ => ?_, fun _ => ⟨h2, h3⟩⟩
        by_cases hk : n ≤ k + 1
        · exact .inl (hq hz hk)
        · exact .inr (by omega)
      · obtain ⟨i1, i2, i3, i4⟩ := zwq hL f (k + 1) _ (zdv hs1 L.length) hr2
        refine ⟨i1, fun _ _ h => i2 (fun _ => .inl hf) (fun _ => hf) h, fun h _ => ?_, fun _ => i4 hf⟩
        rcases i3 h hf with h | h
        · exact .inl h
        · exact .inr (by omega)
/-- What the solver leaves. -/
structure y8f (n : Nat) (L : List z8) : Prop where
  len : (low n L).x.length = n
  fix : (low n L).z < 0 → BF.Fix bI bJ bW L (xf (low n L).x)
  rnd : (low n L).z < 0 → ∃ k, xf (low n L).x = BF.rnds bI bJ bW L (xz n) k
  cyc : 0 ≤ (low n L).z → ¬ BF.Feas bI bJ bW (xz n) L n
  lo : -1 ≤ (low n L).z
  hi : (low n L).z < L.length
theorem y74 {n : Nat} {L : List z8} (h1 : 1 ≤ n) (hL : ∀ b ∈ L, okBd n b) : y8f n L := by
  obtain ⟨i1, i2, i3, i4⟩ := zwq hL n 0 ⟨List.replicate n 0, List.replicate n (-1), -1⟩ (by simp) (y7j n)
  have hn : n ≠ 0 := by omega
  refine ⟨i1, fun h => (i2 (fun _ => .inl hn) (fun _ => hn) h).1, fun h => (i2 (fun _ => .inl hn) (fun _ => hn) h).2, fun h => ?_, (i4 hn).1, (i4 hn).2⟩
  rcases i3 h hn with h | h
  · exact h
  · omega
/-- The solution breaks no zcm. -/
theorem y5t {n : Nat} {L : List z8} (h1 : 1 ≤ n) (hL : ∀ b ∈ L, okBd n b) (hz : (low n L).z < 0) {b : z8} (hb : b ∈ L) : gt (low n L).x b.j - gt (low n L).x b.i ≤ b.w := by
  have h := y74 h1 hL
  obtain ⟨a1, a2, a3, a4, _, _⟩ := hL b hb
  obtain ⟨d, hd, hl⟩ := (h.fix hz).le hb (zzl a1 (by rw [h.len]; exact a2))
  have e : xf (low n L).x (bJ b) = some (gt (low n L).x b.j) := zzl a3 (by rw [h.len]; exact a4)
  rw [e] at hd
  cases hd
  unfold bW at hl
  omega
end Px
end
section
namespace Px
open Go
set_option linter.unusedVariables false
set_option linter.unusedSimpArgs false
def evE (v : Int) (e : z1) : z1j := ⟨e.visit.wagon, e.visit.place, v, e.visit.ref, e.visit.stay⟩
def evsE : Int → List z1 → List z1j
  | _, [] => []
  | v, e :: t => evE v e :: evsE (v + 1) t
def bnds (tv : z0c → z0c → Int) (m : List (Int × Int)) : Option z0c → Int → List z1 → List z8
  | _, _, [] => []
  | pr, v, e :: t => evB m v e ++ trB tv v pr e ++ bnds tv m (some e.visit) (v + 1) t
theorem y4w (tv m) : ∀ (t : List z1) (pr) (s : BS), (bEv tv m pr t s).v = s.v + t.length
  | [], pr, s => by simp [bEv]
  | e :: t, pr, s => by
    rw [bEv, y4w tv m t]
    simp only [zl7, List.length_cons]; omega
theorem zzv (tv m) : ∀ (t : List z1) (pr) (s : BS), (bEv tv m pr t s).b = s.b ++ bnds tv m pr s.v t
  | [], pr, s => by simp [bEv, bnds]
  | e :: t, pr, s => by
    rw [bEv, zzv tv m t]
    simp only [zl7, bnds, List.append_assoc]
theorem y5h (tv m) : ∀ (t : List z1) (pr) (s : BS), (bEv tv m pr t s).e = s.e ++ evsE s.v t
  | [], pr, s => by simp [bEv, evsE]
  | e :: t, pr, s => by
    rw [bEv, y5h tv m t]
    simp only [zl7, evsE, evE, List.append_assoc, List.cons_append, List.nil_append]
theorem y5l : ∀ (t : List z1) (v : Int) (i : Nat), (evsE v t)[i]? = (t[i]?).map (evE (v + i))
  | [], v, i => by simp [evsE]
  | e :: t, v, 0 => by simp [evsE]
  | e :: t, v, i + 1 => by
    simp only [evsE, List.getElem?_cons_succ]
    rw [y5l t (v + 1) i]
    congr 2; omega
/-- The bounds of the event i of a z34, and the one that leads to it. -/
theorem zru (tv m) : ∀ (t : List z1) (pr) (v : Int) (i : Nat) (e : z1), t[i]? = some e → ∀ b ∈ evB m (v + i) e, b ∈ bnds tv m pr v t
  | [], pr, v, i, e, h, b, hb => by simp at h
  | x :: t, pr, v, 0, e, h, b, hb => by
    simp at h; subst h
    rw [show v + ((0 : Nat) : Int) = v by omega] at hb
    simp only [bnds]
    exact List.mem_append_left _ (List.mem_append_left _ hb)
  | x :: t, pr, v, i + 1, e, h, b, hb => by
    simp only [bnds]
    refine List.mem_append_right _ (zru tv m t _ (v + 1) i e (by simpa using h) b ?_)
    rw [show v + 1 + (i : Int) = v + ((i + 1 : Nat) : Int) by omega]; exact hb
theorem zxd (tv m) : ∀ (t : List z1) (pr) (v : Int) (i : Nat) (a e : z1), t[i]? = some a → t[i + 1]? = some e → (⟨v + i + 1, v + i, 0 - tv a.visit e.visit⟩ : z8) ∈ bnds tv m pr v t
  | [], pr, v, i, a, e, h, _ => by simp at h
  | [x], pr, v, 0, a, e, h, h2 => by simp at h2
  | x :: y :: t, pr, v, 0, a, e, h, h2 => by
    simp at h h2; subst h; subst h2
    simp only [bnds, trB]
    refine List.mem_append_right _ (List.mem_append_left _ (List.mem_append_right _ (List.mem_singleton.2 ?_)))
    simp
  | x :: t, pr, v, i + 1, a, e, h, h2 => by
    have := zxd tv m t (some x.visit) (v + 1) i a e (by simpa using h) (by simpa using h2)
    simp only [bnds]
    refine List.mem_append_right _ ?_
    rw [show v + ((i + 1 : Nat) : Int) + 1 = v + 1 + (i : Int) + 1 by omega, show v + ((i + 1 : Nat) : Int) = v + 1 + (i : Int) by omega]
    exact this
theorem zm6 (tv m) : ∀ (t : List z1) (pr) (v : Int) (b : z8), b ∈ bnds tv m pr v t → ∃ i : Nat, ∃ e : z1, t[i]? = some e ∧ (b ∈ evB m (v + i) e ∨ ∃ a : z0c, (0 < i ∨ pr.isSome = true) ∧ b = ⟨v + i, v + i - 1, 0 - tv a e.visit⟩)
  | [], pr, v, b, h => by simp [bnds] at h
  | x :: t, pr, v, b, h => by
    simp only [bnds, List.mem_append] at h
    rcases h with (h | h) | h
    · exact ⟨0, x, rfl, .inl (by rw [show v + ((0 : Nat) : Int) = v by omega]; exact h)⟩
    · cases pr with
      | none => simp [trB] at h
      | some a =>
        simp only [trB, List.mem_singleton] at h
        exact ⟨0, x, rfl, .inr ⟨a, .inr rfl, by rw [h]; simp⟩⟩
    · obtain ⟨i, e, hi, hb⟩ := zm6 tv m t _ _ b h
      refine ⟨i + 1, e, by simpa using hi, ?_⟩
      rw [show v + ((i + 1 : Nat) : Int) = v + 1 + (i : Int) by omega]
      rcases hb with hb | ⟨a, _, hb⟩
      · exact .inl hb
      · exact .inr ⟨a, .inl (by omega), hb⟩
def fB (tv : z0c → z0c → Int) (m : List (Int × Int)) (ts : List (List z1)) (s : BS) : BS := ts.foldl (fun s t => bEv tv m none t s) s
theorem y6t (tv m) (A B : List (List z1)) (s : BS) : fB tv m (A ++ B) s = fB tv m B (fB tv m A s) := List.foldl_append ..
theorem znr (tv m) : ∀ (ts : List (List z1)) (s : BS), s.v ≤ (fB tv m ts s).v ∧ (∃ b, (fB tv m ts s).b = s.b ++ b) ∧ ∃ e, (fB tv m ts s).e = s.e ++ e
  | [], s => ⟨Int.le_refl _, ⟨[], by simp [fB]⟩, [], by simp [fB]⟩
  | t :: ts, s => by
    obtain ⟨h1, ⟨b, h2⟩, e, h3⟩ := znr tv m ts (bEv tv m none t s)
    have e1 : fB tv m (t :: ts) s = fB tv m ts (bEv tv m none t s) := rfl
    rw [e1]
    rw [y4w] at h1
    rw [zzv] at h2
    rw [y5h] at h3
    exact ⟨by omega, ⟨_, by rw [h2, List.append_assoc]⟩, _, by rw [h3, List.append_assoc]⟩
/-- A z34 within the whole: its first variable, its bounds, its events. -/
theorem zu1 (tv m) (A B : List (List z1)) (t : List z1) (s : BS) : s.v ≤ (fB tv m A s).v ∧ (fB tv m A s).v + t.length ≤ (fB tv m (A ++ t :: B) s).v ∧
    (∀ b ∈ bnds tv m none (fB tv m A s).v t, b ∈ (fB tv m (A ++ t :: B) s).b) ∧ ∃ e, (fB tv m (A ++ t :: B) s).e = (fB tv m A s).e ++ (evsE (fB tv m A s).v t ++ e) := by
  have e1 : fB tv m (A ++ t :: B) s = fB tv m B (bEv tv m none t (fB tv m A s)) := by rw [y6t]; rfl
  obtain ⟨h1, ⟨b, h2⟩, e, h3⟩ := znr tv m B (bEv tv m none t (fB tv m A s))
  rw [e1]
  rw [y4w] at h1
  rw [zzv] at h2
  rw [y5h] at h3
  refine ⟨(znr tv m A s).1, h1, fun x hx => ?_, e, by rw [h3, List.append_assoc]⟩
  rw [h2]
  exact List.mem_append_left _ (List.mem_append_right _ hx)
theorem zvs (tv m) : ∀ (ts : List (List z1)) (s : BS) (b : z8), b ∈ (fB tv m ts s).b → b ∈ s.b ∨ ∃ A t B, ts = A ++ t :: B ∧ b ∈ bnds tv m none (fB tv m A s).v t
  | [], s, b, h => .inl h
  | t :: ts, s, b, h => by
    have e1 : fB tv m (t :: ts) s = fB tv m ts (bEv tv m none t s) := rfl
    rw [e1] at h
    rcases zvs tv m ts _ b h with h2 | ⟨A, t', B, e2, h2⟩
    · rw [zzv] at h2
      rcases List.mem_append.1 h2 with h2 | h2
      · exact .inl h2
      · exact .inr ⟨[], t, ts, rfl, h2⟩
    · exact .inr ⟨t :: A, t', B, by rw [e2]; rfl, h2⟩
/-- The variables of the readers. -/
theorem ztu (rs : List z2m) (m : List (Int × Int)) : ∀ n : Nat, (∀ i : Nat, i < n → (mget m (i : Int)).isSome = true → ∃ v, mget (rdsN rs m n).m (i : Int) = some v ∧ 1 ≤ v ∧ v < (rdsN rs m n).v) ∧ ∀ k : Int, (n : Int) ≤ k → mget (rdsN rs m n).m k = mget m k
  | 0 => ⟨fun i h => by omega, fun k _ => rfl⟩
  | n + 1 => by
    obtain ⟨h1, h2⟩ := ztu rs m n
    have hv := (zf3 rs m n).1
    have h3 := h2 (n : Int) (Int.le_refl _)
    simp only [rdsN, zpc]
    split
    · rename_i hs
      refine ⟨fun i hi hm => ?_, fun k hk => ?_⟩
      · simp only [zgg]
        by_cases e : i = n
        · subst e; exact ⟨_, if_pos rfl, hv, by omega⟩
        · obtain ⟨v, q1, q2, q3⟩ := h1 i (by omega) hm
          exact ⟨v, by rw [if_neg (by omega)]; exact q1, q2, by omega⟩
      · simp only [zgg]
        rw [if_neg (by omega)]; exact h2 k (by omega)
    · rename_i hs
      refine ⟨fun i hi hm => ?_, fun k hk => h2 k (by omega)⟩
      by_cases e : i = n
      · subst e; rw [h3] at hs; exact absurd hm hs
      · exact h1 i (by omega) hm
theorem zut {m : List (Int × Int)} {e : z1} {k : Int} (h : (mget m k).isSome = true) : (mget (zuh m e) k).isSome = true := by
  unfold zuh
  split
  · rw [zgg]; split
    · rfl
    · exact h
  · exact h
theorem zhs : ∀ (t : List z1) {m : List (Int × Int)} {k : Int}, (mget m k).isSome = true → (mget (zlj m t) k).isSome = true
  | [], m, k, h => h
  | e :: t, m, k, h => zhs t (zut h)
theorem zp3 : ∀ (t : List z1) (m : List (Int × Int)) (e : z1), e ∈ t → 0 ≤ e.reader → (mget (zlj m t) e.reader).isSome = true
  | x :: t, m, e, he, h => by
    rcases List.mem_cons.1 he with rfl | he
    · refine zhs t (m := zuh m e) ?_
      unfold zuh
      rw [if_pos h, zgg, if_pos rfl]; rfl
    · exact zp3 t _ e he h
theorem zww (ts : List (List z1)) {k : Int} : ∀ {m : List (Int × Int)}, (mget m k).isSome = true → (mget (ts.foldl zlj m) k).isSome = true := by
  induction ts with
  | nil => intro m h; exact h
  | cons t ts ih => intro m h; rw [List.foldl_cons]; exact ih (zhs t h)
theorem y17 (ts : List (List z1)) : ∀ (m : List (Int × Int)) (t : List z1) (e : z1), t ∈ ts → e ∈ t → 0 ≤ e.reader → (mget (ts.foldl zlj m) e.reader).isSome = true := by
  induction ts with
  | nil => intro m t e ht; cases ht
  | cons x ts ih =>
    intro m t e ht he h
    rw [List.foldl_cons]
    rcases List.mem_cons.1 ht with e1 | ht
    · subst e1
      exact zww ts (zp3 t m e he h)
    · exact ih _ t e ht he h
/-- What is known of the events of all tracks. -/
structure TsOK (rs : List z2m) (ts : List (List z1)) : Prop where
  early : ∀ t ∈ ts, ∀ e ∈ t, 0 ≤ e.visit.early ∧ e.visit.early ≤ 1073741824
  reader : ∀ t ∈ ts, ∀ e ∈ t, e.reader < (rs.length : Int)
  rs : ∀ r ∈ rs, -1000 ≤ r.low ∧ r.low ≤ r.high ∧ r.high ≤ 1000
abbrev rdM (rs : List z2m) (ts : List (List z1)) : List (Int × Int) := (rdsN rs (used ts) rs.length).m
abbrev rd0 (rs : List z2m) (ts : List (List z1)) : BS := ⟨(rdsN rs (used ts) rs.length).v, (rdsN rs (used ts) rs.length).b, (rdsN rs (used ts) rs.length).y, []⟩
theorem zyf (tv) (rs : List z2m) (ts : List (List z1)) : bAll tv rs ts = fB tv (rdM rs ts) ts (rd0 rs ts) := rfl
theorem y82 {rs : List z2m} {ts : List (List z1)} (h : TsOK rs ts) {t : List z1} (ht : t ∈ ts) {e : z1} (he : e ∈ t) (hr : 0 ≤ e.reader) : mget (rdM rs ts) e.reader = some (rv (rdM rs ts) e) ∧ 1 ≤ rv (rdM rs ts) e ∧ rv (rdM rs ts) e < (rd0 rs ts).v := by
  have h2 := h.reader t ht e he
  have := y17 ts [] t e ht he hr
  obtain ⟨v, q1, q2, q3⟩ := (ztu rs (used ts) rs.length).1 e.reader.toNat (by omega) (by rw [show ((e.reader.toNat : Nat) : Int) = e.reader by omega]; exact this)
  rw [show ((e.reader.toNat : Nat) : Int) = e.reader by omega] at q1
  have e1 : rv (rdM rs ts) e = v := by unfold rv; rw [show mget (rdM rs ts) e.reader = some v from q1]; rfl
  rw [e1]
  exact ⟨q1, q2, q3⟩
/-- The readers' bounds. -/
theorem y37 (rs : List z2m) (m : List (Int × Int)) : ∀ n : Nat, n ≤ rs.length → ∀ b ∈ (rdsN rs m n).b, ∃ r ∈ rs, ∃ v, 1 ≤ v ∧ v < (rdsN rs m n).v ∧ (b = ⟨0, v, 0 - r.low⟩ ∨ b = ⟨v, 0, r.high⟩)
  | 0, _, b, hb => by simp [rdsN] at hb
  | n + 1, hn, b, hb => by
    have hv := (zf3 rs m n).1
    have ih := y37 rs m n (by omega)
    simp only [rdsN, zpc] at hb ⊢
    split at hb
    · rename_i hs
      rw [if_pos hs]
      simp only [List.mem_append, List.mem_cons, List.not_mem_nil, or_false] at hb
      rcases hb with hb | rfl | rfl
      · obtain ⟨r, hr, v, q1, q2, q3⟩ := ih b hb
        exact ⟨r, hr, v, q1, by simp only; omega, q3⟩
      · exact ⟨_, z9a (l := rs) (i := (n : Int)) (by omega) (by omega), _, hv, by simp only; omega, .inl rfl⟩
      · exact ⟨_, z9a (l := rs) (i := (n : Int)) (by omega) (by omega), _, hv, by simp only; omega, .inr rfl⟩
    · rename_i hs
      rw [if_neg hs]
      exact ih b hb
theorem y7f {rs : List z2m} {ts : List (List z1)} (h : TsOK rs ts) {t : List z1} (ht : t ∈ ts) {e : z1} (he : e ∈ t) {v : Int} (hv : (rd0 rs ts).v ≤ v) {n : Nat} (hn : v < (n : Int)) {b : z8} (hb : b ∈ evB (rdM rs ts) v e) : okBd n b := by
  have h1 := h.early t ht e he
  have h0 := (zf3 rs (used ts) rs.length).1
  change 1 ≤ (rd0 rs ts).v at h0
  unfold evB at hb
  split at hb
  · simp only [List.mem_cons, List.not_mem_nil, or_false] at hb
    rcases hb with rfl | rfl <;> exact ⟨by simp only; omega, by simp only; omega, by simp only; omega, by simp only; omega, by simp only; omega, by simp only; omega⟩
  · rename_i hr
    obtain ⟨_, q1, q2⟩ := y82 h ht he (by omega)
    simp only [List.mem_cons, List.not_mem_nil, or_false] at hb
    rcases hb with rfl | rfl | rfl | rfl <;> exact ⟨by simp only; omega, by simp only; omega, by simp only; omega, by simp only; omega, by simp only; omega, by simp only; omega⟩
/-- All bounds are in range. -/
theorem y3k {tv : z0c → z0c → Int} (htv : ∀ a b, 0 ≤ tv a b ∧ tv a b ≤ 1073741825) {rs : List z2m} {ts : List (List z1)} (h : TsOK rs ts) : 1 ≤ (bAll tv rs ts).v ∧ ∀ b ∈ (bAll tv rs ts).b, okBd (bAll tv rs ts).v.toNat b := by
  have h0 := (zf3 rs (used ts) rs.length).1
  change 1 ≤ (rd0 rs ts).v at h0
  rw [zyf]
  obtain ⟨m1, m2, m3⟩ := znr tv (rdM rs ts) ts (rd0 rs ts)
  refine ⟨by omega, fun b hb => ?_⟩
  rcases zvs tv (rdM rs ts) ts _ b hb with hb | ⟨A, t, B, rfl, hb⟩
  · obtain ⟨r, hr, v, q1, q2, q3⟩ := y37 rs (used ts) rs.length (Nat.le_refl _) b hb
    change v < (rd0 rs ts).v at q2
    have := h.rs r hr
    rcases q3 with rfl | rfl <;> exact ⟨by simp only; omega, by simp only; omega, by simp only; omega, by simp only; omega, by simp only; omega, by simp only; omega⟩
  · obtain ⟨k1, k2, k3, k4⟩ := zu1 tv (rdM rs (A ++ t :: B)) A B t (rd0 rs (A ++ t :: B))
    obtain ⟨i, e, hi, hb⟩ := zm6 tv _ t none _ b hb
    have hlt := (List.getElem?_eq_some_iff.1 hi).1
    have hte : t ∈ A ++ t :: B := by simp
    have hee : e ∈ t := List.mem_of_getElem? hi
    rcases hb with hb | ⟨a, ha, rfl⟩
    · exact y7f h hte hee (by omega) (by omega) hb
    · have := htv a e.visit
      have hi0 : 0 < i := ha.resolve_right (by simp)
      exact ⟨by simp only; omega, by simp only; omega, by simp only; omega, by simp only; omega, by simp only; omega, by simp only; omega⟩
section
variable {X : Int → Int} {m : List (Int × Int)} {v : Int} {e : z1}
theorem zw0 (hX : ∀ b ∈ evB m v e, X b.j - X b.i ≤ b.w) (he : 0 ≤ e.visit.early ∧ e.visit.early ≤ 1073741824) : 0 ≤ X v - X 0 ∧ X v - X 0 ≤ 1073741824 := by
  unfold evB at hX
  split at hX
  · have h1 := hX ⟨0, v, e.visit.early⟩ (by simp)
    have h2 := hX ⟨v, 0, 0 - e.visit.early⟩ (by simp)
    simp only at h1 h2; omega
  · have h1 := hX ⟨0, v, 1073741824⟩ (by simp)
    have h2 := hX ⟨v, 0, 0⟩ (by simp)
    simp only at h1 h2; omega
end
theorem zqb {p : Pool} (hc : z1l p = 0) {l : List zf} (hl : FewL l) {w : Int} {x : z1} (h : x ∈ z34 p l w) : x.reader < (p.readers.length : Int) := by
  obtain ⟨y, hy, b, rfl⟩ := zqm h
  obtain ⟨h1, h2, _, h3, h4⟩ := ztm hl.len hy
  show y.reader < _
  have ho := zfw hc (hl.gt h1 h2) h3
  unfold evs at h4
  split at h4
  · rename_i hk
    simp only [List.mem_singleton] at h4
    rw [h4]; exact (ho.read hk).2
  · split at h4
    · simp only [List.mem_cons, List.not_mem_nil, or_false] at h4
      rcases h4 with q | q <;> rw [q] <;> simp only <;> omega
    · split at h4
      · simp only [List.mem_singleton] at h4
        rw [h4]; simp only; omega
      · cases h4
theorem tsOK {p : Pool} (hc : z1l p = 0) {l : List zf} (hl : FewL l) : TsOK p.readers (z8v p l) := by
  refine ⟨fun t ht e he => ?_, fun t ht e he => ?_, fun r hr => ?_⟩
  · obtain ⟨w, _, rfl⟩ := List.mem_map.1 ht; exact zoy hc hl he
  · obtain ⟨w, _, rfl⟩ := List.mem_map.1 ht; exact zqb hc hl he
  · have := (zlz hc).1 r hr; omega
end Px
end
section
namespace Px
open Go
theorem y6b : ze6 100000000 = some (true, ()) := by kernel_rfl
end Px
end
section
namespace Px
open Go
set_option linter.unusedVariables false
set_option linter.unusedSimpArgs false
theorem z2l (φ : Nat) (a b c : Int) : zj φ a b c = some (bet a b c, ()) := rfl
theorem zjd (φ : Nat) (l : List Wash) (hl : l.length ≤ 4096) (hφ : 5000 < φ) : z7n φ l = some (bif z3p l then 0 else 1, ()) := by
  unfold z7n
  rw [z2 (mk_t _ _ (by omega) (by omega) (by omega))]
  refine z00 (fun n i t => z2q φ n l i t) l.length
    (fun i t => (List.range i).all (z24 l) = true ∧ t.length = 4096 ∧ ∀ j : Int, 0 ≤ j → j < 4096 → gt t j = (l.take i).any fun v => keyW v == j)
    (fun o => o = some (bif z3p l then 0 else 1, ())) ?_ ?_ φ _ ⟨by simp, by rw [List.length_replicate]; rfl, fun j h0 h1 => by rw [z3w _ _ _ h0 (by rw [show (4096 : Int).toNat = 4096 from rfl]; omega)]; simp⟩ (by omega)
  · intro n i t hi ⟨h1, h2, h3⟩ hs
    have hW : W ((i : Int) + 1) = (i : Int) + 1 := W_id (by omega) (by omega)
    have hsucc := z7m (z24 l) i
    have hbad : z24 l i = false → z3p l = false := by
      intro h
      unfold z3p
      rw [List.all_eq_false]
      exact ⟨i, by simp; omega, by simp [h]⟩
    rw [z2q, if_pos (by simp; omega), z2 ⟨by omega, by omega⟩]
    simp only [z2l, Option.bind_some, zp]
    have hok : zr5 (gt l i) = (bet (gt l i).from_ 0 63 && bet (gt l i).to 0 63 && ((gt l i).from_ != (gt l i).to) && bet (gt l i).minutes 0 100000) := rfl
    have hne : ((gt l i).from_ == (gt l i).to) = !((gt l i).from_ != (gt l i).to) := by simp [bne]
    rw [hne]
    cases hw : zr5 (gt l i) with
    | false =>
      rw [hbad (by simp [z24, hw])]
      rw [hw] at hok
      clear hne hs h3
      generalize bet (gt l i).from_ 0 63 = a at *; generalize bet (gt l i).to 0 63 = b at *; generalize ((gt l i).from_ != (gt l i).to) = c at *; generalize bet (gt l i).minutes 0 100000 = d at *
      cases a <;> cases b <;> cases c <;> cases d <;> first | rfl | exact absurd hok (by decide)
    | true =>
      rw [hw] at hok
      have hb := hok.symm
      simp only [Bool.and_eq_true] at hb
      obtain ⟨⟨⟨b1, b2⟩, b3⟩, b4⟩ := hb
      have c1 := zp2 b1; have c2 := zp2 b2
      have e1 : W (64 * (gt l i).from_) = 64 * (gt l i).from_ := W_id (by omega) (by omega)
      have e2 : W (W (64 * (gt l i).from_) + (gt l i).to) = keyW (gt l i) := by rw [e1]; exact W_id (by omega) (by omega)
      have hk : 0 ≤ keyW (gt l i) ∧ keyW (gt l i) < 4096 := by unfold keyW; omega
      simp only [b1, b2, b3, b4, Bool.not_true, Bool.or_false, if_true, e2, Bool.or_self, Bool.false_eq_true, if_false]
      rw [z2 ⟨hk.1, by omega⟩, h3 _ hk.1 hk.2]
      have hat : z24 l i = !(l.take i).any fun v => keyW v == keyW (gt l i) := by simp only [z24, hw, Bool.true_and]
      cases ha : (l.take i).any fun v => keyW v == keyW (gt l i) with
      | true => rw [hbad (by rw [hat, ha]; rfl)]; rfl
      | false =>
        rw [if_neg (by simp), z2 ⟨hk.1, by omega⟩, hW]
        refine hs _ ⟨by rw [hsucc, h1, hat, ha]; rfl, by rw [z1y, h2], fun j j0 j1 => ?_⟩
        rw [z0w _ _ _ _ hk.1 (by omega) j0, zb8 _ _ _ hi, h3 j j0 j1]
        by_cases e : j = keyW (gt l i)
        · simp [e]
        · have : (keyW (gt l i) == j) = false := by simp; exact fun h => e h.symm
          simp [e, this]
  · intro n t ⟨h1, h2, h3⟩
    rw [z2q, if_neg (by simp)]
    unfold z3p
    rw [h1]; rfl
theorem zl5 (φ : Nat) (hφ : 5000 < φ) (x : z88) : zbj φ x = some (z30 x, ()) := by
  have e : (((decide (32 < (x.types.length : Int)) || decide (4096 < (x.wagons.length : Int))) || decide (1024 < (x.swaps.length : Int))) || decide (4096 < (x.washes.length : Int))) =
      (decide (32 < x.types.length) || decide (4096 < x.wagons.length) || decide (1024 < x.swaps.length) || decide (4096 < x.washes.length)) := by
    congr 1
    · congr 1
      · congr 1 <;> (apply decide_eq_decide.2; omega)
      · apply decide_eq_decide.2; omega
    · apply decide_eq_decide.2; omega
  unfold zbj z30
  rw [e]
  cases h : (decide (32 < x.types.length) || decide (4096 < x.wagons.length) || decide (1024 < x.swaps.length) || decide (4096 < x.washes.length)) with
  | true => rfl
  | false =>
    simp only [Bool.or_eq_false_iff, decide_eq_false_iff_not, Nat.not_lt] at h
    obtain ⟨⟨⟨h1, h2⟩, h3⟩, h4⟩ := h
    have hp : W ((x.types.length : Int) - 1) = (x.types.length : Int) - 1 := W_id (by omega) (by omega)
    rw [if_neg (by simp)]
    rw [z2z (fun n i => z3e φ n i x) (z2f φ φ 0 x) (some (1, ())) x.types (fun t => !zej t) ?_ ?_ φ (by omega)]
    · rw [z2z (fun n i => z2f φ n i x) (z1r φ φ 0 x) (some (1, ())) x.wagons (fun t => !zan x.types.length t) ?_ ?_ φ (by omega)]
      · rw [z2z (fun n i => z1r φ n i x) ((z7n φ x.washes).bind fun y => some (y.1, ())) (some (1, ())) x.swaps (fun t => !zg0 x.types.length t) ?_ ?_ φ (by omega)]
        · rw [zjd _ _ h4 hφ]
          simp only [Option.bind_some]
          simp only [List.any_eq_not_all_not, Bool.not_not]
          cases x.types.all zej <;> cases x.wagons.all (zan x.types.length) <;> cases x.swaps.all (zg0 x.types.length) <;> cases z3p x.washes <;> rfl
        · intro n i hi
          have hW : W ((i : Int) + 1) = (i : Int) + 1 := W_id (by omega) (by omega)
          have hne : ((gt x.swaps i).wanted == (gt x.swaps i).given) = !((gt x.swaps i).wanted != (gt x.swaps i).given) := by simp [bne]
          rw [z1r, if_pos (by simp; omega), z2 ⟨by omega, by omega⟩]
          simp only [z2l, Option.bind_some, zg0, zp, hW, hp, hne]
          cases bet (gt x.swaps i).wanted 0 ((x.types.length : Int) - 1) <;> cases bet (gt x.swaps i).given 0 ((x.types.length : Int) - 1) <;> cases ((gt x.swaps i).wanted != (gt x.swaps i).given) <;>
            cases bet (gt x.swaps i).cost 0 1000000000 <;> rfl
        · intro n; rw [z1r, if_neg (by simp)]
      · intro n i hi
        have hW : W ((i : Int) + 1) = (i : Int) + 1 := W_id (by omega) (by omega)
        rw [z2f, if_pos (by simp; omega), z2 ⟨by omega, by omega⟩]
        simp only [z7y, z2l, Option.bind_some, zan, zp, hW, hp]
        cases bet (gt x.wagons i).type_ 0 ((x.types.length : Int) - 1) <;> cases bet (gt x.wagons i).owner 0 63 <;> cases bet (gt x.wagons i).home 0 511 <;>
          cases bet (gt x.wagons i).built 0 1073741824 <;> cases bet (gt x.wagons i).worth 0 1099511627776 <;> rfl
      · intro n; rw [z2f, if_neg (by simp)]
    · intro n i hi
      have hW : W ((i : Int) + 1) = (i : Int) + 1 := W_id (by omega) (by omega)
      rw [z3e, if_pos (by simp; omega), z2 ⟨by omega, by omega⟩]
      simp only [z9p, z2l, Option.bind_some, zej, zp, hW]
      cases bet (gt x.types i).load 0 1000000 <;> cases bet (gt x.types i).tare 0 1000000 <;> cases bet (gt x.types i).length 0 1000000 <;> cases bet (gt x.types i).brake 0 1000000 <;>
        cases bet (gt x.types i).gauge 0 7 <;> cases bet (gt x.types i).life 1 1073741824 <;> cases bet (gt x.types i).floor 0 100 <;> rfl
    · intro n; rw [z3e, if_neg (by simp)]
theorem y2b (b n : Nat) : pw (b % PP) n = pw b n := by unfold pw; rw [← Nat.pow_mod]
theorem y6u (b n : Nat) : pw (b * b % PP) n = pw b (2 * n) := by
  rw [y2b]; unfold pw; rw [Nat.pow_mul, Nat.pow_two]
theorem zvf (φ : Nat) : ∀ (m : Nat) (a b c n : Nat), m ≤ 64 → b < 2 ^ m → m < n → a < PP → c < PP → z1m φ n (a : Int) (b : Int) 2305843009213690799 (c : Int) = some ((((c + a * b) % PP : Nat) : Int), ()) := by
  intro m
  induction m with
  | zero =>
    intro a b c n hm64 hb hn ha hc
    obtain ⟨n, rfl⟩ : ∃ n', n = n' + 1 := ⟨n - 1, by omega⟩
    have : b = 0 := by simpa using hb
    subst this
    rw [z1m, if_neg (by simp), Nat.mul_zero, Nat.add_zero, Nat.mod_eq_of_lt hc]
  | succ m ih =>
    intro a b c n hm64 hb hn ha hc
    obtain ⟨n, rfl⟩ : ∃ n', n = n' + 1 := ⟨n - 1, by omega⟩
    by_cases h0 : b = 0
    · subst h0
      rw [z1m, if_neg (by simp), Nat.mul_zero, Nat.add_zero, Nat.mod_eq_of_lt hc]
    · rw [z1m, if_pos (by simp; omega), if_pos (by decide : (2 : Int) ≠ 0)]
      have e1 : (b : Int).tdiv 2 = ((b / 2 : Nat) : Int) := by rw [Int.tdiv_eq_ediv_of_nonneg (by omega)]; omega
      have e2 : (b : Int).tmod 2 = ((b % 2 : Nat) : Int) := by rw [Int.tmod_eq_emod_of_nonneg (by omega)]; omega
      have hbl : (b / 2 : Nat) < 2 ^ m := by rw [Nat.pow_succ] at hb; omega
      have h64 : (2 : Nat) ^ m ≤ 2 ^ 63 := Nat.pow_le_pow_right (by decide) (by omega)
      have hb2 : U ((b / 2 : Nat) : Int) = ((b / 2 : Nat) : Int) := U_id (by omega) (by omega)
      have ha0 := ha; have hc0 := hc
      unfold PP at ha hc
      have e3 : (U ((a : Int) + (a : Int))).tmod 2305843009213690799 = (((a + a) % PP : Nat) : Int) := by
        rw [U_id (by omega) (by omega), Int.tmod_eq_emod_of_nonneg (by omega)]; unfold PP; omega
      have e4 : (U ((c : Int) + (a : Int))).tmod 2305843009213690799 = (((c + a) % PP : Nat) : Int) := by
        rw [U_id (by omega) (by omega), Int.tmod_eq_emod_of_nonneg (by omega)]; unfold PP; omega
      unfold z60
      rw [e1, e2, e3, e4, hb2]
      have hab : a * b = (a + a) * (b / 2) + a * (b % 2) := by
        conv => lhs; rw [← Nat.div_add_mod b 2]
        rw [Nat.mul_add, ← Nat.mul_assoc]; congr 1; rw [Nat.mul_two]
      have hfin : ∀ c' : Nat, (c' + (a + a) % PP * (b / 2)) % PP = (c' + (a + a) * (b / 2)) % PP := fun c' => by
        rw [Nat.add_mod, Nat.mul_mod, Nat.mod_mod, ← Nat.mul_mod, ← Nat.add_mod]
      have hlt : ∀ z : Nat, z % PP < PP := fun z => Nat.mod_lt _ (by decide)
      rcases Nat.mod_two_eq_zero_or_one b with hbit | hbit
      · rw [hbit, if_neg (by simp), z2 (by omega), if_pos (by decide : (2 : Int) ≠ 0), ih ((a + a) % PP) (b / 2) c n (by omega) hbl (by omega) (hlt _) hc0, hfin, hab, hbit, Nat.mul_zero, Nat.add_zero]
      · rw [hbit, if_pos (by simp), z2 (by omega), z2 (by omega), if_pos (by decide : (2 : Int) ≠ 0), ih ((a + a) % PP) (b / 2) ((c + a) % PP) n (by omega) hbl (by omega) (hlt _) (hlt _), hfin, hab, hbit, Nat.mul_one, Nat.mod_add_mod, show c + a + (a + a) * (b / 2) = c + ((a + a) * (b / 2) + a) by omega]
theorem zei (φ : Nat) (hφ : 70 < φ) (a b : Nat) (ha : a < PP) (hb : b < PP) : z9m φ (a : Int) (b : Int) 2305843009213690799 = some (((a * b % PP : Nat) : Int), ()) := by
  unfold z9m
  have h64 : b < 2 ^ 64 := Nat.lt_trans hb (by decide)
  have := zvf φ 64 a b 0 φ (by omega) h64 (by omega) ha (by decide)
  rw [Nat.zero_add] at this
  exact this
theorem zzu (φ : Nat) (hφ : 100 < φ) : ∀ (m : Nat) (a e c n : Nat), m ≤ 64 → e < 2 ^ m → m < n → a < PP → c < PP → z2r φ n (a : Int) (e : Int) (c : Int) = some (((c * pw a e % PP : Nat) : Int), ()) := by
  intro m
  induction m with
  | zero =>
    intro a e c n _ he hn ha hc
    obtain ⟨n, rfl⟩ : ∃ n', n = n' + 1 := ⟨n - 1, by omega⟩
    have : e = 0 := by simpa using he
    subst this
    rw [z2r, if_neg (by simp), zmd, Nat.mul_one, Nat.mod_eq_of_lt hc]
  | succ m ih =>
    intro a e c n hm64 he hn ha hc
    obtain ⟨n, rfl⟩ : ∃ n', n = n' + 1 := ⟨n - 1, by omega⟩
    by_cases h0 : e = 0
    · subst h0
      rw [z2r, if_neg (by simp), zmd, Nat.mul_one, Nat.mod_eq_of_lt hc]
    · rw [z2r, if_pos (by simp; omega), if_pos (by decide : (2 : Int) ≠ 0)]
      have e1 : (e : Int).tdiv 2 = ((e / 2 : Nat) : Int) := by rw [Int.tdiv_eq_ediv_of_nonneg (by omega)]; omega
      have e2 : (e : Int).tmod 2 = ((e % 2 : Nat) : Int) := by rw [Int.tmod_eq_emod_of_nonneg (by omega)]; omega
      have hel : (e / 2 : Nat) < 2 ^ m := by rw [Nat.pow_succ] at he; omega
      have h64 : (2 : Nat) ^ m ≤ 2 ^ 63 := Nat.pow_le_pow_right (by decide) (by omega)
      have hU : U ((e / 2 : Nat) : Int) = ((e / 2 : Nat) : Int) := U_id (by omega) (by omega)
      have hlt : ∀ z : Nat, z % PP < PP := fun z => Nat.mod_lt _ (by decide)
      unfold z8f
      rw [e1, e2, hU, zei φ (by omega) a a ha ha]
      have hab : pw a e = pw (a * a % PP) (e / 2) * pw a (e % 2) % PP := by
        rw [y6u, zwc, Nat.div_add_mod]
      rcases Nat.mod_two_eq_zero_or_one e with hbit | hbit
      · rw [hbit, if_neg (by simp), Option.bind_some, if_pos (by decide : (2 : Int) ≠ 0), ih _ _ _ n (by omega) hel (by omega) (hlt _) hc, hab, hbit, zmd, Nat.mul_one, Nat.mod_eq_of_lt (zrp _ _)]
      · rw [hbit, if_pos (by simp), zei φ (by omega) c a hc ha, Option.bind_some, Option.bind_some, if_pos (by decide : (2 : Int) ≠ 0), ih _ _ _ n (by omega) hel (by omega) (hlt _) (hlt _), hab, hbit, y36, Nat.mod_eq_of_lt ha]
        congr 2
        rw [Nat.mod_mul_mod, Nat.mul_mod_mod, Nat.mul_assoc, Nat.mul_comm a]
theorem zq3 (φ : Nat) (hφ : 100 < φ) (b n : Nat) (hn : n < 18446744073709551616) : zge φ (b : Int) (n : Int) = some (((pw b n : Nat) : Int), ()) := by
  unfold zge
  rw [if_pos (by decide : (2305843009213690799 : Int) ≠ 0)]
  have hbm : ((b : Int)).tmod 2305843009213690799 = ((b % PP : Nat) : Int) := by
    rw [Int.tmod_eq_emod_of_nonneg (by omega)]; unfold PP; omega
  rw [hbm]
  have := zzu φ hφ 64 (b % PP) n 1 φ (by omega) (by simpa using hn) (by omega) (Nat.mod_lt _ (by decide)) (by decide)
  rw [y2b, Nat.one_mul, Nat.mod_eq_of_lt (zrp _ _)] at this
  exact this
/-- What Valid answers. -/
theorem zl8 (φ : Nat) (hφ : 100 < φ) (x : Int) : zc9 φ x = some (zvj x, ()) := by
  unfold zc9 zvj
  cases h : decide (2 ≤ x) && decide (x < 2305843009213690799) with
  | false => rw [gz_f (by simp)]; simp
  | true =>
    simp only [Bool.and_eq_true, decide_eq_true_eq] at h
    have := zq3 φ hφ x.toNat QQ (by decide)
    rw [show ((x.toNat : Nat) : Int) = x by omega, show ((QQ : Nat) : Int) = 1152921504606845399 by decide] at this
    rw [gz_t rfl, this, Option.bind_some, zka]
theorem zcf (φ : Nat) (a b c : Int) : z14 φ a b c = some (bet a b c, ()) := rfl
theorem zl1 (φ : Nat) (p : z5f) : zca φ p = some (z71 p, ()) := by
  unfold zca z71
  simp only [zcf, Option.bind_some]
  cases bet p.kind 1 5 with
  | false => rfl
  | true =>
    rw [gz_t (by simp), Option.bind_some]
    cases bet p.railway 0 15 with
    | false => rfl
    | true =>
      rw [if_neg (by simp)]
      cases h : p.kind == 3 with
      | false => rfl
      | true => rfl
theorem zo5 (φ : Nat) (e : Edge) (n : Int) (h : W (n - 1) = n - 1) : ze9 φ e n = some (z8b n e, ()) := by
  unfold ze9 z8b
  simp only [zcf, Option.bind_some, h, zp]
  cases bet e.a 0 (n - 1) <;> cases bet e.b 0 (n - 1) <;> cases (e.a != e.b) <;> cases bet e.railway 0 15 <;> cases bet e.minutes 1 100000 <;> cases bet e.km 0 10000 <;> rfl
theorem zll (φ : Nat) (hφ : 5000 < φ) (x : z6) : zb6 φ x = some (z7o x, ()) := by
  unfold zb6 z7o
  rw [zsv]
  cases h : decide (512 < x.places.length) || decide (2048 < x.edges.length) with
  | true => rfl
  | false =>
    simp only [Bool.or_eq_false_iff, decide_eq_false_iff_not, Nat.not_lt] at h
    rw [if_neg (by simp), z2z (fun n i => z3b φ n i x) (z2e φ φ 0 x) (some (1, ())) x.places (fun t => !z71 t) ?_ ?_ φ (by omega)]
    · rw [z2z (fun n i => z2e φ n i x) (some (0, ())) (some (1, ())) x.edges (fun t => !z8b x.places.length t) ?_ ?_ φ (by omega)]
      · simp only [List.any_eq_not_all_not, Bool.not_not]
        cases x.places.all z71 <;> cases x.edges.all (z8b x.places.length) <;> rfl
      · intro n i hi
        rw [z2e, if_pos (by simp; omega), z2 ⟨by omega, by omega⟩, zo5 _ _ _ (W_id (by omega) (by omega)), Option.bind_some, W_id (by omega) (by omega)]
        cases z8b x.places.length (gt x.edges i) <;> rfl
      · intro n; rw [z2e, if_neg (by simp)]
    · intro n i hi
      rw [z3b, if_pos (by simp; omega), z2 ⟨by omega, by omega⟩, zl1, Option.bind_some, W_id (by omega) (by omega)]
      cases z71 (gt x.places i) <;> rfl
    · intro n; rw [z3b, if_neg (by simp)]
def z99 (l : List Int) (i : Nat) : Int := if i = 0 then -1 else gt l ((i : Int) - 1)
theorem zzf (φ : Nat) (c : z2v) : ∀ (n i : Nat), -1 ≤ z99 c.holidays i → (i : Int) ≤ z99 c.holidays i + 1 → z99 c.holidays i ≤ 745654 → i ≤ c.holidays.length → 745656 ≤ (n : Int) + z99 c.holidays i → z3c φ n i c = some (bif zr1 (z99 c.holidays i) (c.holidays.drop i) then 0 else 1, ()) := by
  intro n
  induction n with
  | zero => intro i _ _ _ _ _; omega
  | succ n ih =>
    intro i hp hip hp2 hi hn
    by_cases h : i = c.holidays.length
    · rw [z3c, if_neg (by rw [h]; simp), h, List.drop_length]; rfl
    · have hW : W ((i : Int) - 1) = (i : Int) - 1 := W_id (by omega) (by omega)
      rw [z3c, if_pos (by simp; omega), z2 ⟨by omega, by omega⟩, hW, z2 (fun h => by have := h.2; simp at this; omega), zsn _ _ (by omega)]
      have hc : ((decide ((gt c.holidays i) < 0) || decide (745654 < (gt c.holidays i))) || (decide (0 < (i : Int)) && decide ((gt c.holidays i) ≤ (gt c.holidays ((i : Int) - 1))))) = !(decide (z99 c.holidays i < gt c.holidays i) && decide (gt c.holidays i ≤ 745654)) := by
        unfold z99 at *
        rw [Bool.eq_iff_iff]
        by_cases h0 : i = 0
        · subst h0; simp; omega
        · rw [if_neg h0] at *; simp; omega
      rw [hc]
      cases hb : decide (z99 c.holidays i < gt c.holidays i) && decide (gt c.holidays i ≤ 745654) with
      | false => rw [if_pos (by simp)]; simp [zr1, hb]
      | true =>
        rw [if_neg (by simp), W_id (by omega) (by omega)]
        have hpe : z99 c.holidays (i + 1) = gt c.holidays i := by
          unfold z99
          rw [if_neg (by omega)]; congr 1; omega
        have hb' := hb
        simp only [Bool.and_eq_true, decide_eq_true_eq] at hb'
        have := ih (i + 1) (by rw [hpe]; omega) (by rw [hpe]; omega) (by rw [hpe]; omega) (by omega) (by rw [hpe]; omega)
        rw [hpe, show ((i + 1 : Nat) : Int) = (i : Int) + 1 by omega] at this
        rw [this]
        simp [zr1, hb]
theorem zl9 (φ : Nat) (hφ : 800000 < φ) (c : z2v) : zc1 φ c = some (bif zhq c then 0 else 1, ()) := by
  unfold zc1
  refine z00 (fun n i (_ : Unit) => z38 φ n i c) 7 (fun i _ => ((List.range i).all fun j => zfo (c.open_ j)) = true) (fun o => o = some (bif zhq c then 0 else 1, ())) ?_ ?_ φ () (by simp) (by omega)
  · intro n i _ hi h hs
    rw [z38, if_pos (by simp; omega), z2 ⟨by omega, by omega⟩, Int.toNat_natCast, zfb, W_id (by omega) (by omega)]
    cases ho : zfo (c.open_ i) with
    | true =>
      rw [if_neg (by simp)]
      exact hs () (by rw [z7m, h, ho]; rfl)
    | false =>
      have : zhq c = false := by
        unfold zhq
        have : ((List.range 7).all fun j => zfo (c.open_ j)) = false := by
          rw [List.all_eq_false]; exact ⟨i, by simp; omega, by simp [ho]⟩
        rw [this]; rfl
      rw [if_pos (by simp), this]; rfl
  · intro n _ h
    rw [z38, if_neg (by simp)]
    unfold zhq
    rw [h, Bool.true_and]
    have := zzf φ c φ 0 (by simp [z99]) (by simp [z99]) (by simp [z99]) (by omega) (by simp [z99]; omega)
    simpa [z99] using this
theorem znh (φ : Nat) (hφ : 800000 < φ) (x : Pool) (h1 : x.network.places.length ≤ 512) (h2 : x.fleet.wagons.length ≤ 4096) (h3 : x.readers.length ≤ 256) (h4 : x.shippers.length ≤ 256) :
    zea φ x = some (!((x.readers.any (z4j x.network.places.length) || x.shippers.any (z4a x.network)) || x.fleet.wagons.any (fun w => decide ((x.network.places.length : Int) ≤ w.home))), ()) := by
  have hp : W ((x.network.places.length : Int) - 1) = (x.network.places.length : Int) - 1 := W_id (by omega) (by omega)
  unfold zea
  rw [z2z (fun n i => z47 φ n (x.network.places.length : Int) i x) (z2b φ φ (x.network.places.length : Int) 0 x) (some (false, ())) x.readers (z4j x.network.places.length) ?_ ?_ φ (by omega)]
  rotate_left
  · intro n i hi
    rw [z47, if_pos (by simp; omega), z2 ⟨by omega, by omega⟩, hp, W_id (by omega) (by omega), z2l, Option.bind_some]
    show (if z4j x.network.places.length (gt x.readers i) = true then some (false, ()) else _) = _
    cases z4j x.network.places.length (gt x.readers i) <;> rfl
  · intro n; rw [z47, if_neg (by simp)]
  rw [z2z (fun n i => z2b φ n (x.network.places.length : Int) i x) (z2h φ φ (x.network.places.length : Int) 0 x) (some (false, ())) x.shippers (z4a x.network) ?_ ?_ φ (by omega)]
  rotate_left
  · intro n i hi
    rw [z2b, if_pos (by simp; omega), z2 ⟨by omega, by omega⟩, hp, W_id (by omega) (by omega), z2l, Option.bind_some, z2 (fun _ => ⟨by omega, by omega⟩), z2 (fun h => by
      simp only [Bool.not_eq_false'] at h
      have := zp2 h; omega)]
    show (if z4a x.network (gt x.shippers i) = true then some (false, ()) else _) = _
    cases z4a x.network (gt x.shippers i) <;> rfl
  · intro n; rw [z2b, if_neg (by simp)]
  rw [z2z (fun n i => z2h φ n (x.network.places.length : Int) i x) (some (true, ())) (some (false, ())) x.fleet.wagons (fun w => decide ((x.network.places.length : Int) ≤ w.home)) ?_ ?_ φ (by omega)]
  rotate_left
  · intro n i hi
    rw [z2h, if_pos (by simp; omega), z2 ⟨by omega, by omega⟩, W_id (by omega) (by omega)]
    cases decide ((x.network.places.length : Int) ≤ (gt x.fleet.wagons i).home) <;> rfl
  · intro n; rw [z2h, if_neg (by simp)]
  cases x.readers.any (z4j x.network.places.length) <;> cases x.shippers.any (z4a x.network) <;> cases x.fleet.wagons.any (fun w => decide ((x.network.places.length : Int) ≤ w.home)) <;> rfl
theorem zl3 (φ : Nat) (hφ : 800000 < φ) (x : Pool) (h1 : x.network.places.length ≤ 512) (h2 : x.network.edges.length ≤ 2048) :
    zb7 φ x = some (!(x.network.places.any (fun p => decide ((x.railways.length : Int) ≤ p.railway) || decide ((x.railways.length : Int) ≤ p.other)) || x.network.edges.any (fun e => decide ((x.railways.length : Int) ≤ e.railway))), ()) := by
  unfold zb7
  rw [z2z (fun n i => z3a φ n (x.railways.length : Int) i x) (z2c φ φ (x.railways.length : Int) 0 x) (some (false, ())) x.network.places (fun p => decide ((x.railways.length : Int) ≤ p.railway) || decide ((x.railways.length : Int) ≤ p.other)) ?_ ?_ φ (by omega)]
  rotate_left
  · intro n i hi
    rw [z3a, if_pos (by simp; omega), z2 ⟨by omega, by omega⟩, W_id (by omega) (by omega)]
    cases decide ((x.railways.length : Int) ≤ (gt x.network.places i).railway) || decide ((x.railways.length : Int) ≤ (gt x.network.places i).other) <;> rfl
  · intro n; rw [z3a, if_neg (by simp)]
  rw [z2z (fun n i => z2c φ n (x.railways.length : Int) i x) (some (true, ())) (some (false, ())) x.network.edges (fun e => decide ((x.railways.length : Int) ≤ e.railway)) ?_ ?_ φ (by omega)]
  rotate_left
  · intro n i hi
    rw [z2c, if_pos (by simp; omega), z2 ⟨by omega, by omega⟩, W_id (by omega) (by omega)]
    cases decide ((x.railways.length : Int) ≤ (gt x.network.edges i).railway) <;> rfl
  · intro n; rw [z2c, if_neg (by simp)]
  cases x.network.places.any (fun p => decide ((x.railways.length : Int) ≤ p.railway) || decide ((x.railways.length : Int) ≤ p.other)) <;> cases x.network.edges.any (fun e => decide ((x.railways.length : Int) ≤ e.railway)) <;> rfl
theorem zgb (φ : Nat) (hφ : 800000 < φ) (x : Pool) : z5o φ x = some (z1l x, ()) := by
  unfold z5o z1l
  rw [zll _ (by omega), Option.bind_some]
  by_cases hn : z7o x.network = 0
  case neg => rw [if_pos (by simp [hn]), if_pos hn]
  rw [if_neg (by simp [hn]), if_neg (fun e : z7o x.network ≠ 0 => e hn), zl5 _ (by omega), Option.bind_some]
  by_cases hf : z30 x.fleet = 0
  case neg => rw [if_pos (by simp [hf]), if_pos hf]
  rw [if_neg (by simp [hf]), if_neg (fun e : z30 x.fleet ≠ 0 => e hf)]
  cases hb : zb0 x with
  | true =>
    have e : (((decide (256 < (x.readers.length : Int)) || decide (256 < (x.shippers.length : Int))) || decide (16 < (x.railways.length : Int)))) = zb0 x := rfl
    rw [e, hb]; rfl
  | false =>
    have hb' : ¬ (((decide (256 < (x.readers.length : Int)) || decide (256 < (x.shippers.length : Int))) || decide (16 < (x.railways.length : Int))) = true) := by
      rw [show (((decide (256 < (x.readers.length : Int)) || decide (256 < (x.shippers.length : Int))) || decide (16 < (x.railways.length : Int)))) = zb0 x from rfl, hb]; simp
    rw [if_neg hb']
    simp only [Bool.or_eq_true, decide_eq_true_eq, not_or] at hb'
    obtain ⟨n1, n2, _, _⟩ := zfe hn
    obtain ⟨f1, f2, _⟩ := z54 hf
    rw [znh φ hφ _ n1 f2 (by omega) (by omega), Option.bind_some, zl3 φ hφ _ n1 n2]
    have hL : z0t φ φ 0 x = bif x.railways.any zen then some (1, ()) else (if (((x.railways.length : Int) : Int) == 0) = true then (some (1, ())) else (some (0, ()))) := by
      refine z2z (fun n i => z0t φ n i x) (if (((x.railways.length : Int) : Int) == 0) = true then (some (1, ())) else (some (0, ()))) (some (1, ())) x.railways zen ?_ ?_ φ (by omega)
      · intro n i hi
        rw [z0t, if_pos (by simp; omega), z2 ⟨by omega, by omega⟩, W_id (by omega) (by omega), zl9 _ hφ, Option.bind_some, z2 (fun _ => ⟨by omega, by omega⟩)]
        unfold zen
        cases zhq (gt x.railways i).calendar with
        | false => rw [gz_f (by simp)]; rfl
        | true =>
          rw [gz_t (by simp), zl8 _ (by omega), Option.bind_some]
          cases zvj (gt x.railways i).key <;> rfl
      · intro n; rw [z0t, if_neg (by simp)]
    rw [hL]
    unfold zet
    cases x.readers.any (z4j x.network.places.length) <;> cases x.shippers.any (z4a x.network) <;> cases x.fleet.wagons.any (fun w => decide ((x.network.places.length : Int) ≤ w.home)) <;>
      cases x.network.places.any (fun p => decide ((x.railways.length : Int) ≤ p.railway) || decide ((x.railways.length : Int) ≤ p.other)) <;> cases x.network.edges.any (fun e => decide ((x.railways.length : Int) ≤ e.railway)) <;>
      cases x.railways.any zen <;> cases ((x.railways.length : Int) == 0) <;> rfl
end Px
end
section
namespace Px
open Go
set_option linter.unusedVariables false
set_option linter.unusedSimpArgs false
/-- Every key once. -/
def KU (m : List (Int × Bool)) : Prop := (m.map (·.1)).Nodup
theorem zmb {k : Int} {v : Bool} : ∀ {m : List (Int × Bool)} {q : Int × Bool}, q ∈ mset m k v → q ∈ m ∨ q.1 = k
  | [], q, h => by simp [mset] at h; exact .inr (by rw [h])
  | (a, b) :: m, q, h => by
    simp only [mset] at h
    cases hk : (k == a) with
    | true =>
      rw [hk] at h
      rcases List.mem_cons.1 h with rfl | h
      · exact .inr rfl
      · exact .inl (List.mem_cons_of_mem _ h)
    | false =>
      rw [hk] at h
      rcases List.mem_cons.1 h with rfl | h
      · exact .inl (List.mem_cons_self ..)
      · exact (zmb h).imp (List.mem_cons_of_mem _) id
theorem KU.mset {k : Int} {v : Bool} : ∀ {m : List (Int × Bool)}, KU m → KU (Px.mset m k v)
  | [], _ => by simp [Px.mset, KU]
  | (a, b) :: m, h => by
    simp only [KU, List.map_cons, List.nodup_cons] at h
    simp only [Px.mset]
    cases hk : (k == a) with
    | true =>
      have : k = a := by simpa using hk
      subst this
      simp only [cond_true, KU, List.map_cons, List.nodup_cons]
      exact h
    | false =>
      simp only [cond_false, KU, List.map_cons, List.nodup_cons]
      refine ⟨fun hm => ?_, KU.mset h.2⟩
      obtain ⟨q, hq, he⟩ := List.mem_map.1 hm
      rcases zmb hq with hq | hq
      · exact h.1 (List.mem_map.2 ⟨q, hq, he⟩)
      · rw [hq] at he; rw [he] at hk; simp at hk
theorem KU.mdel {k : Int} : ∀ {m : List (Int × Bool)}, KU m → KU (Px.mdel m k) ∧ ∀ q ∈ Px.mdel m k, q ∈ m ∧ q.1 ≠ k
  | [], h => ⟨h, fun q hq => by cases hq⟩
  | (a, b) :: m, h => by
    have h0 := h
    simp only [KU, List.map_cons, List.nodup_cons] at h
    simp only [Px.mdel]
    cases hk : (k == a) with
    | true =>
      have : k = a := by simpa using hk
      subst this
      refine ⟨h.2, fun q hq => ⟨List.mem_cons_of_mem _ hq, fun e => h.1 (List.mem_map.2 ⟨q, hq, e⟩)⟩⟩
    | false =>
      obtain ⟨i1, i2⟩ := KU.mdel (k := k) (m := m) h.2
      refine ⟨?_, fun q hq => ?_⟩
      · simp only [cond_false, KU, List.map_cons, List.nodup_cons]
        refine ⟨fun hm => ?_, i1⟩
        obtain ⟨q, hq, he⟩ := List.mem_map.1 hm
        exact h.1 (List.mem_map.2 ⟨q, (i2 q hq).1, he⟩)
      · rcases List.mem_cons.1 hq with rfl | hq
        · exact ⟨List.mem_cons_self .., fun e => by simp at hk; exact hk e.symm⟩
        · exact ⟨List.mem_cons_of_mem _ (i2 q hq).1, (i2 q hq).2⟩
/-- Each stay that is begun is ended. -/
def Ends (t : List z1) : Prop := ∀ A e B, t = A ++ e :: B → e.stay = true → e.second = false → ∃ y ∈ B, y.stay = true ∧ y.second = true ∧ y.report = e.report
theorem Ends.tail {e : z1} {t : List z1} (h : Ends (e :: t)) : Ends t := fun A x B ht => h (e :: A) x B (by rw [ht]; rfl)
theorem zwo : ∀ (t : List z1) (m : List (Int × Bool)), KU m → Ends t → (∀ q ∈ m, ∃ y ∈ t, y.stay = true ∧ y.second = true ∧ y.report = q.1) → t.foldl (fun m e => covM e m) m = []
  | [], m, _, _, h => by
    cases m with
    | nil => rfl
    | cons q m => obtain ⟨y, hy, _⟩ := h q (List.mem_cons_self ..); cases hy
  | e :: t, m, hu, hE, h => by
    rw [List.foldl_cons]
    refine zwo t _ ?_ hE.tail ?_
    · unfold covM
      split
      · exact hu.mdel.1
      · split
        · exact hu.mset
        · exact hu
    · intro q hq
      have old : q ∈ m → (e.stay = true → e.second = true → e.report ≠ q.1) → ∃ y ∈ t, y.stay = true ∧ y.second = true ∧ y.report = q.1 := by
        intro hm hne
        obtain ⟨y, hy, y1, y2, y3⟩ := h q hm
        rcases List.mem_cons.1 hy with rfl | hy
        · exact absurd y3 (hne y1 y2)
        · exact ⟨y, hy, y1, y2, y3⟩
      unfold covM at hq
      split at hq
      · obtain ⟨h1, h2⟩ := hu.mdel.2 q hq
        exact old h1 fun _ _ e2 => h2 e2.symm
      · rename_i hns
        split at hq
        · rename_i hs
          have hs2 : e.second = false := by
            cases hx : e.second with
            | false => rfl
            | true => rw [hs, hx] at hns; exact absurd rfl hns
          rcases zmb hq with hm | hk
          · exact old hm fun _ q2 => by rw [hs2] at q2; cases q2
          · rw [hk]
            exact hE [] e t rfl hs hs2
        · rename_i hs
          exact old hq fun q1 => absurd q1 hs
theorem zpk : ∀ (A B : List z1) (m : List (Int × Bool)), zct (A ++ B) m = zct A m ++ zct B (A.foldl (fun m e => covM e m) m)
  | [], B, m => rfl
  | e :: A, B, m => by simp only [List.cons_append, zct, List.foldl_cons, zpk A B]
/-- The last gap of a z34 is not covered. -/
theorem y1l {t : List z1} (hE : Ends t) {x : z1} {u : List z1} (h : zct t [] = u ++ [x]) : x.visit.stay = false := by
  rcases List.eq_nil_or_concat t with rfl | ⟨A, e, rfl⟩
  · simp [zct] at h
  · have hf := zwo (A ++ [e]) [] (by simp [KU]) (by simpa using hE) (fun q hq => by cases hq)
    rw [List.foldl_append] at hf
    simp only [List.foldl_cons, List.foldl_nil] at hf
    rw [List.concat_eq_append] at h
    rw [zpk] at h
    simp only [zct, hf] at h
    have := (List.append_inj' h rfl).2
    simp only [List.cons.injEq, and_true] at this
    rw [← this]
    rfl
theorem y5k {p : Pool} (hc : z1l p = 0) {l : List zf} (hl : FewL l) {w : Int} {x : z1} (h : x ∈ uns p l w) (h1 : x.stay = true) (h2 : x.second = false) : ∃ y ∈ uns p l w, y.stay = true ∧ y.second = true ∧ y.report = x.report ∧ ltEv x y = true := by
  obtain ⟨a1, a2, a3, a4, a5⟩ := ztm hl.len h
  have ho := zfw hc (hl.gt a1 a2) a4
  simp only [uns, unsC, List.mem_flatMap] at h
  obtain ⟨i, hi, hx⟩ := h
  split at hx
  case isFalse => cases hx
  rename_i hw
  obtain ⟨r1, r2, r3⟩ := zdz hx
  rw [r1] at ho a5
  unfold evs at a5
  split at a5
  · simp only [List.mem_singleton] at a5; rw [a5] at h1; cases h1
  · rename_i hk1
    split at a5
    · rename_i hk
      simp only [List.mem_cons, List.not_mem_nil, or_false] at a5
      rcases a5 with a5 | a5
      · refine ⟨⟨z4d (gt l i) (gt l i).item.place (gt l i).item.to, i, true, true, -1⟩, ?_, rfl, rfl, by rw [a5], ?_⟩
        · simp only [uns, unsC, List.mem_flatMap]
          refine ⟨i, hi, ?_⟩
          rw [if_pos hw, evs, if_neg hk1, if_pos hk]
          simp
        · have := (ho.to hk).1
          rw [a5]
          simp only [ltEv, decide_eq_true_eq, zaz, z4d, ordB]
          simp
          omega
      · rw [a5] at h2; cases h2
    · split at a5
      · simp only [List.mem_singleton] at a5; rw [a5] at h1; cases h1
      · cases a5
theorem zzo {p : Pool} (hc : z1l p = 0) {l : List zf} (hl : FewL l) (w : Int) : Ends (srt p l w) := by
  intro A e B hs h1 h2
  have hmem : ∀ x, x ∈ srt p l w ↔ x ∈ uns p l w := fun x => (z20 _ _).mem_iff
  obtain ⟨y, hy, y1, y2, y3, y4⟩ := y5k hc hl ((hmem e).1 (by rw [hs]; simp)) h1 h2
  have hy2 := (hmem y).2 hy
  rw [hs] at hy2
  have hpw := za3 y0n (uns p l w)
  change (srt p l w).Pairwise _ at hpw
  rw [hs, List.pairwise_append] at hpw
  rcases List.mem_append.1 hy2 with hy2 | hy2
  · have := hpw.2.2 y hy2 e (List.mem_cons_self ..)
    rw [this] at y4; cases y4
  · rcases List.mem_cons.1 hy2 with rfl | hy2
    · rw [y2] at h2; cases h2
    · exact ⟨y, hy2, y1, y2, y3⟩
/-- Does a wagon move in a covered gap? -/
def mvAt (v : List z0c) (i : Nat) : Bool := (decide (((i : Int) + 1) < (v.length : Int)) && (gt v (i : Int)).stay) && ((gt v (i : Int)).place != (gt v ((i : Int) + 1)).place)
def mvN (v : List z0c) (b : Bool) : Nat → Bool
  | 0 => b
  | n + 1 => mvN v b n || mvAt v n
theorem zxf (v : List z0c) (b : Bool) : ∀ n, mvN v b n = true ↔ b = true ∨ ∃ i, i < n ∧ mvAt v i = true
  | 0 => by simp [mvN]
  | n + 1 => by
    simp only [mvN, Bool.or_eq_true, zxf v b n]
    constructor
    · rintro ((h | ⟨i, h1, h2⟩) | h)
      · exact .inl h
      · exact .inr ⟨i, by omega, h2⟩
      · exact .inr ⟨n, by omega, h⟩
    · rintro (h | ⟨i, h1, h2⟩)
      · exact .inl (.inl h)
      · by_cases e : i = n
        · subst e; exact .inr h2
        · exact .inl (.inr ⟨i, by omega, h2⟩)
theorem zvm (φ : Nat) (k) (x14 : List zf) (b : Bool) (x16 : Int) (v : List z0c) (hv : v.length ≤ 2000) (x19 : Pool) (x20 : z0o) (hlast : ∀ i : Nat, i + 1 = v.length → (gt v (i : Int)).stay = false) (hφ : 3000 < φ) :
    z07 φ k φ x14 b x16 v 0 x19 x20 = k x14 (mvN v b v.length) (W (x16 + 1)) x19 x20 := by
  refine z00 (fun n i (c : Bool) => z07 φ k n x14 c x16 v i x19 x20) v.length (fun i c => c = mvN v b i) (fun o => o = _) ?_ ?_ φ b rfl (by omega)
  · intro n i c hi hc hk
    have hk' := hk (c || mvAt v i) (by rw [hc]; rfl)
    have hW : W ((i : Int) + 1) = (i : Int) + 1 := W_id (by omega) (by omega)
    rw [z07, if_pos (by simp; omega), hW, z2 (fun _ => ⟨by omega, by omega⟩)]
    rw [if_neg (by
      intro h
      simp only [Bool.and_eq_true, beq_iff_eq] at h
      rw [hlast i (by omega)] at h
      cases h.2), z2 (fun _ => ⟨by omega, by omega⟩), z2 (fun _ => ⟨by omega, by omega⟩), z2 (fun h => by
      simp only [Bool.and_eq_true, decide_eq_true_eq] at h
      omega)]
    exact hk'
  · intro n c hc
    rw [z07, if_neg (by simp), hc]
theorem y57 {φ : Nat} {x : z6} {a b : z0c} (h : a.stay = true) (h2 : a.place ≠ b.place) : tvl φ x a b = 1073741825 := by
  unfold tvl z3x
  rw [if_pos (by simp [h, h2])]; rfl
/-- A covered gap with a movement in it: no solution. -/
theorem y0s {tv : z0c → z0c → Int} (htv : ∀ a b, 0 ≤ tv a b ∧ tv a b ≤ 1073741825) {rs : List z2m} {ts : List (List z1)} (hT : TsOK rs ts) {t : List z1} (ht : t ∈ ts) {i : Nat} {a b : z1} (ha : t[i]? = some a) (hb : t[i + 1]? = some b)
    (hab : tv a.visit b.visit = 1073741825) (X : Int → Int) (hX : ∀ c ∈ (bAll tv rs ts).b, X c.j - X c.i ≤ c.w) : False := by
  obtain ⟨A, B, rfl⟩ := List.append_of_mem ht
  obtain ⟨k1, k2, k3, k4⟩ := zu1 tv (rdM rs (A ++ t :: B)) A B t (rd0 rs (A ++ t :: B))
  rw [zyf] at hX
  have q1 := zw0 (X := X) (fun c hc => hX c (k3 c (zru tv _ t none _ i a ha c hc))) (hT.early t ht a (List.mem_of_getElem? ha))
  have q2 := zw0 (X := X) (fun c hc => hX c (k3 c (zru tv _ t none _ (i + 1) b hb c hc))) (hT.early t ht b (List.mem_of_getElem? hb))
  have q3 := hX _ (k3 _ (zxd tv (rdM rs (A ++ t :: B)) t none _ i a b ha hb))
  simp only [hab] at q3
  generalize (fB tv (rdM rs (A ++ t :: B)) A (rd0 rs (A ++ t :: B))).v = v at *
  rw [show v + ((i + 1 : Nat) : Int) = v + i + 1 by omega] at q2
  omega
theorem zp8 (φ : Nat) (p : Pool) (l : List zf) : (z3m φ).F (p, l, ()) = z35 φ p l := rfl
theorem y6e {α : Type} [Inhabited α] {l : List α} {i : Nat} (h : i < l.length) : l[i]? = some (gt l (i : Int)) := by rw [zch h]; exact List.getElem?_eq_getElem h
theorem zkg (x : Tup TT [30, 38]) (h : y3r TV 30 [30, 38] x) : ∃ φ, (z3m φ).F x = some (true, ()) := by
  obtain ⟨p, l, _⟩ := x
  change List zf at l
  change Pool at p
  suffices key : ∃ φ, z35 φ p l = some (true, ()) by
    obtain ⟨φ, h⟩ := key
    exact ⟨φ, (zp8 φ p l).trans h⟩
  suffices key : ∀ φ : Nat, 60000000 < φ → ze6 φ = some (true, ()) → z35 φ p l = some (true, ()) from ⟨100000000, key _ (by omega) y6b⟩
  intro φ hφ hsane
  unfold z35
  obtain ⟨bf, hbf, hfew⟩ := y68 φ (by omega) p l
  rw [hsane, Option.bind_some, if_neg (by simp), hbf, Option.bind_some]
  cases bf with
  | false => rw [gz_f (by simp), Option.bind_some, if_pos (by simp)]
  | true =>
  obtain ⟨hl, hlen, _⟩ := hfew rfl
  rw [gz_t (by simp), zgb _ (by omega), Option.bind_some]
  by_cases hc : z1l p = 0
  case neg => rw [if_pos (by simp [hc])]
  rw [if_neg (by simp [hc]), y1u φ (by omega) p hl, if_pos hc, Option.bind_some]
  have htv : ∀ a b, 0 ≤ tvl φ p.network a b ∧ tvl φ p.network a b ≤ 1073741825 := fun a b => (y2n φ (by omega) p.network a b).2
  have hT := tsOK hc hl
  obtain ⟨v1, hbd⟩ := y3k htv hT
  generalize hs : bAll (tvl φ p.network) p.readers (z8v p l) = s at *
  unfold bEnd
  by_cases hlim : 512 < s.v ∨ 4096 < s.b.length
  · rw [if_pos hlim]
    rfl
  rw [if_neg hlim, if_neg (by simp)]
  obtain ⟨_, hf, _⟩ := zas hc
  obtain ⟨_, f2, _⟩ := z54 hf
  simp only
  refine z00 (fun n i (c : Bool) => z0u φ n l c i p ⟨s.v, s.b, s.y, s.e⟩) p.fleet.wagons.length (fun i c => c = true → ∃ w : Nat, w < i ∧ ∃ j, mvAt ((z34 p l (w : Int)).map (·.visit)) j = true) (fun o => o = some (true, ())) ?_ ?_ φ false (fun h => by cases h) (by omega)
  · intro n i c hi hcc hk
    have hvl : ((z34 p l (i : Int)).map (·.visit)).length = (z34 p l (i : Int)).length := by simp
    have htl := zji (p := p) hl.len (i : Int)
    rw [z0u, if_pos (by simp; omega), y1g φ (by omega) p hl, if_pos ⟨hc, by omega, by omega⟩, Option.bind_some]
    refine (zvm φ _ l c (i : Int) ((z34 p l (i : Int)).map (·.visit)) (by rw [hvl]; omega) p _ ?_ (by omega)).trans ?_
    · intro j hj
      rw [hvl] at hj
      have hgm : gt ((z34 p l (i : Int)).map (·.visit)) (j : Int) = (gt (z34 p l (i : Int)) (j : Int)).visit := by
        rw [zqd (·.visit) (z34 p l (i : Int)) (by omega) (by omega)]
      rw [hgm]
      have e1 : zct (srt p l (i : Int)) [] = (z34 p l (i : Int)).take j ++ [gt (z34 p l (i : Int)) (j : Int)] := by
        rw [← z0n _ _ (by omega), List.take_of_length_le (by omega)]; rfl
      exact y1l (zzo hc hl _) e1
    · rw [W_id (by omega) (by omega)]
      refine hk _ fun hm => ?_
      rcases (zxf _ _ _).1 hm with h1 | ⟨j, _, hj⟩
      · obtain ⟨w, hw, q⟩ := hcc h1; exact ⟨w, by omega, q⟩
      · exact ⟨i, by omega, j, hj⟩
  · intro n c hcc
    rw [z0u, if_neg (by simp), y0r φ (by omega), Option.bind_some]
    have hn : chkD s.v s.b = 0 := by
      have := y5s (n := s.v.toNat) (L := s.b) (by omega) (by omega) (by omega) hbd
      rwa [show ((s.v.toNat : Nat) : Int) = s.v by omega] at this
    simp only
    rw [if_neg (by simp [hn])]
    by_cases hz : 0 ≤ (low s.v.toNat s.b).z
    · rw [if_pos hz]; simp
    · rw [if_neg hz]
      cases c with
      | false => rfl
      | true =>
        exfalso
        obtain ⟨w, hw, j, hj⟩ := hcc rfl
        have hvl : ((z34 p l (w : Int)).map (·.visit)).length = (z34 p l (w : Int)).length := by simp
        simp only [mvAt, Bool.and_eq_true, decide_eq_true_eq, bne_iff_ne, ne_eq, hvl] at hj
        obtain ⟨⟨j1, j2⟩, j3⟩ := hj
        have hg : ∀ k : Nat, k < (z34 p l (w : Int)).length → gt ((z34 p l (w : Int)).map (·.visit)) (k : Int) = (gt (z34 p l (w : Int)) (k : Int)).visit := fun k hk => by
          rw [zqd (·.visit) (z34 p l (w : Int)) (by omega) (by omega)]
        have hg2 := hg (j + 1) (by omega)
        rw [show ((j + 1 : Nat) : Int) = (j : Int) + 1 by omega] at hg2
        rw [hg j (by omega)] at j2 j3
        rw [hg2] at j3
        refine y0s htv hT (t := z34 p l (w : Int)) (List.mem_map.2 ⟨w, List.mem_range.2 hw, rfl⟩) (y6e (l := z34 p l (w : Int)) (i := j) (by omega)) (y6e (l := z34 p l (w : Int)) (i := j + 1) (by omega)) (y57 j2 (by rw [show ((j + 1 : Nat) : Int) = (j : Int) + 1 by omega]; exact j3)) (fun v => gt (low s.v.toNat s.b).x v) ?_
        rw [hs]
        exact fun b hb => y5t (by omega) hbd (by omega) hb
end Px
end
