/- A part of the proof of repairPays_holds. Conditions: none. -/
import Derived.Test.YtakhlidbhepogaaGreatPkae
import Derived.Shelf.SlSortCmp.NoneTotal
import Derived.Shelf.Sort.Plain
import Derived.Shelf.Slices.In.SortNone
section
namespace Px
open Go Go.RowKit
set_option linter.unusedVariables false
set_option linter.unusedSimpArgs false
section cells
variable {T : Nat -> Type}
def cvT (g : (c : Nat) -> T c -> List Value) : (fs : List Nat) -> Tup T fs -> List Value
 | [], _ => []
 | c :: cs, x => g c x.1 ++ cvT g cs x.2
def cvD (g : (c : Nat) -> T c -> List Value) : {α : Type} -> Ds T α -> α -> List Value
 | _, .int k, x => [.int k x]
 | _, .bool, x => [.bool x]
 | _, .str, x => [.string x]
 | _, .sl _, _ => []
 | _, .map _ _, _ => []
 | _, .arr n c, f => (List.range n).flatMap fun i => g c (f i)
 | _, .st fs _ un _, x => cvT g fs (un x)
end cells
section
variable (V : TE)
def cvN : Nat -> (c : Nat) -> V.T c -> List Value
 | 0, _, _ => []
 | n + 1, c, x => cvD (cvN n) (V.d c) x
def TE.cv (c : Nat) (x : V.T c) : List Value := cvN V (c + 1) c x
variable {V}
theorem y1r : ∀ (n c : Nat), flN V n c = true -> ∀ x, V.ev c x = (cvN V n c x).map eqv /\ ∀ v ∈ cvN V n c x, v.oneCell' = true
 | 0, _, h => by cases h
 | n + 1, c, h => by
  intro x
  have ih := y1r n
  rw [V.ev_eq]
  change flD (flN V n) (V.d c) = true at h
  change evD V.ev (V.mv V.ev) V.sz (V.d c) x = (cvD (cvN V n) (V.d c) x).map eqv /\ ∀ v ∈ cvD (cvN V n) (V.d c) x, v.oneCell' = true
  revert h x
  generalize V.d c = d
  generalize V.T c = α at d
  intro x h
  cases d with
  | int k => exact ⟨rfl, fun v hv => by simp only [cvD, List.mem_singleton] at hv; subst hv; rfl⟩
  | bool => exact ⟨rfl, fun v hv => by simp only [cvD, List.mem_singleton] at hv; subst hv; rfl⟩
  | str => exact ⟨rfl, fun v hv => by simp only [cvD, List.mem_singleton] at hv; subst hv; rfl⟩
  | sl c' => cases h
  | map kc vc => cases h
  | arr m c' =>
   simp only [evD, cvD, Px.arr, List.map_flatMap]
   refine ⟨?_, fun v hv => ?_⟩
   ·congr 1
    funext i
    exact (ih c' h (x i)).1
   ·obtain ⟨i, _, hi⟩ := List.mem_flatMap.1 hv
    exact (ih c' h (x i)).2 v hi
  | st fs mk un law =>
   have key : ∀ (fs : List Nat) (y : Tup V.T fs), fs.all (flN V n) = true -> evT V.ev fs y = (cvT (cvN V n) fs y).map eqv /\ ∀ v ∈ cvT (cvN V n) fs y, v.oneCell' = true := by
    intro fs
    induction fs with
    | nil => intro y _; exact ⟨rfl, fun v hv => by cases hv⟩
    | cons c cs ihf =>
     intro y h
     simp only [List.all_cons, Bool.and_eq_true] at h
     obtain ⟨h1, h2⟩ := ihf y.2 h.2
     obtain ⟨h3, h4⟩ := ih c h.1 y.1
     refine ⟨by simp only [evT, cvT, List.map_append, h1, h3], fun v hv => ?_⟩
     rcases List.mem_append.1 hv with hv | hv
     ·exact h4 v hv
     ·exact h2 v hv
   exact key fs (un x) h
theorem y7w {c : Nat} (h : V.fl c = true) (x : V.T c) : V.ev c x = (V.cv c x).map eqv := (y1r _ _ h x).1
theorem y0v {c : Nat} (h : V.fl c = true) (x : V.T c) : ∀ v ∈ V.cv c x, v.oneCell' = true := (y1r _ _ h x).2
theorem zu9 {c : Nat} (h : V.fl c = true) (x : V.T c) : (V.cv c x).length = V.sz c := by
 have := V.ev_len c x
 rw [y7w h] at this
 simpa using this
end
theorem zyh {r : Nat -> Prop} {w : World} : ∀ {us vs : List Value}, zg r w (us.map eqv) vs -> vs = us
 | us, vs, ⟨hl, h⟩ => by
  refine List.ext_getElem? fun i => ?_
  by_cases hi : i < us.length
  ·obtain ⟨u, hu, he, _⟩ := h i (eqv us[i]) (by simp [hi])
   rw [hu, List.getElem?_eq_getElem hi]
   exact congrArg some he
  ·have hl' : us.length = vs.length := by simpa using hl
   rw [List.getElem?_eq_none (show us.length <= i by omega), List.getElem?_eq_none (show vs.length <= i by omega)]
theorem zkn {r : Nat -> Prop} {w : World} {us : List Value} (h : ∀ v ∈ us, v.oneCell' = true) : zg r w (us.map eqv) us := by
 refine ⟨by simp, fun j A hj => ?_⟩
 simp only [List.getElem?_map, Option.map_eq_some_iff] at hj
 obtain ⟨u, hu, rfl⟩ := hj
 exact ⟨u, hu, rfl, h u (List.mem_of_getElem? hu)⟩
theorem zno {α : Type} {e : α -> List Value} {k : Nat} (hk : ∀ x, (e x).length = k) (h0 : 0 < k) : ∀ (l : List α) (t : Nat), (l.flatMap e)[t]? = (l[t / k]?).bind fun x => (e x)[t % k]?
 | [], t => by simp
 | x :: l, t => by
  rw [List.flatMap_cons, List.getElem?_append, hk]
  by_cases h : t < k
  ·rw [if_pos h, Nat.div_eq_of_lt h, Nat.mod_eq_of_lt h]; simp
  ·have h1 : t / k = (t - k) / k + 1 := Nat.div_eq_sub_div h0 (by omega)
   have h2 : t % k = (t - k) % k := Nat.mod_eq_sub_mod (by omega)
   rw [if_neg h, zno hk h0 l, h1, h2, List.getElem?_cons_succ]
theorem zqf {α : Type} [Inhabited α] {e : α -> List Value} {k : Nat} (hk : ∀ x, (e x).length = k) (d : Array α) : (Sort.flatK e k d).toList = d.toList.flatMap e := by
 by_cases h0 : 0 < k
 ·refine List.ext_getElem? fun t => ?_
  rw [zno hk h0]
  by_cases ht : t < d.size * k
  ·have hd : t / k < d.size := Nat.div_lt_of_lt_mul (by rwa [Nat.mul_comm])
   have hm : t % k < (e d[t / k]).length := by rw [hk]; exact Nat.mod_lt _ h0
   have h1 : t < (Sort.flatK e k d).toList.length := by rw [Array.length_toList, Sort.size_flatK]; exact ht
   have h2 : (Sort.flatK e k d).toList[t] = (Sort.flatK e k d)[t]! := by
    rw [getElem!_pos _ t (by rw [Sort.size_flatK]; exact ht)]
    simp
   rw [List.getElem?_eq_getElem h1, h2, Sort.get_flatK _ _ _ _ ht, getElem!_pos d (t / k) hd]
   simp only [Array.getElem?_toList, Array.getElem?_eq_getElem hd, Option.bind_some]
   rw [getElem!_pos (e d[t / k]) (t % k) hm, List.getElem?_eq_getElem hm]
  ·rw [List.getElem?_eq_none (by rw [Array.length_toList, Sort.size_flatK]; omega)]
   have : d.size <= t / k := by
    rw [Nat.le_div_iff_mul_le h0]; omega
   simp [this]
 ·have : k = 0 := by omega
  subst this
  have e1 : ∀ x, e x = [] := fun x => List.eq_nil_of_length_eq_zero (hk x)
  have e2 : d.toList.flatMap e = [] := by simp [List.flatMap_eq_nil_iff, e1]
  rw [e2]
  exact List.eq_nil_of_length_eq_zero (by rw [Array.length_toList, Sort.size_flatK]; simp)
theorem y0i {w : World} {g : Nat} {cur : Array Value} {E : TypeId} {F : Array Value} (hh : w.heap[g]? = some (.cells cur E (0, 0))) (hF : cur.toList.take F.size = F.toList) : Sort.Holds id w g 0 F := by
 intro j hj
 have h1 : cur[j]? = some F[j] := by
  have : (cur.toList.take F.size)[j]? = F.toList[j]? := by rw [hF]
  rw [List.getElem?_take, if_pos hj] at this
  simpa [hj] using this
 rw [getElem!_pos F j hj]
 refine ⟨?_, ?_⟩
 ·unfold World.cell?
  rw [hh]
  simpa using h1
 ·unfold World.frozen?
  rw [hh]
  simp
theorem zzf {w : World} {g n : Nat} {cur : Array Value} {E : TypeId} {F : Array Value} {os : Array Obj} (hh : w.heap[g]? = some (.cells cur E (0, 0))) (hs : F.size <= cur.size) :
  ∃ cur', (Sort.grow (Sort.putRow id (Sort.ahead w n) g 0 F) os).heap[g]? = some (.cells cur' E (0, 0)) /\ cur'.size = cur.size /\ cur'.toList.take F.size = F.toList := by
 have hlt : g < w.heap.size := (Array.getElem?_eq_some_iff.1 hh).1
 refine ⟨Sort.putCells id 0 F cur, ?_, by simp [Sort.putCells], ?_⟩
 ·simp only [Sort.grow, Sort.putRow, Sort.mapBlock, Sort.ahead]
  rw [Array.getElem?_append, if_pos (by simpa using hlt), Array.getElem?_modify, if_pos rfl, hh]
  rfl
 ·refine List.ext_getElem? fun j => ?_
  rw [List.getElem?_take]
  by_cases hj : j < F.size
  ·rw [if_pos hj]
   have : j < cur.size := by omega
   simp [Sort.putCells, this, hj]
  ·rw [if_neg hj, List.getElem?_eq_none (by simpa using hj)]
theorem zus {w : World} {g n b : Nat} {F : Array Value} {os : Array Obj} (hb : b < w.heap.size) (hg : b ≠ g) : (Sort.grow (Sort.putRow id (Sort.ahead w n) g 0 F) os).heap[b]? = w.heap[b]? := by
 simp only [Sort.grow, Sort.putRow, Sort.mapBlock, Sort.ahead]
 rw [Array.getElem?_append, if_pos (by simpa using hb), Array.getElem?_modify, if_neg (fun e => hg e.symm)]
theorem y4z [Dr] {P : Program} {f : FuncId} {args : List VP} {vs0 : List Value} {α : Type} {E : TypeId} {e : α -> List VP} {ce : α -> List Value} {k : Nat} {l l' : List α} {sv : Value}
  (he : ∀ x ∈ l, e x = (ce x).map eqv) (he' : ∀ x ∈ l', e x = (ce x).map eqv) (hone : ∀ x ∈ l', ∀ v ∈ ce x, v.oneCell' = true) (hk : ∀ x ∈ l, (ce x).length = k) (hk' : ∀ x ∈ l', (ce x).length = k) (hlen : l'.length = l.length) (hargs : args = vs0.map eqv)
  (hnil : l = [] -> ∀ p cap w, Calls P f (#[.slice p 0 cap] ++ vs0.toArray) w fun e w' => e = .returned (.tuple #[]) /\ w' = w)
  (hrun : l ≠ [] -> ∀ g cap w, g < w.heap.size -> (∀ F : Array Value, F.toList = l.flatMap ce -> Sort.Holds id w g 0 F) ->
   Calls P f (#[.slice (some ⟨g, 0, none⟩) l.length cap] ++ vs0.toArray) w fun e w' => e = .returned (.tuple #[]) /\ ∃ n os F, F.toList = l'.flatMap ce /\ w' = Sort.grow (Sort.putRow id (Sort.ahead w n) g 0 F) os) :
  MutT P f (eqv sv :: args) E e k l sv fun x l2 => x = eqv (.tuple #[]) /\ l2 = l' := by
 intro w0 base r S w vs hw hl hA
 have hvs : vs = #[sv] ++ vs0.toArray := by
  have hsz : vs.size = 1 + vs0.length := by rw [hl, hargs]; simp; omega
  refine Array.ext (by rw [hsz]; simp [Nat.add_comm]) fun i h1 h2 => ?_
  cases i with
  | zero =>
   have := hA 0 (eqv sv) rfl
   simp only [Array.getD_eq_getD_getElem?, Array.getElem?_eq_getElem h1, Option.getD_some] at this
   have this : vs[0] = sv := this
   rw [this, Array.getElem_append_left (by simp)]; rfl
  | succ i =>
   have hi : i < vs0.length := by omega
   have := hA (i + 1) (eqv vs0[i]) (by rw [hargs]; simp [hi])
   simp only [Array.getD_eq_getD_getElem?, Array.getElem?_eq_getElem h1, Option.getD_some] at this
   rw [this]
   rw [Array.getElem_append_right (by simp)]
   simp
 subst hvs
 have hrow := hw.obj 0 _ rfl
 have hfm : l.flatMap e = (l.flatMap ce).map eqv := by
  rw [List.map_flatMap]
  clear hnil hrun hrow hk hlen hw
  induction l with
  | nil => rfl
  | cons x l ih => rw [List.flatMap_cons, List.flatMap_cons, he x (List.mem_cons_self), ih (fun y hy => he y (List.mem_cons_of_mem _ hy))]
 have hfm' : l'.flatMap e = (l'.flatMap ce).map eqv := by
  rw [List.map_flatMap]
  clear hnil hrun hrow hk hk' hlen hw hone
  induction l' with
  | nil => rfl
  | cons x l' ih => rw [List.flatMap_cons, List.flatMap_cons, he' x (List.mem_cons_self), ih (fun y hy => he' y (List.mem_cons_of_mem _ hy))]
 have hfl : ∀ m : List α, (∀ x ∈ m, (ce x).length = k) -> (m.flatMap ce).length = m.length * k := by
  intro m
  induction m with
  | nil => intro _; simp
  | cons x m ih => intro h; rw [List.flatMap_cons, List.length_append, h x (List.mem_cons_self), ih (fun y hy => h y (List.mem_cons_of_mem _ hy)), List.length_cons, Nat.add_mul]; omega
 by_cases h0 : l = []
 ·have hl0 : l' = [] := List.eq_nil_of_length_eq_zero (by rw [hlen, h0]; rfl)
  have hslice : ∃ p cap, sv = .slice p 0 cap := by
   rcases hrow with ⟨rfl, _⟩ | ⟨g, cap, cur, rfl, _⟩
   ·exact ⟨_, _, rfl⟩
   ·rw [h0]; exact ⟨_, _, rfl⟩
  obtain ⟨p, cap, rfl⟩ := hslice
  refine (hnil h0 p cap w).mono ?_
  rintro en w' ⟨rfl, rfl⟩
  refine ⟨_, eqv (.tuple #[]), _, r, S, rfl, Evo.refl _ _ _, hw, rfl, l', ?_, rfl, rfl⟩
  rw [h0, hl0]
 ·rcases hrow with ⟨_, rfl⟩ | ⟨g, cap, cur, rfl, hS, hcur, hle, hmax, hsz, hc⟩
  ·exact absurd rfl h0
  ·have hlt := (Array.getElem?_eq_some_iff.1 hcur).1
   rw [hfm] at hc
   have hc := zyh hc
   refine (hrun h0 g cap w hlt fun F hF => y0i hcur ?_).mono ?_
   ·have : F.size = l.length * k := by rw [<- Array.length_toList, hF, hfl l hk]
    rw [this, hc, hF]
   ·rintro en w' ⟨rfl, n, os, F, hF, rfl⟩
    have hFs : F.size = l.length * k := by rw [<- Array.length_toList, hF, hfl l' hk', hlen]
    have hb : ∀ b, b < w.heap.size -> ¬ S 0 b -> (Sort.grow (Sort.putRow id (Sort.ahead w n) g 0 F) os).heap[b]? = w.heap[b]? := fun b hb hs => zus hb (fun e => hs (e ▸ hS))
    obtain ⟨cur', hcur', hsz', htk⟩ := zzf (n := n) (os := os) (F := F) hcur (by rw [hFs, hsz]; exact Nat.mul_le_mul_right _ hle)
    refine ⟨_, eqv (.tuple #[]), _, r, _, rfl, hw.evo_repl 0 hb, hw.repl 0 (row E e k l' (.slice (some ⟨g, 0, none⟩) l.length cap)) (S 0) (by simp) rfl ⟨rfl, Nat.le_add_right _ _⟩ rfl (by simp [Sort.grow, Sort.putRow, Sort.mapBlock, Sort.ahead]) hb (fun b hb' => ?_) ?_, rfl, l', rfl, rfl, rfl⟩
    ·obtain ⟨_, h2, h3, h4⟩ := hw.own 0 b hb'
     refine ⟨h2, ?_, h4, fun j hj hs => hj (hw.apart j 0 b hs hb')⟩
     simp [Sort.grow, Sort.putRow, Sort.mapBlock, Sort.ahead]
     omega
    ·refine .inr ⟨g, cap, cur', by rw [hlen], hS, hcur', by omega, hmax, by omega, ?_⟩
     rw [hlen, <- hFs, htk, hF, hfm']
     exact zkn fun v hv => by
      obtain ⟨x, hx, hxv⟩ := List.mem_flatMap.1 hv
      exact hone x hx v hxv
theorem y7l {w w' : World} (h : @Bel ⟨True⟩ w.heap.size w w') : ∃ q os, w' = Sort.grow (w.drewN q) os := by
 refine ⟨w'.drawn - w.drawn, w'.heap.extract w.heap.size w'.heap.size, ?_⟩
 have hd := @Bel.drawn ⟨True⟩ _ _ _ h trivial
 have hh : w'.heap = w.heap ++ w'.heap.extract w.heap.size w'.heap.size := by
  refine Array.ext_getElem? fun i => ?_
  rw [Array.getElem?_append]
  by_cases hi : i < w.heap.size
  ·rw [if_pos hi, h.block i hi]
  ·rw [if_neg hi, Array.getElem?_extract]
   split
   ·congr 1; omega
   ·rw [Array.getElem?_eq_none (by omega)]
 have h1 := h.os
 have h2 := h.tape
 have h3 := h.output
 cases w'
 cases w
 simp only [Sort.grow, World.drewN] at *
 subst h1; subst h2; subst h3
 congr 1
 omega
def insL {α : Type} (lt : α -> α -> Bool) (x : α) : List α -> List α
 | [] => [x]
 | y :: l => bif lt y x then y :: insL lt x l else x :: y :: l
def z9r {α : Type} (lt : α -> α -> Bool) : List α -> List α
 | [] => []
 | x :: l => insL lt x (z9r lt l)
def pwB {α : Type} (r : α -> α -> Bool) : List α -> Bool
 | [] => true
 | x :: l => l.all (r x) && pwB r l
theorem zpd {α : Type} (lt : α -> α -> Bool) (x : α) : ∀ l : List α, (insL lt x l).Perm (x :: l)
 | [] => List.Perm.refl _
 | y :: l => by
  simp only [insL]
  cases lt y x with
  | true => exact ((zpd lt x l).cons y).trans (List.Perm.swap x y l)
  | false => exact List.Perm.refl _
theorem z5o {α : Type} (lt : α -> α -> Bool) : ∀ l : List α, (z9r lt l).Perm l
 | [] => List.Perm.refl _
 | x :: l => (zpd lt x _).trans ((z5o lt l).cons x)
theorem zuh {α β : Type} (f : α -> β) (lt : β -> β -> Bool) : ∀ l : List α, (z9r (fun a b => lt (f a) (f b)) l).map f = z9r lt (l.map f)
 | [] => rfl
 | x :: l => by
  have ins : ∀ m : List α, (insL (fun a b => lt (f a) (f b)) x m).map f = insL lt (f x) (m.map f) := by
   intro m
   induction m with
   | nil => rfl
   | cons y m ih =>
    simp only [insL, List.map_cons]
    cases lt (f y) (f x) with
    | true => simp only [cond_true, List.map_cons, ih]
    | false => rfl
  simp only [z9r, List.map_cons]
  rw [ins, zuh f lt l]
theorem zo3 {α : Type} {lt : α -> α -> Bool} (hO : Sort.SWO lt) (x : α) : ∀ l : List α, l.Pairwise (fun a b => lt b a = false) -> (insL lt x l).Pairwise fun a b => lt b a = false
 | [], _ => List.pairwise_singleton _ _
 | y :: l, h => by
  rw [List.pairwise_cons] at h
  simp only [insL]
  cases hl : lt y x with
  | true =>
   simp only [cond_true, List.pairwise_cons]
   refine ⟨fun z hz => ?_, zo3 hO x l h.2⟩
   rcases List.mem_cons.1 ((zpd lt x l).mem_iff.1 hz) with rfl | hz
   ·cases hx : lt z y with
    | false => rfl
    | true => have := hO.trans _ _ _ hl hx; rw [hO.irrefl] at this; cases this
   ·exact h.1 z hz
  | false =>
   simp only [cond_false, List.pairwise_cons]
   refine ⟨fun z hz => ?_, h.1, h.2⟩
   rcases List.mem_cons.1 hz with rfl | hz
   ·exact hl
   ·exact hO.ntrans _ _ _ (h.1 z hz) hl
theorem zal {α : Type} {lt : α -> α -> Bool} (hO : Sort.SWO lt) : ∀ l : List α, (z9r lt l).Pairwise fun a b => lt b a = false
 | [] => List.Pairwise.nil
 | x :: l => zo3 hO x _ (zal hO l)
theorem zwo {α : Type} {r : α -> α -> Bool} : ∀ {l : List α}, pwB r l = true ↔ l.Pairwise fun a b => r a b = true
 | [] => by simp [pwB]
 | x :: l => by simp [pwB, zwo (l := l), List.all_eq_true]
theorem zqm {α : Type} {lt : α -> α -> Bool} {l l1 l2 : List α} (hp : l.Pairwise fun a b => (lt a b || lt b a) = true) (h1 : l1.Perm l) (h2 : l2.Perm l) (s1 : l1.Pairwise fun a b => lt b a = false) (s2 : l2.Pairwise fun a b => lt b a = false) : l1 = l2 := by
 refine List.Perm.eq_of_pairwise (le := fun a b => lt b a = false) ?_ s1 s2 (h1.trans h2.symm)
 intro a b ha hb hab hba
 have ha := h1.mem_iff.1 ha
 have hb := h2.mem_iff.1 hb
 clear s1 s2 h1 h2
 induction l with
 | nil => cases ha
 | cons x l ih =>
  rw [List.pairwise_cons] at hp
  rcases List.mem_cons.1 ha with rfl | ha'
  ·rcases List.mem_cons.1 hb with rfl | hb'
   ·rfl
   ·have := hp.1 b hb'
    rw [hab, hba] at this; cases this
  ·rcases List.mem_cons.1 hb with rfl | hb'
   ·have := hp.1 a ha'
    rw [hab, hba] at this; cases this
   ·exact ih hp.2 ha' hb'
def zmb {α : Type} (ok : α -> Bool) (cf : α -> α -> Int) (l : List α) : Option (List α) :=
 bif l.all ok && Nat.blt l.length 4611686018427387904 && pwB (fun a b => decide (cf a b < 0) || decide (cf b a < 0)) l then some (z9r (fun a b => decide (cf a b < 0)) l) else none
theorem ztw {α : Type} {ok : α -> Bool} {cf : α -> α -> Int} {l l' : List α} (h : zmb ok cf l = some l') :
  (∀ y ∈ l, ok y = true) /\ l.length < 4611686018427387904 /\ (l.Pairwise fun a b => (decide (cf a b < 0) || decide (cf b a < 0)) = true) /\ l' = z9r (fun a b => decide (cf a b < 0)) l := by
 unfold zmb at h
 cases hc : (l.all ok && Nat.blt l.length 4611686018427387904 && pwB (fun a b => decide (cf a b < 0) || decide (cf b a < 0)) l) with
 | false => rw [hc] at h; cases h
 | true =>
  rw [hc] at h
  simp only [Bool.and_eq_true, Nat.blt_eq, List.all_eq_true] at hc
  exact ⟨hc.1.1, hc.1.2, zwo.1 hc.2, (Option.some.inj h).symm⟩
theorem y5d {α : Type} {ok : α -> Bool} {cf : α -> α -> Int} {l : List α} (h1 : ∀ y ∈ l, ok y = true) (h2 : l.length < 4611686018427387904) (h3 : l.Pairwise fun a b => cf a b < 0 \/ cf b a < 0) : zmb ok cf l = some (z9r (fun a b => decide (cf a b < 0)) l) := by
 unfold zmb
 have : (l.all ok && Nat.blt l.length 4611686018427387904 && pwB (fun a b => decide (cf a b < 0) || decide (cf b a < 0)) l) = true := by
  simp only [Bool.and_eq_true, Nat.blt_eq, List.all_eq_true]
  exact ⟨⟨h1, h2⟩, zwo.2 (h3.imp fun h => by simpa using h)⟩
 rw [this]; rfl
theorem zve {α : Type} {ok : α -> Bool} (l : List α) (hok : ∀ y ∈ l, ok y = true) : (l.attach.map fun y => (⟨y.1, hok y.1 y.2⟩ : {y : α // ok y = true})).map (·.1) = l := by
 rw [List.map_map]
 conv => rhs; rw [<- List.attach_map_subtype_val l]
 rfl
theorem y05 [Dr] {V : TE} {P : Program} {ρ : Shelf.Ren} (L : Proofs.SlLaysF0.n6 P ρ) {E c g : Nat} (hag : ∀ w, (isAgg (ρ.t 24)).run P w = .ok true w) (hsz : ∀ w, (Go.sizeOf (ρ.t 24)).run P w = .ok (V.sz c) w) (hfl : V.fl c = true) (hagg : z75 (V.d c) = true) (hg : FnOK P g)
  {ok : V.T c -> Bool} {cf : V.T c -> V.T c -> Int} (hO : Sort.SWO (Proofs.ltOf fun a b : {y : V.T c // ok y = true} => cf a.1 b.1))
  (hcmp : ∀ a b, ok a = true -> ok b = true -> @zfi ⟨True⟩ P g [V.vl c a, V.vl c b] fun x news => x = iv .i64 (cf a b) /\ news = []) : zd3 V P (ρ.f 6) ⟨E, c, [.fn g], fun l _ => zmb ok cf l⟩ := by
 intro l _ l' sv hF
 obtain ⟨hok, hlen, hpw, rfl⟩ := ztw hF
 refine y4z (vs0 := [.func (.func g) #[] #[]]) (ce := V.cv c) (fun x _ => y7w hfl x) (fun x _ => y7w hfl x) (fun x _ => y0v hfl x) (fun x _ => zu9 hfl x) (fun x _ => zu9 hfl x) (z5o _ _).length_eq rfl ?_ ?_
 ·intro _ p cap w
  exact Proofs.AnyF.slices_SortFunc_none L p cap _ w
 ·intro hne b cap w hlt hH
  generalize hd : (l.attach.map fun y => (⟨y.1, hok y.1 y.2⟩ : {y : V.T c // ok y = true})) = d
  have hv : d.map (·.1) = l := by rw [<- hd]; exact zve _ hok
  have hd0 : d ≠ [] := fun e => hne (by rw [<- hv, e]; rfl)
  obtain ⟨x0, hx0⟩ := List.exists_mem_of_ne_nil d hd0
  let _ : Inhabited {y : V.T c // ok y = true} := ⟨x0⟩
  have hs : d.toArray.size = l.length := by rw [<- hv]; simp
  have eg : ∀ args w, (callFunc g args).run P w = .ok (.enter g args) w := by
   obtain ⟨fn, h1, h2, h3⟩ := hg
   obtain ⟨cd, h3⟩ := Option.isSome_iff_exists.1 h3
   exact Proofs.enters_of h1 h2 h3
  have hfm : ∀ q : List {y : V.T c // ok y = true}, q.flatMap (fun y => V.cv c y.1) = (q.map (·.1)).flatMap (V.cv c) := fun q => by rw [List.flatMap_map]
  have hrun := Proofs.AnyQ.slices_SortFunc L (V.sz c) hag hsz (fun y : {y : V.T c // ok y = true} => V.cv c y.1) (fun y => zu9 hfl y.1) (fun y => y0v hfl y.1) (fun a b => cf a.1 b.1) hO g #[] b 0 cap d.toArray w eg ?_ (hH _ ?_) hlt (by rw [hs]; exact hlen)
  ·rw [hs] at hrun
   refine hrun.mono ?_
   rintro e w' ⟨rfl, d', n, os, ⟨k1, _, k3⟩, k4, rfl⟩
   refine ⟨rfl, n, os, _, ?_, rfl⟩
   rw [zqf (e := fun y : {y : V.T c // ok y = true} => V.cv c y.1) (fun y => zu9 hfl y.1), hfm]
   have hdl : d'.size = l.length := by rw [k1, hs]
   have e1 : d'.extract 0 l.length = d' := by rw [<- hdl]; exact Array.extract_size
   have e2 : d.toArray.extract 0 l.length = d.toArray := by rw [<- hs]; exact Array.extract_size
   rw [e1, e2] at k3
   have k3 : d'.toList.Perm d := by simpa using k3
   have key : d'.toList = z9r (Proofs.ltOf fun a b : {y : V.T c // ok y = true} => cf a.1 b.1) d := by
    refine zqm (l := d) (lt := Proofs.ltOf fun a b : {y : V.T c // ok y = true} => cf a.1 b.1) ?_ k3 (z5o _ _) ?_ (zal hO _)
    ·rw [<- hv] at hpw
     exact List.pairwise_map.1 hpw
    ·rw [List.pairwise_iff_getElem]
     intro i j hi hj hij
     have hi' : i < d'.size := by simpa using hi
     have hj' : j < d'.size := by simpa using hj
     have := k4 i j (Nat.zero_le _) hij (by omega)
     rw [getElem!_pos d' i hi', getElem!_pos d' j hj'] at this
     simpa using this
   have hm := zuh (fun y : {y : V.T c // ok y = true} => y.1) (fun a b => decide (cf a b < 0)) d
   rw [hv] at hm
   rw [key, <- hm]
   rfl
  ·intro m os dk _ y z
   have hp := hcmp y.1 z.1 y.2 z.2 (fun _ => False) (Proofs.sortWorldK (fun y : {y : V.T c // ok y = true} => V.cv c y.1) (V.sz c) w b 0 m dk os) (#[.agg (V.cv c y.1).toArray, .agg (V.cv c z.1).toArray] ++ #[]) (fun _ h => h.elim) rfl ?_
   ·refine hp.mono ?_
    rintro e w' ⟨v, u, objs, r', S', rfl, _, hw', hu, rfl, _⟩
    have hu : v = .int .i64 (cf y.1 z.1) := hu
    subst hu
    exact ⟨rfl, y7l (@WInv.below ⟨True⟩ _ _ _ _ _ _ hw')⟩
   ·intro i A hi
    have one : ∀ q : V.T c, (V.vl c q).h (fun _ => False) (Proofs.sortWorldK (fun y : {y : V.T c // ok y = true} => V.cv c y.1) (V.sz c) w b 0 m dk os) (.agg (V.cv c q).toArray) := fun q => by
     rw [zlp q hagg]
     refine ⟨_, rfl, ?_⟩
     rw [y7w hfl]
     exact zkn (y0v hfl q)
    match i, hi with
    | 0, hi => cases hi; exact one y.1
    | 1, hi => cases hi; exact one z.1
    | i + 2, hi => simp at hi
  ·rw [zqf (e := fun y : {y : V.T c // ok y = true} => V.cv c y.1) (fun y => zu9 hfl y.1), hfm, List.toList_toArray, hv]
end Px
end
section
namespace Px
open Go Go.RowKit Go.ChangeShapes Go.WideShapes Go.ChangeAt
set_option linter.unusedVariables false
set_option linter.unusedSimpArgs false
section
variable {T : Nat -> Type}
def rT (g : (c : Nat) -> T c -> Prop) : (fs : List Nat) -> Tup T fs -> Prop
 | [], _ => True
 | [c], x => g c x.1
 | c :: cs, x => g c x.1 /\ rT g cs x.2
def rD (g : (c : Nat) -> T c -> Prop) : {α : Type} -> Ds T α -> α -> Prop
 | _, .int k, x => RI k x
 | _, .bool, _ => True
 | _, .str, x => x.size <= maxLen
 | _, .sl c, x => RL (g c) x
 | _, .map _ _, _ => True
 | _, .arr n c, x => ∀ i, i < n -> g c (x i)
 | _, .st fs _ un _, x => rT g fs (un x)
theorem yb0 {g : (c : Nat) -> T c -> Prop} {c : Nat} : ∀ {cs : List Nat} {x : T c × Tup T cs}, g c x.1 -> rT g cs x.2 -> rT g (c :: cs) x
 | [], _, h, _ => h
 | _ :: _, _, h, k => ⟨h, k⟩
end
section
variable (V : TE) (P : Program)
def rdN : Nat -> (c : Nat) -> V.T c -> Prop
 | 0, _, _ => True
 | n + 1, c, x => rD (rdN n) (V.d c) x
def opF (g : TypeId -> Nat -> Bool) : List Nat -> List (TypeId × Nat × Nat) -> Nat -> Nat -> Bool
 | [], [], o, m => Nat.beq o m
 | c :: cs, (ty, off, m) :: l, o, e => Nat.beq off o && Nat.beq m (V.sz c) && g ty c && opF g cs l (o + m) e
 | _, _, _, _ => false
def opD (g : TypeId -> Nat -> Bool) : {α : Type} -> Ds V.T α -> TypeId -> Bool
 | _, .int k, t => match P.underlying t with | some (.int k') => decide (k' = k) | _ => false
 | _, .bool, t => match P.underlying t with | some .bool => true | _ => false
 | _, .str, t => match P.underlying t with | some .string => true | _ => false
 | _, .sl c, t => match P.underlying t with | some (.slice E) => Nat.beq (P.cellsOf E) (V.sz c) && Nat.blt 0 (V.sz c) && g E c | _ => false
 | _, .map _ _, _ => false
 | _, .arr n c, t => match P.underlying t with | some (.array N E) => Nat.beq N n && Nat.beq (P.cellsOf E) (V.sz c) && Nat.beq (P.cellsOf t) (n * V.sz c) && g E c | _ => false
 | _, .st fs _ _ _, t => match zra P t with | some l => opF V g fs l 0 (P.cellsOf t) | none => false
def opN : Nat -> TypeId -> Nat -> Bool
 | 0, _, _ => false
 | n + 1, t, c => opD V P (opN n) (V.d c) t
def ycp (n : Nat) : List TypeId -> List Nat -> Bool
 | [], [] => true
 | t :: ts, c :: cs => opN V P n t c && ycp n ts cs
 | _, _ => false
def ybe (n : Nat) : (cs : List Nat) -> Tup V.T cs -> Prop
 | [], _ => True
 | c :: cs, x => rdN V n c x.1 /\ ybe n cs x.2
variable {V P}
theorem y9m : ∀ (n : Nat) (t : TypeId) (c : Nat), opN V P n t c = true -> Opn P t (V.sz c) (V.ev c) (rdN V n c)
 | 0, _, _, h => by cases h
 | n + 1, t, c, h => by
  have ih := y9m n
  have hev : V.ev c = evD V.ev (V.mv V.ev) V.sz (V.d c) := funext fun x => V.ev_eq c x
  have hr : rdN V (n + 1) c = rD (rdN V n) (V.d c) := rfl
  rw [hev, V.sz_eq, hr]
  change opD V P (opN V P n) (V.d c) t = true at h
  revert h
  clear hev hr
  generalize V.d c = d
  revert d
  generalize V.T c = α
  intro d h
  cases d with
  | int k =>
   simp only [opD] at h
   split at h
   ·rename_i k' hu
    simp only [decide_eq_true_eq] at h
    subst h
    exact Opn.int hu
   ·cases h
  | bool =>
   simp only [opD] at h
   split at h
   ·rename_i hu; exact Opn.bool hu
   ·cases h
  | str =>
   simp only [opD] at h
   split at h
   ·rename_i hu; exact Opn.string hu
   ·cases h
  | sl c' =>
   simp only [opD] at h
   split at h
   ·rename_i E hu
    simp only [Bool.and_eq_true, Nat.blt_eq] at h
    obtain ⟨⟨h1, h2⟩, h3⟩ := h
    exact Opn.slice hu (Nat.eq_of_beq_eq_true h1) h2 (ih E c' h3)
   ·cases h
  | map kc vc => simp [opD] at h
  | arr m c' =>
   simp only [opD] at h
   split at h
   ·rename_i N E hu
    simp only [Bool.and_eq_true] at h
    obtain ⟨⟨⟨h1, h2⟩, h3⟩, h4⟩ := h
    have h1 := Nat.eq_of_beq_eq_true h1
    subst h1
    have : Inhabited (V.T c') := ⟨V.z c'⟩
    exact Opn.array hu (Nat.eq_of_beq_eq_true h2) (Nat.eq_of_beq_eq_true h3) rfl (ih E c' h4)
   ·cases h
  | st fs mk un law =>
   simp only [opD] at h
   split at h
   ·rename_i l hl
    intro H enc w sp held fuel cs x hx
    obtain ⟨hlen, m, hf⟩ := zv5 hl hx
    have key : ∀ (fs : List Nat) (l' : List (TypeId × Nat × Nat)) (o : Nat), opF V (opN V P n) fs l' o (P.cellsOf t) = true -> (∀ (i : Nat) (ty : TypeId) (off m' : Nat), l'[i]? = some (ty, off, m') -> ∃ y, DataW.trod enc P w 0 sp held m ty ((cs.drop off).take m') = some y) ->
      o + fs.foldr (fun c s => V.sz c + s) 0 = P.cellsOf t /\ ∃ y : Tup V.T fs, rT (rdN V n) fs y /\ zg (fun b => b < w.heap.size) w (evT V.ev fs y) (cs.drop o) := by
     intro fs
     induction fs with
     | nil =>
      intro l' o h hf
      cases l' with
      | nil =>
       have := Nat.eq_of_beq_eq_true h
       subst this
       exact ⟨rfl, (), trivial, zg.tile0 hlen⟩
      | cons a l' => cases h
     | cons c cs' ihf =>
      intro l' o h hf
      cases l' with
      | nil => cases h
      | cons a l' =>
       obtain ⟨ty, off, m'⟩ := a
       simp only [opF, Bool.and_eq_true] at h
       obtain ⟨⟨⟨h1, h2⟩, h3⟩, h4⟩ := h
       have h1 := Nat.eq_of_beq_eq_true h1
       have h2 := Nat.eq_of_beq_eq_true h2
       subst h1; subst h2
       obtain ⟨y0, hy0⟩ := hf 0 _ _ _ rfl
       obtain ⟨_, y, hR, hc⟩ := ih ty c h3 _ _ _ _ _ _ _ _ hy0
       obtain ⟨he, z, hz, hcz⟩ := ihf l' _ h4 (fun i ty off m' hi => hf (i + 1) ty off m' hi)
       refine ⟨by simp only [List.foldr_cons]; omega, (y, z), yb0 hR hz, ?_⟩
       exact zg.tile hc hcz
    obtain ⟨he, y, hy, hc⟩ := key fs l 0 h hf
    rw [List.drop_zero] at hc
    refine ⟨by rw [hlen, <- he, Nat.zero_add]; rfl, mk y, ?_, ?_⟩
    ·show rT _ fs (un (mk y))
     rw [law]; exact hy
    ·show zg _ _ (evT V.ev fs (un (mk y))) cs
     rw [law]; exact hc
   ·cases h
theorem yds {H : Type} {enc : TypeId × Value -> H} {W : World} {sp : Nat -> Bool} {held : Bool} {base n : Nat} {t : TypeId} {c : Nat} {v : Value} {d : DataW H} {p : List MemPlace}
  (ho : opN V P n t c = true) (hv : Value.okWide P W .any base t v) (h : DataW.Trod enc P W 0 sp held t v d p) : ∃ y, rdN V n c y /\ (V.vl c y).h (fun b => b < W.heap.size) W v := by
 cases n with
 | zero => cases ho
 | succ n =>
 obtain ⟨fuel, hf⟩ := h
 obtain ⟨_, y, hR, hc⟩ := y9m _ _ _ ho _ _ _ _ _ _ _ _ hf
 refine ⟨y, hR, ?_⟩
 change opD V P (opN V P n) (V.d c) t = true at ho
 unfold Value.okWide at hv
 cases ha : z75 (V.d c) with
 | true =>
  rw [zlp y ha]
  have hs : ∃ cs, v = .agg cs := by
   revert ho ha
   generalize V.d c = d
   generalize V.T c = α at d
   intro ho ha
   cases d with
   | arr m c' =>
    simp only [opD] at ho
    split at ho
    ·rename_i N E hu
     rw [hu] at hv
     obtain ⟨cs, rfl, _⟩ := hv
     exact ⟨cs, rfl⟩
    ·cases ho
   | st fs mk un law =>
    simp only [opD, zra] at ho
    cases hu : P.underlying t with
    | none => rw [hu] at ho; cases ho
    | some X =>
     rw [hu] at ho hv
     cases X with
     | struct fs' => obtain ⟨cs, rfl, _⟩ := hv; exact ⟨cs, rfl⟩
     | _ => cases ho
   | _ => cases ha
  obtain ⟨cs, rfl⟩ := hs
  exact ⟨cs, rfl, hc⟩
 | false =>
  rw [zoa y ha] at hc
  have hcell : v.cells.toList = [v] := by
   revert ho ha
   generalize V.d c = d
   generalize V.T c = α at d
   intro ho ha
   cases d with
   | int k =>
    simp only [opD] at ho
    split at ho
    ·rename_i k' hu
     rw [hu] at hv
     cases v <;> first | rfl | (exfalso; simp [Cell.okWide, Cell.ok, hu] at hv)
    ·cases ho
   | bool =>
    simp only [opD] at ho
    split at ho
    ·rename_i hu
     rw [hu] at hv
     cases v <;> first | rfl | (exfalso; simp [Cell.okWide, Cell.ok, hu] at hv)
    ·cases ho
   | str =>
    simp only [opD] at ho
    split at ho
    ·rename_i hu
     rw [hu] at hv
     cases v <;> first | rfl | (exfalso; simp [Cell.okWide, Cell.ok, hu] at hv)
    ·cases ho
   | sl c' =>
    simp only [opD] at ho
    split at ho
    ·rename_i E hu
     rw [hu] at hv
     cases v <;> first | rfl | (exfalso; simp [Cell.okWide, Cell.ok, hu] at hv)
    ·cases ho
   | arr m c' => cases ha
   | map kc vc => simp [opD] at ho
   | st fs mk un law => cases ha
  rw [hcell] at hc
  obtain ⟨u, hu', hA, _⟩ := hc.2 0 (V.vl c y) rfl
  simp at hu'
  subst hu'
  exact hA
theorem zzz {H : Type} {enc : TypeId × Value -> H} {W : World} {sp : Nat -> Bool} {held : Bool} {base n : Nat} : ∀ {ts : List TypeId} {cs : List Nat} {vs : List Value} {ds : List (DataW H)} {ps : List MemPlace},
  ycp V P n ts cs = true -> DataW.TrodAll enc P W 0 sp held ts vs ds ps -> (∀ (j : Nat) t v, ts[j]? = some t -> vs[j]? = some v -> Value.okWide P W .any base t v) ->
  vs.length = cs.length /\ ∃ x : Tup V.T cs, ybe V n cs x /\ ∀ (i : Nat) (A : VP), (vls V cs x)[i]? = some A -> A.h (fun b => b < W.heap.size) W (vs.getD i undef)
 | [], [], vs, ds, ps, _, h, _ => by
  cases vs with
  | nil => exact ⟨rfl, (), trivial, fun i A hi => by simp [vls] at hi⟩
  | cons v vs => cases ds <;> exact h.elim
 | t :: ts, c :: cs, vs, ds, ps, ho, h, hv => by
  simp only [ycp, Bool.and_eq_true] at ho
  cases vs with
  | nil => cases ds <;> exact h.elim
  | cons v vs =>
   cases ds with
   | nil => exact h.elim
   | cons d ds =>
    obtain ⟨p, q, h1, h2, _⟩ := h
    obtain ⟨y, hR, hA⟩ := yds ho.1 (hv 0 t v rfl rfl) h1
    obtain ⟨hl, x, hx, hxs⟩ := zzz ho.2 h2 (fun j t v ht hvj => hv (j + 1) t v ht hvj)
    refine ⟨by simp [hl], (y, x), ⟨hR, hx⟩, fun i A hi => ?_⟩
    cases i with
    | zero => simp only [vls, List.getElem?_cons_zero, Option.some.injEq] at hi; subst hi; exact hA
    | succ i => simp only [vls, List.getElem?_cons_succ] at hi; simpa using hxs i A hi
 | [], _ :: _, _, _, _, ho, _, _ => by cases ho
 | _ :: _, [], _, _, _, ho, _, _ => by cases ho
theorem znx {H : Type} {enc : TypeId × Value -> H} {P : Program} {W : World} {b : Nat} {sp : Nat -> Bool} {held : Bool} : ∀ {ts : List TypeId} {vs : List Value} {ds : List (DataW H)} {ps : List MemPlace}, DataW.TrodAll enc P W b sp held ts vs ds ps -> ds.length = ts.length
 | [], [], [], _, _ => rfl
 | t :: ts, v :: vs, d :: ds, ps, ⟨p, q, _, h, _⟩ => by simp [znx h]
 | [], _ :: _, _, _, h => h.elim
 | [], [], _ :: _, _, h => h.elim
 | _ :: _, [], _, _, h => h.elim
 | _ :: _, _ :: _, [], _, h => h.elim
theorem y2z : ∀ (cs : List Nat) (x : Tup V.T cs), (vls V cs x).length = cs.length
 | [], _ => rfl
 | c :: cs, x => by simp only [vls, List.length_cons, y2z cs]
theorem yel [Dr] {f : FuncId} {sp : Fsp V} {W : World} {vs : Array Value} {x : Tup V.T sp.args} {r : RTup V.T sp.res} (hf : z2d V P f sp) (hr : sp.F x = some r) (hres : ∀ B : Asg, (resV V (encR V 0 sp.res r)).den V P B = bv true) (hno : newR V sp.res r = [])
  (hl : vs.toList.length = sp.args.length) (hA : ∀ (i : Nat) (A : VP), (vls V sp.args x)[i]? = some A -> A.h (fun b => b < W.heap.size) W (vs.toList.getD i undef)) : Calls P f vs W (fun e W' => e = .returned (.bool true) /\ Below W.heap.size W W') := by
 refine y4l (As := vls V sp.args x) ((hf x r hr).mono ?_) (by rw [y2z]; simpa using hl) (fun i A hi => ?_)
 ·rintro y news ⟨B, hB, rfl, rfl⟩
  rw [hno] at hB ⊢
  refine ⟨hres B, ?_⟩
  cases B <;> rfl
 ·have := hA i A hi
  simpa [Array.getD_eq_getD_getElem?, List.getD_eq_getElem?_getD] using this
end
theorem z68.same {R : Type} {x : Option R} {n : Nat} {y : Option (List (Option R))} (h : y = some (List.replicate n x)) : z68 x y :=
 ⟨fun r hr => ⟨_, h, fun a ha => by rw [(List.mem_replicate.1 ha).2, hr]⟩⟩
theorem z68.ck {R : Type} {p : Prop} [Decidable p] {x : Option R} {y : Option (List (Option R))} (h : z68 x y) : z68 (Px.ck p x) (Px.ck p y) :=
 ⟨fun r hr => by
  unfold Px.ck at *
  split at hr
  ·rename_i hp; simp only [if_pos hp]; exact h.ok r hr
  ·cases hr⟩
theorem z68.bind {R α : Type} {m : Option α} {f : α -> Option R} {g : α -> Option (List (Option R))} (h : ∀ a, z68 (f a) (g a)) : z68 (m.bind f) (m.bind g) :=
 ⟨fun r hr => by
  cases m with
  | none => cases hr
  | some a => exact (h a).ok r hr⟩
theorem z68.one {R : Type} {x : Option R} : z68 x (some [x]) := ⟨fun r hr => ⟨_, rfl, fun a ha => by rw [List.mem_singleton.1 ha, hr]⟩⟩
theorem z68.nil {R : Type} {x : Option R} : z68 x (catL []) := ⟨fun r hr => ⟨[], rfl, fun a ha => by cases ha⟩⟩
theorem z68.cons {R : Type} {x : Option R} {y : Option (List (Option R))} {l : List (Option (List (Option R)))} (h : z68 x y) (hl : z68 x (catL l)) : z68 x (catL (y :: l)) :=
 ⟨fun r hr => by
  obtain ⟨a, ha, h1⟩ := h.ok r hr
  obtain ⟨b, hb, h2⟩ := hl.ok r hr
  refine ⟨a ++ b, by simp only [catL, ha, hb, cat2], fun z hz => ?_⟩
  rcases List.mem_append.1 hz with hz | hz
  ·exact h1 z hz
  ·exact h2 z hz⟩
end Px
end
section
set_option linter.unusedVariables false
set_option linter.unusedSimpArgs false
set_option maxHeartbeats 4000000
set_option maxRecDepth 100000
namespace Px
open Go Go.RowKit
def zo : ByteArray := ⟨#[0, 1, 2, 2, 3, 3, 3, 3, 4, 4, 4, 4, 4, 4, 4, 4, 5, 5, 5, 5, 5, 5, 5, 5, 5, 5, 5, 5, 5, 5, 5, 5, 6, 6, 6, 6, 6, 6, 6, 6, 6, 6, 6, 6, 6, 6, 6, 6, 6, 6, 6, 6, 6, 6, 6, 6, 6, 6, 6, 6, 6, 6, 6, 6, 7, 7, 7, 7, 7, 7, 7, 7, 7, 7, 7, 7, 7, 7, 7, 7, 7, 7, 7, 7, 7, 7, 7, 7, 7, 7, 7, 7, 7, 7, 7, 7, 7, 7, 7, 7, 7, 7, 7, 7, 7, 7, 7, 7, 7, 7, 7, 7, 7, 7, 7, 7, 7, 7, 7, 7, 7, 7, 7, 7, 7, 7, 7, 7, 8, 8, 8, 8, 8, 8, 8, 8, 8, 8, 8, 8, 8, 8, 8, 8, 8, 8, 8, 8, 8, 8, 8, 8, 8, 8, 8, 8, 8, 8, 8, 8, 8, 8, 8, 8, 8, 8, 8, 8, 8, 8, 8, 8, 8, 8, 8, 8, 8, 8, 8, 8, 8, 8, 8, 8, 8, 8, 8, 8, 8, 8, 8, 8, 8, 8, 8, 8, 8, 8, 8, 8, 8, 8, 8, 8, 8, 8, 8, 8, 8, 8, 8, 8, 8, 8, 8, 8, 8, 8, 8, 8, 8, 8, 8, 8, 8, 8, 8, 8, 8, 8, 8, 8, 8, 8, 8, 8, 8, 8, 8, 8, 8, 8, 8, 8, 8, 8, 8, 8, 8, 8, 8, 8, 8, 8, 8, 8]⟩
structure Part where
 kind : Int
 serial : Int
 fitted : Bool
instance : Inhabited Part := ⟨⟨0, 0, false⟩⟩
structure Ref where
 railway : Int
 no : Int
instance : Inhabited Ref := ⟨⟨0, 0⟩⟩
structure Item where
 kind : Int
 ref : Ref
 wagon : Int
 place : Int
 other : Int
 number : Int
 from_ : Int
 to : Int
 code : Int
 dest : Int
 class_ : Int
 weight : Int
 amount : Int
 text : ByteArray
 parts : (List Part)
instance : Inhabited Item := ⟨⟨0, default, 0, 0, 0, 0, 0, 0, 0, 0, 0, 0, 0, ⟨#[]⟩, []⟩⟩
structure z1 where
 ref : Ref
 by_ : Ref
 time : Int
 item : Item
instance : Inhabited z1 := ⟨⟨default, default, 0, default⟩⟩
structure z6 where
 kind : Int
 serial : Int
instance : Inhabited z6 := ⟨⟨0, 0⟩⟩
structure z6j where
 part : Part
 wagon : Int
 certain : Bool
instance : Inhabited z6j := ⟨⟨default, 0, false⟩⟩
structure z7b where
 kind : Int
 railway : Int
 other : Int
instance : Inhabited z7b := ⟨⟨0, 0, 0⟩⟩
structure Edge where
 a : Int
 b : Int
 railway : Int
 minutes : Int
 km : Int
instance : Inhabited Edge := ⟨⟨0, 0, 0, 0, 0⟩⟩
structure zbd where
 places : (List z7b)
 edges : (List Edge)
instance : Inhabited zbd := ⟨⟨[], []⟩⟩
structure z1x where
 load : Int
 tare : Int
 length : Int
 gauge : Int
 brake : Int
 classes : Int
 life : Int
 floor : Int
instance : Inhabited z1x := ⟨⟨0, 0, 0, 0, 0, 0, 0, 0⟩⟩
structure zi6 where
 type_ : Int
 owner : Int
 home : Int
 built : Int
 worth : Int
instance : Inhabited zi6 := ⟨⟨0, 0, 0, 0, 0⟩⟩
structure Swap where
 wanted : Int
 given : Int
 cost : Int
instance : Inhabited Swap := ⟨⟨0, 0, 0⟩⟩
structure Wash where
 from_ : Int
 to : Int
 minutes : Int
instance : Inhabited Wash := ⟨⟨0, 0, 0⟩⟩
structure zek where
 types : (List z1x)
 wagons : (List zi6)
 swaps : (List Swap)
 washes : (List Wash)
instance : Inhabited zek := ⟨⟨[], [], [], []⟩⟩
structure zfq where
 place : Int
 low : Int
 high : Int
instance : Inhabited zfq := ⟨⟨0, 0, 0⟩⟩
structure zba where
 place : Int
instance : Inhabited zba := ⟨⟨0⟩⟩
structure Span where
 from_ : Int
 to : Int
instance : Inhabited Span := ⟨⟨0, 0⟩⟩
structure z93 where
 open_ : (Nat -> Span)
 holidays : (List Int)
instance : Inhabited z93 := ⟨⟨fun _ => default, []⟩⟩
structure z15 where
 key : Int
 calendar : z93
instance : Inhabited z15 := ⟨⟨0, default⟩⟩
structure Pool where
 network : zbd
 fleet : zek
 readers : (List zfq)
 shippers : (List zba)
 railways : (List z15)
instance : Inhabited Pool := ⟨⟨default, default, [], [], []⟩⟩
structure za where
 p : Pool
 it : Item
 ok : Bool
instance : Inhabited za := ⟨⟨default, default, false⟩⟩
structure z7 where
 wagon : Int
 place : Int
 from_ : Int
 to : Int
 at_ : Int
 code : Int
 deliver : Ref
 receive : Ref
instance : Inhabited z7 := ⟨⟨0, 0, 0, 0, 0, 0, default, default⟩⟩
structure z5a where
 railway : Int
 span : Span
 ref : Ref
instance : Inhabited z5a := ⟨⟨0, default, default⟩⟩
structure zgx where
 kind : Int
 wagon : Int
 after : Int
instance : Inhabited zgx := ⟨⟨0, 0, 0⟩⟩
def TT : Nat -> Type
 | 0 => Int
 | 1 => Bool
 | 2 => Part
 | 3 => Ref
 | 4 => ByteArray
 | 5 => (List Part)
 | 6 => Item
 | 7 => z1
 | 8 => (List Int)
 | 9 => z6
 | 10 => (List z1)
 | 11 => (List (Int × Bool))
 | 12 => (List (z6 × (List (Int × Bool))))
 | 13 => z6j
 | 14 => (List z6j)
 | 15 => z7b
 | 16 => (List z7b)
 | 17 => Edge
 | 18 => (List Edge)
 | 19 => zbd
 | 20 => Int
 | 21 => z1x
 | 22 => (List z1x)
 | 23 => zi6
 | 24 => (List zi6)
 | 25 => Swap
 | 26 => (List Swap)
 | 27 => Wash
 | 28 => (List Wash)
 | 29 => zek
 | 30 => zfq
 | 31 => (List zfq)
 | 32 => zba
 | 33 => (List zba)
 | 34 => Span
 | 35 => (Nat -> Span)
 | 36 => z93
 | 37 => z15
 | 38 => (List z15)
 | 39 => Pool
 | 40 => (Nat -> Bool)
 | 41 => za
 | 42 => (Nat -> Int)
 | 43 => (List (Nat -> Int))
 | 44 => z7
 | 45 => (List z7)
 | 46 => z5a
 | 47 => (List z5a)
 | 48 => (List (z6 × Bool))
 | 49 => Int
 | 50 => zgx
 | 51 => (List zgx)
 | _ => Unit
def TD : (c : Nat) -> Ds TT (TT c)
 | 0 => .int .i64
 | 1 => .bool
 | 2 => .st [0, 0, 1] (fun t => ⟨t.1, t.2.1, t.2.2.1⟩) (fun x => (x.kind, x.serial, x.fitted, ())) (fun _ => rfl)
 | 3 => .st [0, 0] (fun t => ⟨t.1, t.2.1⟩) (fun x => (x.railway, x.no, ())) (fun _ => rfl)
 | 4 => .str
 | 5 => .sl 2
 | 6 => .st [0, 3, 0, 0, 0, 0, 0, 0, 0, 0, 0, 0, 0, 4, 5] (fun t => ⟨t.1, t.2.1, t.2.2.1, t.2.2.2.1, t.2.2.2.2.1, t.2.2.2.2.2.1, t.2.2.2.2.2.2.1, t.2.2.2.2.2.2.2.1, t.2.2.2.2.2.2.2.2.1, t.2.2.2.2.2.2.2.2.2.1, t.2.2.2.2.2.2.2.2.2.2.1, t.2.2.2.2.2.2.2.2.2.2.2.1, t.2.2.2.2.2.2.2.2.2.2.2.2.1, t.2.2.2.2.2.2.2.2.2.2.2.2.2.1, t.2.2.2.2.2.2.2.2.2.2.2.2.2.2.1⟩) (fun x => (x.kind, x.ref, x.wagon, x.place, x.other, x.number, x.from_, x.to, x.code, x.dest, x.class_, x.weight, x.amount, x.text, x.parts, ())) (fun _ => rfl)
 | 7 => .st [3, 3, 0, 6] (fun t => ⟨t.1, t.2.1, t.2.2.1, t.2.2.2.1⟩) (fun x => (x.ref, x.by_, x.time, x.item, ())) (fun _ => rfl)
 | 8 => .sl 0
 | 9 => .st [0, 0] (fun t => ⟨t.1, t.2.1⟩) (fun x => (x.kind, x.serial, ())) (fun _ => rfl)
 | 10 => .sl 7
 | 11 => .map 0 1
 | 12 => .map 9 11
 | 13 => .st [2, 0, 1] (fun t => ⟨t.1, t.2.1, t.2.2.1⟩) (fun x => (x.part, x.wagon, x.certain, ())) (fun _ => rfl)
 | 14 => .sl 13
 | 15 => .st [0, 0, 0] (fun t => ⟨t.1, t.2.1, t.2.2.1⟩) (fun x => (x.kind, x.railway, x.other, ())) (fun _ => rfl)
 | 16 => .sl 15
 | 17 => .st [0, 0, 0, 0, 0] (fun t => ⟨t.1, t.2.1, t.2.2.1, t.2.2.2.1, t.2.2.2.2.1⟩) (fun x => (x.a, x.b, x.railway, x.minutes, x.km, ())) (fun _ => rfl)
 | 18 => .sl 17
 | 19 => .st [16, 18] (fun t => ⟨t.1, t.2.1⟩) (fun x => (x.places, x.edges, ())) (fun _ => rfl)
 | 20 => .int .u64
 | 21 => .st [0, 0, 0, 0, 0, 20, 0, 0] (fun t => ⟨t.1, t.2.1, t.2.2.1, t.2.2.2.1, t.2.2.2.2.1, t.2.2.2.2.2.1, t.2.2.2.2.2.2.1, t.2.2.2.2.2.2.2.1⟩) (fun x => (x.load, x.tare, x.length, x.gauge, x.brake, x.classes, x.life, x.floor, ())) (fun _ => rfl)
 | 22 => .sl 21
 | 23 => .st [0, 0, 0, 0, 0] (fun t => ⟨t.1, t.2.1, t.2.2.1, t.2.2.2.1, t.2.2.2.2.1⟩) (fun x => (x.type_, x.owner, x.home, x.built, x.worth, ())) (fun _ => rfl)
 | 24 => .sl 23
 | 25 => .st [0, 0, 0] (fun t => ⟨t.1, t.2.1, t.2.2.1⟩) (fun x => (x.wanted, x.given, x.cost, ())) (fun _ => rfl)
 | 26 => .sl 25
 | 27 => .st [0, 0, 0] (fun t => ⟨t.1, t.2.1, t.2.2.1⟩) (fun x => (x.from_, x.to, x.minutes, ())) (fun _ => rfl)
 | 28 => .sl 27
 | 29 => .st [22, 24, 26, 28] (fun t => ⟨t.1, t.2.1, t.2.2.1, t.2.2.2.1⟩) (fun x => (x.types, x.wagons, x.swaps, x.washes, ())) (fun _ => rfl)
 | 30 => .st [0, 0, 0] (fun t => ⟨t.1, t.2.1, t.2.2.1⟩) (fun x => (x.place, x.low, x.high, ())) (fun _ => rfl)
 | 31 => .sl 30
 | 32 => .st [0] (fun t => ⟨t.1⟩) (fun x => (x.place, ())) (fun _ => rfl)
 | 33 => .sl 32
 | 34 => .st [0, 0] (fun t => ⟨t.1, t.2.1⟩) (fun x => (x.from_, x.to, ())) (fun _ => rfl)
 | 35 => .arr 7 34
 | 36 => .st [35, 8] (fun t => ⟨t.1, t.2.1⟩) (fun x => (x.open_, x.holidays, ())) (fun _ => rfl)
 | 37 => .st [20, 36] (fun t => ⟨t.1, t.2.1⟩) (fun x => (x.key, x.calendar, ())) (fun _ => rfl)
 | 38 => .sl 37
 | 39 => .st [19, 29, 31, 33, 38] (fun t => ⟨t.1, t.2.1, t.2.2.1, t.2.2.2.1, t.2.2.2.2.1⟩) (fun x => (x.network, x.fleet, x.readers, x.shippers, x.railways, ())) (fun _ => rfl)
 | 40 => .arr 4096 1
 | 41 => .st [39, 6, 1] (fun t => ⟨t.1, t.2.1, t.2.2.1⟩) (fun x => (x.p, x.it, x.ok, ())) (fun _ => rfl)
 | 42 => .arr 2 0
 | 43 => .sl 42
 | 44 => .st [0, 0, 0, 0, 0, 0, 3, 3] (fun t => ⟨t.1, t.2.1, t.2.2.1, t.2.2.2.1, t.2.2.2.2.1, t.2.2.2.2.2.1, t.2.2.2.2.2.2.1, t.2.2.2.2.2.2.2.1⟩) (fun x => (x.wagon, x.place, x.from_, x.to, x.at_, x.code, x.deliver, x.receive, ())) (fun _ => rfl)
 | 45 => .sl 44
 | 46 => .st [0, 34, 3] (fun t => ⟨t.1, t.2.1, t.2.2.1⟩) (fun x => (x.railway, x.span, x.ref, ())) (fun _ => rfl)
 | 47 => .sl 46
 | 48 => .map 9 1
 | 49 => .int .u8
 | 50 => .st [0, 0, 0] (fun t => ⟨t.1, t.2.1, t.2.2.1⟩) (fun x => (x.kind, x.wagon, x.after, ())) (fun _ => rfl)
 | 51 => .sl 50
 | _ + 52 => .st [] (fun _ => ()) (fun _ => ()) (fun _ => rfl)
def TZ : (c : Nat) -> TT c
 | 0 => (default : Int)
 | 1 => (default : Bool)
 | 2 => (default : Part)
 | 3 => (default : Ref)
 | 4 => (default : ByteArray)
 | 5 => (default : (List Part))
 | 6 => (default : Item)
 | 7 => (default : z1)
 | 8 => (default : (List Int))
 | 9 => (default : z6)
 | 10 => (default : (List z1))
 | 11 => (default : (List (Int × Bool)))
 | 12 => (default : (List (z6 × (List (Int × Bool)))))
 | 13 => (default : z6j)
 | 14 => (default : (List z6j))
 | 15 => (default : z7b)
 | 16 => (default : (List z7b))
 | 17 => (default : Edge)
 | 18 => (default : (List Edge))
 | 19 => (default : zbd)
 | 20 => (default : Int)
 | 21 => (default : z1x)
 | 22 => (default : (List z1x))
 | 23 => (default : zi6)
 | 24 => (default : (List zi6))
 | 25 => (default : Swap)
 | 26 => (default : (List Swap))
 | 27 => (default : Wash)
 | 28 => (default : (List Wash))
 | 29 => (default : zek)
 | 30 => (default : zfq)
 | 31 => (default : (List zfq))
 | 32 => (default : zba)
 | 33 => (default : (List zba))
 | 34 => (default : Span)
 | 35 => (default : (Nat -> Span))
 | 36 => (default : z93)
 | 37 => (default : z15)
 | 38 => (default : (List z15))
 | 39 => (default : Pool)
 | 40 => (default : (Nat -> Bool))
 | 41 => (default : za)
 | 42 => (default : (Nat -> Int))
 | 43 => (default : (List (Nat -> Int)))
 | 44 => (default : z7)
 | 45 => (default : (List z7))
 | 46 => (default : z5a)
 | 47 => (default : (List z5a))
 | 48 => (default : (List (z6 × Bool)))
 | 49 => (default : Int)
 | 50 => (default : zgx)
 | 51 => (default : (List zgx))
 | _ + 52 => ()
def TC (t : Nat) : Nat := (lk [(2, 0), (3, 0), (4, 1), (5, 49), (6, 49), (9, 4), (10, 4), (11, 4), (12, 20), (22, 10), (24, 2), (28, 5), (31, 14), (34, 8), (37, 16), (38, 18), (40, 19), (41, 22), (42, 24), (43, 26), (44, 28), (46, 29), (47, 31), (48, 33), (49, 38), (51, 39), (53, 3), (55, 6), (57, 7), (59, 0), (63, 51), (66, 50), (73, 13), (80, 23), (85, 12), (88, 9), (89, 11), (106, 34), (107, 35), (109, 36), (110, 20), (112, 37), (114, 48), (124, 47), (127, 46), (129, 15), (131, 21), (134, 20), (142, 30), (145, 32), (147, 17), (157, 41), (162, 45), (165, 44), (167, 0), (182, 25), (184, 40), (186, 27), (198, 43), (200, 42), (204, 20), (249, 49), (250, 49)] t).getD 52
def TV : TE := ⟨TT, TD, TZ, TC, fun c => match c with | 0 => rfl | 1 => rfl | 2 => rfl | 3 => rfl | 4 => rfl | 5 => rfl | 6 => rfl | 7 => rfl | 8 => rfl | 9 => rfl | 10 => rfl | 11 => rfl | 12 => rfl | 13 => rfl | 14 => rfl | 15 => rfl | 16 => rfl | 17 => rfl | 18 => rfl | 19 => rfl | 20 => rfl | 21 => rfl | 22 => rfl | 23 => rfl | 24 => rfl | 25 => rfl | 26 => rfl | 27 => rfl | 28 => rfl | 29 => rfl | 30 => rfl | 31 => rfl | 32 => rfl | 33 => rfl | 34 => rfl | 35 => rfl | 36 => rfl | 37 => rfl | 38 => rfl | 39 => rfl | 40 => rfl | 41 => rfl | 42 => rfl | 43 => rfl | 44 => rfl | 45 => rfl | 46 => rfl | 47 => rfl | 48 => rfl | 49 => rfl | 50 => rfl | 51 => rfl | _ + 52 => rfl⟩
def kl_0 : Int -> List Int := TV.kl 0
def kl_9 : z6 -> List Int := TV.kl 9
def cmpI (a b : Int) : Int := if a < b then -1 else if b < a then 1 else 0
def or2 (a b : Int) : Int := if a ≠ 0 then a else b
def zj0 (a b : Part) : Int := or2 (cmpI a.kind b.kind) (cmpI a.serial b.serial)
def zn5 (l : List Part) : Option (List Part) := zmb (fun _ => true) zj0 l
def z6q (φ : Nat) (x1 : Int) (x2 : Bool) : Option (Part × Unit) := (some ((⟨2, x1, x2⟩ : Part), ()))
def zdp (φ : Nat) : Fsp TV := ⟨[0, 1], [.val 2], fun z => z6q φ z.1 z.2.1⟩
def za8 (φ : Nat) (x1 : Int) (x2 : Int) (x3 : Int) (x4 : Part) : Option (z1 × Unit) := (some ((⟨(⟨0, x1⟩ : Ref), (⟨0, 0⟩ : Ref), 0, (⟨9, (⟨0, 0⟩ : Ref), x2, 2, 0, 0, W (x3 - 10), x3, 2, 0, 0, 0, 0, (⟨#[]⟩ : ByteArray), [x4]⟩ : Item)⟩ : z1), ()))
def zb6 (φ : Nat) : Fsp TV := ⟨[0, 0, 0, 2], [.val 7], fun z => za8 φ z.1 z.2.1 z.2.2.1 z.2.2.2.1⟩
def z2b (φ : Nat) (k10 : (Int -> Int -> (z1 -> z1 -> Option Int) -> Int -> (List z1) -> Option (List z1))) : Nat -> Int -> Int -> (z1 -> z1 -> Option Int) -> Int -> Int -> (List z1) -> Option (List z1)
 | 0, _, _, _, _, _, _ => none
 | n17 + 1, x11, x12, x13, x14, x15, x16 => (ck (((decide ((x11 : Int) < x15)) = true) -> (0 : Int) <= x15 /\ x15 < (x16.length : Int)) (ck (((decide ((x11 : Int) < x15)) = true) -> (0 : Int) <= (W (x15 - 1)) /\ (W (x15 - 1)) < (x16.length : Int)) ((zx (0 : Int) ((decide ((x11 : Int) < x15)) = true) (x13 (gt x16 x15) (gt x16 (W (x15 - 1))))).bind fun y18 => (if ((decide ((x11 : Int) < x15)) && (decide ((y18 : Int) < 0))) = true then (ck ((0 : Int) <= (W (x15 - 1)) /\ (W (x15 - 1)) < (x16.length : Int)) (ck ((0 : Int) <= x15 /\ x15 < (x16.length : Int)) (ck ((0 : Int) <= x15 /\ x15 < (x16.length : Int)) (ck ((0 : Int) <= (W (x15 - 1)) /\ (W (x15 - 1)) < (((z0l x16 x15 (gt x16 (W (x15 - 1))))).length : Int)) ((z2b φ k10 n17) x11 x12 x13 x14 (W (x15 - 1)) ((z0l ((z0l x16 x15 (gt x16 (W (x15 - 1))))) (W (x15 - 1)) (gt x16 x15)))))))) else (k10 x11 x12 x13 (W (x14 + 1)) x16)))))
def z2a (φ : Nat) : Nat -> Int -> Int -> (z1 -> z1 -> Option Int) -> Int -> (List z1) -> Option (List z1)
 | 0, _, _, _, _, _ => none
 | n10 + 1, x5, x6, x7, x8, x9 => (if (decide ((x8 : Int) < x6)) = true then (z2b φ (z2a φ n10) φ x5 x6 x7 x8 x8 x9) else (some x9))
def z4d (φ : Nat) (x1 : (List z1)) (x2 : Int) (x3 : Int) (x4 : (z1 -> z1 -> Option Int)) : Option (List z1) := (z2a φ φ x2 x3 x4 (W (x2 + 1)) x1)
def z37 (φ : Nat) : Msp TV := ⟨57, 7, [.val 0, .val 0, .cmp 7], fun l z => z4d φ l z.1 z.2.1 z.2.2.1⟩
def z4a (φ : Nat) : Nat -> Int -> Int -> Int -> Int -> (List z1) -> Option (List z1)
 | 0, _, _, _, _, _ => none
 | n11 + 1, x6, x7, x8, x9, x10 => (if (decide ((x9 : Int) < x8)) = true then (ck ((0 : Int) <= (W (x7 + x9)) /\ (W (x7 + x9)) < (x10.length : Int)) (ck ((0 : Int) <= (W (x6 + x9)) /\ (W (x6 + x9)) < (x10.length : Int)) (ck ((0 : Int) <= (W (x6 + x9)) /\ (W (x6 + x9)) < (x10.length : Int)) (ck ((0 : Int) <= (W (x7 + x9)) /\ (W (x7 + x9)) < (((z0l x10 (W (x6 + x9)) (gt x10 (W (x7 + x9))))).length : Int)) ((z4a φ n11) x6 x7 x8 (W (x9 + 1)) ((z0l ((z0l x10 (W (x6 + x9)) (gt x10 (W (x7 + x9))))) (W (x7 + x9)) (gt x10 (W (x6 + x9)))))))))) else (some x10))
def z3v (φ : Nat) (x1 : (List z1)) (x2 : Int) (x3 : Int) (x4 : Int) (x5 : (z1 -> z1 -> Option Int)) : Option (List z1) := (z4a φ φ x2 x3 x4 0 x1)
def z5b (φ : Nat) : Msp TV := ⟨57, 7, [.val 0, .val 0, .val 0, .cmp 7], fun l z => z3v φ l z.1 z.2.1 z.2.2.1 z.2.2.2.1⟩
def z36 (φ : Nat) : Nat -> Int -> (z1 -> z1 -> Option Int) -> Int -> Int -> (List z1) -> Option (List z1)
 | 0, _, _, _, _, _ => none
 | n11 + 1, x6, x7, x8, x9, x10 => (if ((x8 : Int) != x9) = true then (if (decide ((x9 : Int) < x8)) = true then ((z3v φ x10 (W (x6 - x8)) x6 x9 x7).bind fun y12 => ((z36 φ n11) x6 x7 (W (x8 - x9)) x9 y12)) else ((z3v φ x10 (W (x6 - x8)) ((W ((W (x6 + x9)) - x8))) x8 x7).bind fun y13 => ((z36 φ n11) x6 x7 x8 (W (x9 - x8)) y13))) else ((z3v φ x10 (W (x6 - x8)) x6 x8 x7).bind fun y14 => (some y14)))
def zbl (φ : Nat) (x1 : (List z1)) (x2 : Int) (x3 : Int) (x4 : Int) (x5 : (z1 -> z1 -> Option Int)) : Option (List z1) := (z36 φ φ x3 x5 (W (x3 - x2)) (W (x4 - x3)) x1)
def z64 (φ : Nat) : Msp TV := ⟨57, 7, [.val 0, .val 0, .val 0, .cmp 7], fun l z => zbl φ l z.1 z.2.1 z.2.2.1 z.2.2.2.1⟩
def z4i (φ : Nat) : Nat -> Int -> Int -> (List z1) -> Option (List z1)
 | 0, _, _, _ => none
 | n16 + 1, x13, x14, x15 => (if (decide ((x14 : Int) < (W (x13 - 1)))) = true then (ck ((0 : Int) <= (W (x14 + 1)) /\ (W (x14 + 1)) < (x15.length : Int)) (ck ((0 : Int) <= x14 /\ x14 < (x15.length : Int)) (ck ((0 : Int) <= x14 /\ x14 < (x15.length : Int)) (ck ((0 : Int) <= (W (x14 + 1)) /\ (W (x14 + 1)) < (((z0l x15 x14 (gt x15 (W (x14 + 1))))).length : Int)) ((z4i φ n16) x13 (W (x14 + 1)) ((z0l ((z0l x15 x14 (gt x15 (W (x14 + 1))))) (W (x14 + 1)) (gt x15 x14)))))))) else (some x15))
def z1t (φ : Nat) : Nat -> Int -> (z1 -> z1 -> Option Int) -> Int -> Int -> (List z1) -> Option (List z1)
 | 0, _, _, _, _, _ => none
 | n11 + 1, x6, x7, x8, x9, x10 => (if (decide ((x8 : Int) < x9)) = true then (if 0 <= (1 : Int) then (ck ((0 : Int) <= (W ((((U ((W (x8 + x9)))) : Int).fdiv (2 ^ (min (1 : Int).toNat 64))))) /\ (W ((((U ((W (x8 + x9)))) : Int).fdiv (2 ^ (min (1 : Int).toNat 64))))) < (x10.length : Int)) (ck ((0 : Int) <= x6 /\ x6 < (x10.length : Int)) ((x7 (((gt x10 ((W ((((U ((W (x8 + x9)))) : Int).fdiv (2 ^ (min (1 : Int).toNat 64))))))))) (gt x10 x6)).bind fun y12 => (if (decide ((y12 : Int) < 0)) = true then ((z1t φ n11) x6 x7 ((W ((W ((((U ((W (x8 + x9)))) : Int).fdiv (2 ^ (min (1 : Int).toNat 64))))) + 1))) x9 x10) else ((z1t φ n11) x6 x7 x8 ((W ((((U ((W (x8 + x9)))) : Int).fdiv (2 ^ (min (1 : Int).toNat 64)))))) x10))))) else none) else (z4i φ φ x8 x6 x10))
def z4m (φ : Nat) : Nat -> Int -> Int -> (List z1) -> Option (List z1)
 | 0, _, _, _ => none
 | n27 + 1, x24, x25, x26 => (if (decide ((x24 : Int) < x25)) = true then (ck ((0 : Int) <= (W (x25 - 1)) /\ (W (x25 - 1)) < (x26.length : Int)) (ck ((0 : Int) <= x25 /\ x25 < (x26.length : Int)) (ck ((0 : Int) <= x25 /\ x25 < (x26.length : Int)) (ck ((0 : Int) <= (W (x25 - 1)) /\ (W (x25 - 1)) < (((z0l x26 x25 (gt x26 (W (x25 - 1))))).length : Int)) ((z4m φ n27) x24 (W (x25 - 1)) ((z0l ((z0l x26 x25 (gt x26 (W (x25 - 1))))) (W (x25 - 1)) (gt x26 x25)))))))) else (some x26))
def z1s (φ : Nat) : Nat -> Int -> (z1 -> z1 -> Option Int) -> Int -> Int -> (List z1) -> Option (List z1)
 | 0, _, _, _, _, _ => none
 | n22 + 1, x17, x18, x19, x20, x21 => (if (decide ((x19 : Int) < x20)) = true then (if 0 <= (1 : Int) then (ck ((0 : Int) <= x17 /\ x17 < (x21.length : Int)) (ck ((0 : Int) <= (W ((((U ((W (x19 + x20)))) : Int).fdiv (2 ^ (min (1 : Int).toNat 64))))) /\ (W ((((U ((W (x19 + x20)))) : Int).fdiv (2 ^ (min (1 : Int).toNat 64))))) < (x21.length : Int)) ((x18 (gt x21 x17) (((gt x21 ((W ((((U ((W (x19 + x20)))) : Int).fdiv (2 ^ (min (1 : Int).toNat 64)))))))))).bind fun y23 => (if (!(decide ((y23 : Int) < 0))) = true then ((z1s φ n22) x17 x18 ((W ((W ((((U ((W (x19 + x20)))) : Int).fdiv (2 ^ (min (1 : Int).toNat 64))))) + 1))) x20 x21) else ((z1s φ n22) x17 x18 x19 ((W ((((U ((W (x19 + x20)))) : Int).fdiv (2 ^ (min (1 : Int).toNat 64)))))) x21))))) else none) else (z4m φ φ x19 x17 x21))
def z4g (φ : Nat) (k0 : ((List z1) -> Int -> Int -> Int -> (z1 -> z1 -> Option Int) -> Option (List z1))) (x58 : Int) (x59 : (z1 -> z1 -> Option Int)) (x60 : Int) (x61 : Int) (x62 : (List z1)) : Option (List z1) := (if ((decide ((x60 : Int) < x61)) && (decide ((x61 : Int) < x58))) = true then ((k0 x62 x60 x61 x58 x59).bind fun y64 => (some y64)) else (some x62))
def z4j (φ : Nat) (k0 : ((List z1) -> Int -> Int -> Int -> (z1 -> z1 -> Option Int) -> Option (List z1))) (x50 : Int) (x51 : Int) (x52 : (z1 -> z1 -> Option Int)) (x53 : Int) (x54 : Int) (x55 : Int) (x56 : (List z1)) : Option (List z1) := (if ((decide ((x50 : Int) < x54)) && (decide ((x54 : Int) < x53))) = true then ((k0 x56 x50 x54 x53 x52).bind fun y65 => (z4g φ k0 x51 x52 x53 x55 y65)) else (z4g φ k0 x51 x52 x53 x55 x56))
def z1u (φ : Nat) (k0 : ((List z1) -> Int -> Int -> Int -> (z1 -> z1 -> Option Int) -> Option (List z1))) : Nat -> Int -> Int -> Int -> (z1 -> z1 -> Option Int) -> Int -> Int -> Int -> Int -> Int -> (List z1) -> Option (List z1)
 | 0, _, _, _, _, _, _, _, _, _, _ => none
 | n48 + 1, x38, x39, x40, x41, x42, x43, x44, x45, x46, x47 => (if (decide ((x44 : Int) < x45)) = true then (if 0 <= (1 : Int) then (ck ((0 : Int) <= (W (x46 - (W ((((U ((W (x44 + x45)))) : Int).fdiv (2 ^ (min (1 : Int).toNat 64))))))) /\ (W (x46 - (W ((((U ((W (x44 + x45)))) : Int).fdiv (2 ^ (min (1 : Int).toNat 64))))))) < (x47.length : Int)) (ck ((0 : Int) <= (W ((((U ((W (x44 + x45)))) : Int).fdiv (2 ^ (min (1 : Int).toNat 64))))) /\ (W ((((U ((W (x44 + x45)))) : Int).fdiv (2 ^ (min (1 : Int).toNat 64))))) < (x47.length : Int)) ((x41 (((gt x47 ((W (x46 - (W ((((U ((W (x44 + x45)))) : Int).fdiv (2 ^ (min (1 : Int).toNat 64))))))))))) (((gt x47 ((W ((((U ((W (x44 + x45)))) : Int).fdiv (2 ^ (min (1 : Int).toNat 64)))))))))).bind fun y49 => (if (!(decide ((y49 : Int) < 0))) = true then ((z1u φ k0 n48) x38 x39 x40 x41 x42 x43 ((W ((W ((((U ((W (x44 + x45)))) : Int).fdiv (2 ^ (min (1 : Int).toNat 64))))) + 1))) x45 x46 x47) else ((z1u φ k0 n48) x38 x39 x40 x41 x42 x43 x44 ((W ((((U ((W (x44 + x45)))) : Int).fdiv (2 ^ (min (1 : Int).toNat 64)))))) x46 x47))))) else none) else (if ((decide ((x44 : Int) < x39)) && (decide ((x39 : Int) < (W (x43 - x44))))) = true then ((zbl φ x47 x44 x39 (W (x43 - x44)) x41).bind fun y66 => (z4j φ k0 x38 x40 x41 x42 x44 (W (x43 - x44)) y66)) else (z4j φ k0 x38 x40 x41 x42 x44 (W (x43 - x44)) x47)))
def z4l (φ : Nat) (k0 : ((List z1) -> Int -> Int -> Int -> (z1 -> z1 -> Option Int) -> Option (List z1))) (x28 : Int) (x29 : Int) (x30 : Int) (x31 : (z1 -> z1 -> Option Int)) (x32 : Int) (x33 : Int) (x34 : Int) (x35 : Int) (x36 : (List z1)) : Option (List z1) := (z1u φ k0 φ x28 x29 x30 x31 x32 x33 x34 x35 (W (x33 - 1)) x36)
def zq (φ : Nat) : Nat -> (List z1) -> Int -> Int -> Int -> (z1 -> z1 -> Option Int) -> Option (List z1)
 | 0, _, _, _, _, _ => none
 | d + 1, x1, x2, x3, x4, x5 => (if (((W (x3 - x2)) : Int) == 1) = true then (z1t φ φ x2 x5 x3 x4 x1) else (if (((W (x4 - x3)) : Int) == 1) = true then (z1s φ φ x3 x5 x2 x3 x1) else (if 0 <= (1 : Int) then (if (decide (((W ((((U ((W (x2 + x4)))) : Int).fdiv (2 ^ (min (1 : Int).toNat 64))))) : Int) < x3)) = true then (z4l φ (zq φ d) x2 x3 x4 x5 ((W ((((U ((W (x2 + x4)))) : Int).fdiv (2 ^ (min (1 : Int).toNat 64)))))) ((W ((W ((((U ((W (x2 + x4)))) : Int).fdiv (2 ^ (min (1 : Int).toNat 64))))) + x3))) ((W ((W ((W ((((U ((W (x2 + x4)))) : Int).fdiv (2 ^ (min (1 : Int).toNat 64))))) + x3)) - x4))) ((W ((((U ((W (x2 + x4)))) : Int).fdiv (2 ^ (min (1 : Int).toNat 64)))))) x1) else (z4l φ (zq φ d) x2 x3 x4 x5 ((W ((((U ((W (x2 + x4)))) : Int).fdiv (2 ^ (min (1 : Int).toNat 64)))))) ((W ((W ((((U ((W (x2 + x4)))) : Int).fdiv (2 ^ (min (1 : Int).toNat 64))))) + x3))) x2 x3 x1)) else none)))
def z30 (φ d : Nat) : Msp TV := ⟨57, 7, [.val 0, .val 0, .val 0, .cmp 7], fun l z => zq φ d l z.1 z.2.1 z.2.2.1 z.2.2.2.1⟩
def z5q (φ : Nat) (k17 : (Int -> (z1 -> z1 -> Option Int) -> Int -> (List z1) -> Option (List z1))) : Nat -> Int -> (z1 -> z1 -> Option Int) -> Int -> Int -> Int -> (List z1) -> Option (List z1)
 | 0, _, _, _, _, _, _ => none
 | n24 + 1, x18, x19, x20, x21, x22, x23 => (if (decide ((x22 : Int) <= x18)) = true then ((zq φ φ x23 x21 (W (x21 + x20)) x22 x19).bind fun y25 => ((z5q φ k17 n24) x18 x19 x20 x22 ((W (x22 + (W (2 * x20))))) y25)) else (if (decide (((W (x21 + x20)) : Int) < x18)) = true then ((zq φ φ x23 x21 (W (x21 + x20)) x18 x19).bind fun y26 => (k17 x18 x19 (W (x20 * 2)) y26)) else (k17 x18 x19 (W (x20 * 2)) x23)))
def z5n (φ : Nat) : Nat -> Int -> (z1 -> z1 -> Option Int) -> Int -> (List z1) -> Option (List z1)
 | 0, _, _, _, _ => none
 | n17 + 1, x13, x14, x15, x16 => (if (decide ((x15 : Int) < x13)) = true then (z5q φ (z5n φ n17) φ x13 x14 x15 0 (W (2 * x15)) x16) else (some x16))
def z5m (φ : Nat) : Nat -> Int -> (z1 -> z1 -> Option Int) -> Int -> Int -> Int -> (List z1) -> Option (List z1)
 | 0, _, _, _, _, _, _ => none
 | n10 + 1, x4, x5, x6, x7, x8, x9 => (if (decide ((x8 : Int) <= x4)) = true then ((z4d φ x9 x7 x8 x5).bind fun y11 => ((z5m φ n10) x4 x5 x6 x8 (W (x8 + x6)) y11)) else ((z4d φ x9 x7 x4 x5).bind fun y12 => (z5n φ φ x4 x5 x6 y12)))
def zbm (φ : Nat) (x1 : (List z1)) (x2 : Int) (x3 : (z1 -> z1 -> Option Int)) : Option (List z1) := (z5m φ φ x2 x3 20 0 20 x1)
def z65 (φ : Nat) : Msp TV := ⟨57, 7, [.val 0, .cmp 7], fun l z => zbm φ l z.1 z.2.1⟩
def z58 (φ : Nat) (x1 : (List z1)) (x2 : (z1 -> z1 -> Option Int)) : Option (List z1) := ((zbm φ x1 (x1.length : Int) x2).bind fun y3 => (some y3))
def z3p (φ : Nat) : Msp TV := ⟨57, 7, [.cmp 7], fun l z => z58 φ l z.1⟩
def z1g (φ : Nat) (x1 : Int) (x2 : Int) : Option (Int × Unit) := (if ((x1 : Int) != x1) = true then (if ((x2 : Int) != x2) = true then (some (0, ())) else (some ((-1), ()))) else (if ((x2 : Int) != x2) = true then (some (1, ())) else (if (decide ((x1 : Int) < x2)) = true then (some ((-1), ())) else (if (decide ((x2 : Int) < x1)) = true then (some (1, ())) else (some (0, ()))))))
def z3n (φ : Nat) : Fsp TV := ⟨[0, 0], [.val 0], fun z => z1g φ z.1 z.2.1⟩
def zae (φ : Nat) : Nat -> Int -> (List Int) -> Int -> Int -> Option (Int × Unit)
 | 0, _, _, _, _ => none
 | n6 + 1, x2, x3, x4, x5 => (if (decide ((x5 : Int) < x4)) = true then (ck ((0 : Int) <= x5 /\ x5 < (x3.length : Int)) (if (((gt x3 x5) : Int) != x2) = true then (some ((gt x3 x5), ())) else ((zae φ n6) x2 x3 x4 (W (x5 + 1))))) else (some (x2, ())))
def zfs (φ : Nat) (x1 : (List Int)) : Option (Int × Unit) := (zae φ φ 0 x1 (x1.length : Int) 0)
def zbr (φ : Nat) : Fsp TV := ⟨[8], [.val 0], fun z => zfs φ z.1⟩
def z6i (φ : Nat) (x1 : z1) (x2 : z1) : Option (Int × Unit) := ((z1g φ x1.ref.railway x2.ref.railway).bind fun y3 => ((z1g φ x1.ref.no x2.ref.no).bind fun y4 => ((zfs φ ([y3.1, y4.1])).bind fun y5 => (some (y5.1, ())))))
def za3 (φ : Nat) : Fsp TV := ⟨[7, 7], [.val 0], fun z => z6i φ z.1 z.2.1⟩
def zep (φ : Nat) (x1 : z1) (x2 : z1) : Option (Int × Unit) := ((z1g φ x1.item.to x2.item.to).bind fun y3 => ((z6i φ x1 x2).bind fun y4 => ((zfs φ ([y3.1, y4.1])).bind fun y5 => (some (y5.1, ())))))
def z85 (φ : Nat) : Fsp TV := ⟨[7, 7], [.val 0], fun z => zep φ z.1 z.2.1⟩
def zcj (φ : Nat) (x1 : Part) : Option (z6 × Unit) := (some ((⟨x1.kind, x1.serial⟩ : z6), ()))
def z9p (φ : Nat) : Fsp TV := ⟨[2], [.val 9], fun z => zcj φ z.1⟩
def z27 (φ : Nat) (k14 : (Int -> Int -> (List (z6 × (List (Int × Bool)))) -> (List z1) -> Option ((List (z6 × (List (Int × Bool)))) × Unit))) : Nat -> Int -> Int -> (List Part) -> Int -> Int -> (List (z6 × (List (Int × Bool)))) -> z1 -> (List z1) -> Option ((List (z6 × (List (Int × Bool)))) × Unit)
 | 0, _, _, _, _, _, _, _, _ => none
 | n23 + 1, x15, x16, x17, x18, x19, x20, x21, x22 => (if (decide ((x19 : Int) < x18)) = true then (ck ((0 : Int) <= x19 /\ x19 < (x17.length : Int)) ((zcj φ (gt x17 x19)).bind fun y24 => (if (!(gt x17 x19).fitted) = true then (match cget kl_9 x20 y24.1 with | some x25 => (ck (kl_9 y24.1 = kl_9 y24.1) ((z27 φ k14 n23) x15 x16 x17 x18 (W (x19 + 1)) (cset kl_9 x20 y24.1 (cdel kl_0 x25 x21.item.wagon)) x21 x22)) | none => (ck ((cget kl_9 x20 y24.1).isNone = true) ((z27 φ k14 n23) x15 x16 x17 x18 (W (x19 + 1)) x20 x21 x22))) else (match cget kl_9 x20 y24.1 with | some x26 => (ck (kl_9 y24.1 = kl_9 y24.1) (ck (kl_9 y24.1 = kl_9 y24.1) ((z27 φ k14 n23) x15 x16 x17 x18 (W (x19 + 1)) (cset kl_9 x20 y24.1 (cset kl_0 x26 x21.item.wagon true)) x21 x22))) | none => (ck ((cget kl_9 x20 y24.1).isNone = true) (ck (kl_9 y24.1 = kl_9 y24.1) ((z27 φ k14 n23) x15 x16 x17 x18 (W (x19 + 1)) ((cset kl_9 ((cset kl_9 x20 y24.1 (default : (List (Int × Bool))))) y24.1 ((cset kl_0 ([] : (List (Int × Bool))) x21.item.wagon true)))) x21 x22))))))) else (k14 x15 (W (x16 + 1)) x20 x22))
def z81 (φ : Nat) : Nat -> Int -> Int -> (List (z6 × (List (Int × Bool)))) -> (List z1) -> Option ((List (z6 × (List (Int × Bool)))) × Unit)
 | 0, _, _, _, _ => none
 | n14 + 1, x10, x11, x12, x13 => (if (decide ((x11 : Int) < x10)) = true then (ck ((0 : Int) <= x11 /\ x11 < (x13.length : Int)) (z27 φ (z81 φ n14) φ x10 x11 (((gt x13 x11).item).parts) (((((gt x13 x11).item).parts).length : Int)) 0 x12 (gt x13 x11) x13)) else (some (x12, ())))
def z6e (φ : Nat) : Nat -> Int -> (List z1) -> Int -> Int -> (List z1) -> Option ((List (z6 × (List (Int × Bool)))) × Unit)
 | 0, _, _, _, _, _ => none
 | n8 + 1, x3, x4, x5, x6, x7 => (if (decide ((x6 : Int) < x5)) = true then (ck ((0 : Int) <= x6 /\ x6 < (x4.length : Int)) (if (((((gt x4 x6).item).kind : Int) == 9) && (decide ((((gt x4 x6).item).to : Int) <= x3))) = true then (ck (fits (x7.length + ([(gt x4 x6)]).length) 192) ((z6e φ n8) x3 x4 x5 (W (x6 + 1)) (x7 ++ [(gt x4 x6)]))) else ((z6e φ n8) x3 x4 x5 (W (x6 + 1)) x7))) else ((z58 φ x7 (fun a b => (zep φ a b).bind fun r => (some r.1))).bind fun y9 => (z81 φ φ (y9.length : Int) 0 (([] : (List (z6 × (List (Int × Bool)))))) y9)))
def z98 (φ : Nat) (x1 : (List z1)) (x2 : Int) : Option ((List (z6 × (List (Int × Bool)))) × Unit) := (z6e φ φ x2 x1 (x1.length : Int) 0 ([] : List z1))
def z5s (φ : Nat) : Fsp TV := ⟨[10, 0], [.val 12], fun z => z98 φ z.1 z.2.1⟩
def z08 (φ : Nat) (x1 : z6) : Option (Part × Unit) := (some ((⟨x1.kind, x1.serial, true⟩ : Part), ()))
def z3s (φ : Nat) : Fsp TV := ⟨[9], [.val 2], fun z => z08 φ z.1⟩
def z83 (φ : Nat) : Nat -> (List (Int × Bool)) -> Int -> Int -> (List z6j) -> z6 -> (List Int) -> Option ((List z6j) × Unit)
 | 0, _, _, _, _, _, _ => none
 | n12 + 1, x6, x7, x8, x9, x10, x11 => (if (decide ((x8 : Int) < x7)) = true then (ck ((0 : Int) <= x8 /\ x8 < (x11.length : Int)) ((z08 φ x10).bind fun y13 => (ck (fits (x9.length + ([(⟨y13.1, gt x11 x8, ((x6.length : Int) : Int) == 1⟩ : z6j)]).length) 40) ((z83 φ n12) x6 x7 (W (x8 + 1)) ((x9 ++ [(⟨y13.1, gt x11 x8, ((x6.length : Int) : Int) == 1⟩ : z6j)])) x10 x11)))) else (some (x9, ())))
def z1n (φ : Nat) (x1 : (List z1)) (x2 : Int) (x3 : Int) (x4 : Int) : Option ((List z6j) × Unit) := ((z98 φ x1 x4).bind fun y5 => (ck (soK kl_0 (((cget kl_9 y5.1 (⟨x2, x3⟩ : z6)).getD (default : (List (Int × Bool))))) = true) (z83 φ φ (((cget kl_9 y5.1 (⟨x2, x3⟩ : z6)).getD (default : (List (Int × Bool))))) ((((List.map (fun p : Int × Bool => p.1) (((cget kl_9 y5.1 (⟨x2, x3⟩ : z6)).getD (default : (List (Int × Bool))))))).length : Int)) 0 ([] : List z6j) (⟨x2, x3⟩ : z6) ((List.map (fun p : Int × Bool => p.1) (((cget kl_9 y5.1 (⟨x2, x3⟩ : z6)).getD (default : (List (Int × Bool))))))))))
def za1 (φ : Nat) : Fsp TV := ⟨[10, 0, 0, 0], [.val 14], fun z => z1n φ z.1 z.2.1 z.2.2.1 z.2.2.2.1⟩
def z2g (φ : Nat) (x1 : Int) (x2 : Bool) : Option (z6j × Unit) := ((z6q φ 7 true).bind fun y3 => (some ((⟨y3.1, x1, x2⟩ : z6j), ())))
def zcg (φ : Nat) : Fsp TV := ⟨[0, 1], [.val 13], fun z => z2g φ z.1 z.2.1⟩
def z6p (φ : Nat) : Nat -> (List z6j) -> (List z6j) -> Int -> Option (Bool × Unit)
 | 0, _, _, _ => none
 | n6 + 1, x3, x4, x5 => (if (decide ((x5 : Int) < (x3.length : Int))) = true then (ck ((0 : Int) <= x5 /\ x5 < (x3.length : Int)) (ck ((0 : Int) <= x5 /\ x5 < (x4.length : Int)) (if (!((((((gt x3 x5).part).kind : Int) == ((gt x4 x5).part).kind) && (((((gt x3 x5).part).serial : Int) == ((gt x4 x5).part).serial) && ((((gt x3 x5).part).fitted == ((gt x4 x5).part).fitted) && true))) && ((((gt x3 x5).wagon : Int) == (gt x4 x5).wagon) && (((gt x3 x5).certain == (gt x4 x5).certain) && true)))) = true then (some (false, ())) else ((z6p φ n6) x3 x4 (W (x5 + 1)))))) else (some (true, ())))
def z0j (φ : Nat) (x1 : (List z6j)) (x2 : (List z6j)) : Option (Bool × Unit) := (if (((x1.length : Int) : Int) != (x2.length : Int)) = true then (some (false, ())) else (z6p φ φ x1 x2 0))
def z7a (φ : Nat) : Fsp TV := ⟨[14, 14], [.val 1], fun z => z0j φ z.1 z.2.1⟩
def zcs (φ : Nat) (x1 : Part) (x2 : Part) : Option (Int × Unit) := ((z1g φ x1.kind x2.kind).bind fun y3 => ((z1g φ x1.serial x2.serial).bind fun y4 => ((zfs φ ([y3.1, y4.1])).bind fun y5 => (some (y5.1, ())))))
def z9m (φ : Nat) : Fsp TV := ⟨[2, 2], [.val 0], fun z => zcs φ z.1 z.2.1⟩
def z0b (φ : Nat) (k8 : (Int -> (List Part) -> (List (z6 × (List (Int × Bool)))) -> Option ((List Part) × Unit))) (x9 : Int) (x10 : (List Part)) (x11 : (List (z6 × (List (Int × Bool))))) : Option ((List Part) × Unit) := match x11 with | [] => ((zn5 x10).bind fun y15 => (some (y15, ()))) | e13 :: r14 => (if ((((e13.2.length : Int) : Int) == 1) && ((cget kl_0 e13.2 x9).getD (default : Bool))) = true then ((z08 φ e13.1).bind fun y16 => (ck (fits (x10.length + ([y16.1]).length) 24) (k8 x9 (x10 ++ [y16.1]) r14))) else (k8 x9 x10 r14))
def zp (φ : Nat) : Nat -> Int -> (List Part) -> (List (z6 × (List (Int × Bool)))) -> Option ((List Part) × Unit)
 | 0, _, _, _ => none
 | n8 + 1, x5, x6, x7 => (z0b φ (zp φ n8) x5 x6 x7)
def zw (φ : Nat) (x1 : (List z1)) (x2 : Int) (x3 : Int) : Option ((List Part) × Unit) := ((z98 φ x1 x3).bind fun y4 => (zp φ φ x2 ([] : List Part) y4.1))
def zcu (φ : Nat) : Fsp TV := ⟨[10, 0, 0], [.val 5], fun z => zw φ z.1 z.2.1 z.2.2.1⟩
def z9c (φ : Nat) : Nat -> (List Part) -> (List Part) -> Int -> Option (Bool × Unit)
 | 0, _, _, _ => none
 | n6 + 1, x3, x4, x5 => (if (decide ((x5 : Int) < (x3.length : Int))) = true then (ck ((0 : Int) <= x5 /\ x5 < (x3.length : Int)) (ck ((0 : Int) <= x5 /\ x5 < (x4.length : Int)) (if (!((((gt x3 x5).kind : Int) == (gt x4 x5).kind) && ((((gt x3 x5).serial : Int) == (gt x4 x5).serial) && (((gt x3 x5).fitted == (gt x4 x5).fitted) && true)))) = true then (some (false, ())) else ((z9c φ n6) x3 x4 (W (x5 + 1)))))) else (some (true, ())))
def z1h (φ : Nat) (x1 : (List Part)) (x2 : (List Part)) : Option (Bool × Unit) := (if (((x1.length : Int) : Int) != (x2.length : Int)) = true then (some (false, ())) else (z9c φ φ x1 x2 0))
def z9j (φ : Nat) : Fsp TV := ⟨[5, 5], [.val 1], fun z => z1h φ z.1 z.2.1⟩
def z00 (φ : Nat) (x1 : Int) (x2 : Int) (x3 : Int) : Option (z1 × Unit) := (some ((⟨(⟨1, 9⟩ : Ref), (⟨0, 0⟩ : Ref), x1, (⟨10, (⟨0, 0⟩ : Ref), 0, 0, 4, 0, 0, 0, 0, 0, 0, 0, 0, (⟨#[]⟩ : ByteArray), [(⟨x2, x3, false⟩ : Part)]⟩ : Item)⟩ : z1), ()))
def ze2 (φ : Nat) : Fsp TV := ⟨[0, 0, 0], [.val 7], fun z => z00 φ z.1 z.2.1 z.2.2.1⟩
def z2z (φ : Nat) (k20 : (Int -> (List (z6 × (List (Int × Bool)))) -> (List z1) -> Int -> Int -> (List Part) -> Int -> Int -> (List (Int × Bool)) -> Option ((List Int) × Unit))) (k32 : (Int -> (List (z6 × (List (Int × Bool)))) -> (List z1) -> Int -> Int -> (List Part) -> Int -> Int -> (List (Int × Bool)) -> (List (Int × Bool)) -> Option ((List Int) × Unit))) (x33 : Int) (x34 : (List (z6 × (List (Int × Bool))))) (x35 : (List z1)) (x36 : Int) (x37 : Int) (x38 : (List Part)) (x39 : Int) (x40 : Int) (x41 : (List (Int × Bool))) (x42 : (List (Int × Bool))) : Option ((List Int) × Unit) := match x42 with | [] => (k20 x33 x34 x35 x36 x37 x38 x39 (W (x40 + 1)) x41) | e44 :: r45 => (k32 x33 x34 x35 x36 x37 x38 x39 x40 (cset kl_0 x41 e44.1 e44.2) r45)
def z05 (φ : Nat) (k20 : (Int -> (List (z6 × (List (Int × Bool)))) -> (List z1) -> Int -> Int -> (List Part) -> Int -> Int -> (List (Int × Bool)) -> Option ((List Int) × Unit))) : Nat -> Int -> (List (z6 × (List (Int × Bool)))) -> (List z1) -> Int -> Int -> (List Part) -> Int -> Int -> (List (Int × Bool)) -> (List (Int × Bool)) -> Option ((List Int) × Unit)
 | 0, _, _, _, _, _, _, _, _, _, _ => none
 | n32 + 1, x22, x23, x24, x25, x26, x27, x28, x29, x30, x31 => (z2z φ k20 (z05 φ k20 n32) x22 x23 x24 x25 x26 x27 x28 x29 x30 x31)
def z8u (φ : Nat) (k10 : (Int -> (List (z6 × (List (Int × Bool)))) -> (List z1) -> Int -> Int -> (List (Int × Bool)) -> Option ((List Int) × Unit))) : Nat -> Int -> (List (z6 × (List (Int × Bool)))) -> (List z1) -> Int -> Int -> (List Part) -> Int -> Int -> (List (Int × Bool)) -> Option ((List Int) × Unit)
 | 0, _, _, _, _, _, _, _, _, _ => none
 | n20 + 1, x11, x12, x13, x14, x15, x16, x17, x18, x19 => (if (decide ((x18 : Int) < x17)) = true then (ck ((0 : Int) <= x18 /\ x18 < (x16.length : Int)) ((zcj φ (gt x16 x18)).bind fun y21 => (z05 φ (z8u φ k10 n20) φ x11 x12 x13 x14 x15 x16 x17 x18 x19 (((cget kl_9 x12 y21.1).getD (default : (List (Int × Bool)))))))) else (k10 x11 x12 x13 x14 (W (x15 + 1)) x19))
def z6f (φ : Nat) : Nat -> Int -> (List (z6 × (List (Int × Bool)))) -> (List z1) -> Int -> Int -> (List (Int × Bool)) -> Option ((List Int) × Unit)
 | 0, _, _, _, _, _, _ => none
 | n10 + 1, x4, x5, x6, x7, x8, x9 => (if (decide ((x8 : Int) < x7)) = true then (ck ((0 : Int) <= x8 /\ x8 < (x6.length : Int)) (if (((((gt x6 x8).item).kind : Int) != 10) || (decide ((x4 : Int) < (gt x6 x8).time))) = true then ((z6f φ n10) x4 x5 x6 x7 (W (x8 + 1)) x9) else (z8u φ (z6f φ n10) φ x4 x5 x6 x7 x8 (((gt x6 x8).item).parts) (((((gt x6 x8).item).parts).length : Int)) 0 x9))) else (ck (soK kl_0 x9 = true) (some ((List.map (fun p : Int × Bool => p.1) x9), ()))))
def zn (φ : Nat) (x1 : (List z1)) (x2 : Int) : Option ((List Int) × Unit) := ((z98 φ x1 x2).bind fun y3 => (z6f φ φ x2 y3.1 x1 (x1.length : Int) 0 ([] : (List (Int × Bool)))))
def zb3 (φ : Nat) : Fsp TV := ⟨[10, 0], [.val 8], fun z => zn φ z.1 z.2.1⟩
def z9q (φ : Nat) : Nat -> (List Int) -> (List Int) -> Int -> Option (Bool × Unit)
 | 0, _, _, _ => none
 | n6 + 1, x3, x4, x5 => (if (decide ((x5 : Int) < (x3.length : Int))) = true then (ck ((0 : Int) <= x5 /\ x5 < (x3.length : Int)) (ck ((0 : Int) <= x5 /\ x5 < (x4.length : Int)) (if (((gt x3 x5) : Int) != (gt x4 x5)) = true then (some (false, ())) else ((z9q φ n6) x3 x4 (W (x5 + 1)))))) else (some (true, ())))
def z2i (φ : Nat) (x1 : (List Int)) (x2 : (List Int)) : Option (Bool × Unit) := (if (((x1.length : Int) : Int) != (x2.length : Int)) = true then (some (false, ())) else (z9q φ φ x1 x2 0))
def zbk (φ : Nat) : Fsp TV := ⟨[8, 8], [.val 1], fun z => z2i φ z.1 z.2.1⟩
def ze1 (φ : Nat) : Nat -> Int -> (List z7b) -> (List Edge) -> (List z1x) -> (List zi6) -> (List Swap) -> (List Wash) -> (List zfq) -> (List zba) -> (List z15) -> (List z7b) -> (List Edge) -> (List z1x) -> (List zi6) -> (List Swap) -> (List Wash) -> (List zfq) -> (List zba) -> (List z15) -> Option (Pool × Unit)
 | 0, _, _, _, _, _, _, _, _, _, _, _, _, _, _, _, _, _, _, _ => none
 | n20 + 1, x1, x2, x3, x4, x5, x6, x7, x8, x9, x10, x11, x12, x13, x14, x15, x16, x17, x18, x19 => (if (decide ((x1 : Int) < 6)) = true then (ck (fits (x14.length + ([(⟨0, 2, 0, 0, 0⟩ : zi6)]).length) 40) ((ze1 φ n20) (W (x1 + 1)) x2 x3 x4 x5 x6 x7 x8 x9 x10 x11 x12 x13 (x14 ++ [(⟨0, 2, 0, 0, 0⟩ : zi6)]) x15 x16 x17 x18 x19)) else (some ((⟨(⟨x11, x12⟩ : zbd), (⟨x13, x14, x15, x16⟩ : zek), x17, x18, [(⟨4, (⟨fun _ => (default : Span), ([] : List Int)⟩ : z93)⟩ : z15), (⟨16, (⟨fun _ => (default : Span), ([] : List Int)⟩ : z93)⟩ : z15)]⟩ : Pool), ())))
def zt (φ : Nat) : Option (Pool × Unit) := (ze1 φ φ 0 ([] : List z7b) ([] : List Edge) ([] : List z1x) ([] : List zi6) ([] : List Swap) ([] : List Wash) ([] : List zfq) ([] : List zba) ([] : List z15) ([(⟨2, 0, -1⟩ : z7b), (⟨2, 0, -1⟩ : z7b), (⟨5, 0, -1⟩ : z7b)]) ([] : List Edge) ([(⟨0, 0, 0, 0, 0, 0, 1, 0⟩ : z1x)]) ([] : List zi6) ([] : List Swap) ([] : List Wash) ([] : List zfq) ([] : List zba) ([] : List z15))
def zh0 (φ : Nat) : Fsp TV := ⟨[], [.val 39], fun z => zt φ⟩
def zbv (φ : Nat) (x1 : z7b) : Option (Bool × Unit) := (if ((((decide ((x1.kind : Int) < 1)) || (decide ((5 : Int) < x1.kind))) || (decide ((x1.railway : Int) < 0))) || (decide ((16 : Int) <= x1.railway))) = true then (some (false, ())) else (if ((x1.kind : Int) != 3) = true then (some (((x1.other : Int) == (-1)), ())) else (some ((((decide ((0 : Int) <= x1.other)) && (decide ((x1.other : Int) < 16))) && ((x1.other : Int) != x1.railway)), ()))))
def zcw (φ : Nat) : Fsp TV := ⟨[15], [.val 1], fun z => zbv φ z.1⟩
def z20 (φ : Nat) : Nat -> Int -> (List Edge) -> Int -> Int -> Option (Int × Unit)
 | 0, _, _, _, _ => none
 | n13 + 1, x9, x10, x11, x12 => (if (decide ((x12 : Int) < x11)) = true then (ck ((0 : Int) <= x12 /\ x12 < (x10.length : Int)) (if (((((((decide (((min2 ((min2 (min2 ((gt x10 x12).a) ((gt x10 x12).b)) ((gt x10 x12).railway))) ((gt x10 x12).km)) : Int) < 0)) || (decide ((x9 : Int) <= (max2 ((gt x10 x12).a) ((gt x10 x12).b))))) || (((gt x10 x12).a : Int) == (gt x10 x12).b)) || (decide ((16 : Int) <= (gt x10 x12).railway))) || (decide (((gt x10 x12).minutes : Int) < 1))) || (decide ((100000 : Int) < (gt x10 x12).minutes))) || (decide ((10000 : Int) < (gt x10 x12).km))) = true then (some (1, ())) else ((z20 φ n13) x9 x10 x11 (W (x12 + 1))))) else (some (0, ())))
def z4u (φ : Nat) : Nat -> Int -> (List z7b) -> Int -> Int -> zbd -> Option (Int × Unit)
 | 0, _, _, _, _, _ => none
 | n7 + 1, x2, x3, x4, x5, x6 => (if (decide ((x5 : Int) < x4)) = true then (ck ((0 : Int) <= x5 /\ x5 < (x3.length : Int)) ((zbv φ (gt x3 x5)).bind fun y8 => (if (!y8.1) = true then (some (1, ())) else ((z4u φ n7) x2 x3 x4 (W (x5 + 1)) x6)))) else (z20 φ φ x2 x6.edges (x6.edges.length : Int) 0))
def zby (φ : Nat) (x1 : zbd) : Option (Int × Unit) := (if ((decide ((512 : Int) < (x1.places.length : Int))) || (decide ((2048 : Int) < (x1.edges.length : Int)))) = true then (some (2, ())) else (z4u φ φ (x1.places.length : Int) x1.places (x1.places.length : Int) 0 x1))
def zca (φ : Nat) : Fsp TV := ⟨[19], [.val 0], fun z => zby φ z.1⟩
def zk (φ : Nat) (x1 : Int) (x2 : Int) (x3 : Int) : Option (Bool × Unit) := (some (((decide ((x2 : Int) <= x1)) && (decide ((x1 : Int) <= x3))), ()))
def z8r (φ : Nat) : Fsp TV := ⟨[0, 0, 0], [.val 1], fun z => zk φ z.1 z.2.1 z.2.2.1⟩
def z2r (φ : Nat) (k7 : ((List z1x) -> Int -> Int -> zek -> Int -> Option (Int × Unit))) : Nat -> (List z1x) -> Int -> Int -> Int -> Int -> zek -> Int -> z1x -> (List Int) -> Option (Int × Unit)
 | 0, _, _, _, _, _, _, _, _, _ => none
 | n17 + 1, x8, x9, x10, x11, x12, x13, x14, x15, x16 => (if (decide ((x12 : Int) < x11)) = true then (ck ((0 : Int) <= x12 /\ x12 < (x16.length : Int)) ((zk φ (gt x16 x12) 0 1000000).bind fun y18 => (if (!y18.1) = true then ((z2r φ k7 n17) x8 x9 x10 x11 (W (x12 + 1)) x13 1 x15 x16) else ((z2r φ k7 n17) x8 x9 x10 x11 (W (x12 + 1)) x13 x14 x15 x16)))) else ((zk φ x15.gauge 0 7).bind fun y19 => ((zx (default, ()) (y19.1 = true) (zk φ x15.life 1 1073741824)).bind fun y20 => ((zx (default, ()) ((y19.1 && y20.1) = true) (zk φ x15.floor 0 100)).bind fun y21 => (if (!((y19.1 && y20.1) && y21.1)) = true then (k7 x8 x9 (W (x10 + 1)) x13 1) else (k7 x8 x9 (W (x10 + 1)) x13 x14))))))
def zm (φ : Nat) : Nat -> (List Wash) -> Int -> Int -> Int -> (Nat -> Bool) -> Option (Int × Unit)
 | 0, _, _, _, _, _ => none
 | n49 + 1, x44, x45, x46, x47, x48 => (if (decide ((x46 : Int) < x45)) = true then (ck ((0 : Int) <= x46 /\ x46 < (x44.length : Int)) ((zk φ ((gt x44 x46).from_) 0 63).bind fun y50 => ((zx (default, ()) (y50.1 = true) (zk φ ((gt x44 x46).to) 0 63)).bind fun y51 => ((zx (default, ()) (((y50.1 && y51.1) && (((gt x44 x46).from_ : Int) != (gt x44 x46).to)) = true) (zk φ ((gt x44 x46).minutes) 0 100000)).bind fun y52 => (if (!(((y50.1 && y51.1) && (((gt x44 x46).from_ : Int) != (gt x44 x46).to)) && y52.1)) = true then (if (((y50.1 && y51.1) && (((gt x44 x46).from_ : Int) != (gt x44 x46).to)) && y52.1) = true then (ck ((0 : Int) <= (gt x44 x46).from_ /\ (gt x44 x46).from_ < (64 : Int)) (ck ((0 : Int) <= (gt x44 x46).to /\ (gt x44 x46).to < (64 : Int)) (if (!(!(x48 (((((gt x44 x46).from_ : Int).toNat * 64) + ((gt x44 x46).to : Int).toNat))))) = true then (ck ((0 : Int) <= (gt x44 x46).from_ /\ (gt x44 x46).from_ < (64 : Int)) (ck ((0 : Int) <= (gt x44 x46).to /\ (gt x44 x46).to < (64 : Int)) ((zm φ n49) x44 x45 (W (x46 + 1)) 1 ((upd x48 (((((gt x44 x46).from_ : Int).toNat * 64) + ((gt x44 x46).to : Int).toNat)) true))))) else (ck ((0 : Int) <= (gt x44 x46).from_ /\ (gt x44 x46).from_ < (64 : Int)) (ck ((0 : Int) <= (gt x44 x46).to /\ (gt x44 x46).to < (64 : Int)) ((zm φ n49) x44 x45 (W (x46 + 1)) 1 ((upd x48 (((((gt x44 x46).from_ : Int).toNat * 64) + ((gt x44 x46).to : Int).toNat)) true)))))))) else ((zm φ n49) x44 x45 (W (x46 + 1)) 1 x48)) else (if (((y50.1 && y51.1) && (((gt x44 x46).from_ : Int) != (gt x44 x46).to)) && y52.1) = true then (ck ((0 : Int) <= (gt x44 x46).from_ /\ (gt x44 x46).from_ < (64 : Int)) (ck ((0 : Int) <= (gt x44 x46).to /\ (gt x44 x46).to < (64 : Int)) (if (!(!(x48 (((((gt x44 x46).from_ : Int).toNat * 64) + ((gt x44 x46).to : Int).toNat))))) = true then (ck ((0 : Int) <= (gt x44 x46).from_ /\ (gt x44 x46).from_ < (64 : Int)) (ck ((0 : Int) <= (gt x44 x46).to /\ (gt x44 x46).to < (64 : Int)) ((zm φ n49) x44 x45 (W (x46 + 1)) 1 ((upd x48 (((((gt x44 x46).from_ : Int).toNat * 64) + ((gt x44 x46).to : Int).toNat)) true))))) else (ck ((0 : Int) <= (gt x44 x46).from_ /\ (gt x44 x46).from_ < (64 : Int)) (ck ((0 : Int) <= (gt x44 x46).to /\ (gt x44 x46).to < (64 : Int)) ((zm φ n49) x44 x45 (W (x46 + 1)) x47 ((upd x48 (((((gt x44 x46).from_ : Int).toNat * 64) + ((gt x44 x46).to : Int).toNat)) true)))))))) else ((zm φ n49) x44 x45 (W (x46 + 1)) x47 x48))))))) else (some (x47, ())))
def z0k (φ : Nat) : Nat -> (List Swap) -> Int -> Int -> zek -> Int -> Option (Int × Unit)
 | 0, _, _, _, _, _ => none
 | n40 + 1, x35, x36, x37, x38, x39 => (if (decide ((x37 : Int) < x36)) = true then (ck ((0 : Int) <= x37 /\ x37 < (x35.length : Int)) ((zk φ ((gt x35 x37).wanted) 0 (W ((x38.types.length : Int) - 1))).bind fun y41 => ((zx (default, ()) (y41.1 = true) (zk φ ((gt x35 x37).given) 0 (W ((x38.types.length : Int) - 1)))).bind fun y42 => ((zx (default, ()) (((y41.1 && y42.1) && (((gt x35 x37).wanted : Int) != (gt x35 x37).given)) = true) (zk φ ((gt x35 x37).cost) 0 1000000000)).bind fun y43 => (if (!(((y41.1 && y42.1) && (((gt x35 x37).wanted : Int) != (gt x35 x37).given)) && y43.1)) = true then ((z0k φ n40) x35 x36 (W (x37 + 1)) x38 1) else ((z0k φ n40) x35 x36 (W (x37 + 1)) x38 x39)))))) else (zm φ φ x38.washes (x38.washes.length : Int) 0 x39 (fun _ => (default : Bool))))
def z02 (φ : Nat) : Nat -> (List zi6) -> Int -> Int -> zek -> Int -> Option (Int × Unit)
 | 0, _, _, _, _, _ => none
 | n27 + 1, x22, x23, x24, x25, x26 => (if (decide ((x24 : Int) < x23)) = true then (ck ((0 : Int) <= x24 /\ x24 < (x22.length : Int)) ((zk φ ((gt x22 x24).type_) 0 (W ((x25.types.length : Int) - 1))).bind fun y28 => ((zx (default, ()) (y28.1 = true) (zk φ ((gt x22 x24).owner) 0 63)).bind fun y29 => ((zx (default, ()) ((y28.1 && y29.1) = true) (zk φ ((gt x22 x24).home) 0 511)).bind fun y30 => (if (!((y28.1 && y29.1) && y30.1)) = true then ((zk φ ((gt x22 x24).built) 0 1073741824).bind fun y31 => ((zx (default, ()) (y31.1 = true) (zk φ ((gt x22 x24).worth) 0 1099511627776)).bind fun y32 => (if (!(y31.1 && y32.1)) = true then ((z02 φ n27) x22 x23 (W (x24 + 1)) x25 1) else ((z02 φ n27) x22 x23 (W (x24 + 1)) x25 1)))) else ((zk φ ((gt x22 x24).built) 0 1073741824).bind fun y33 => ((zx (default, ()) (y33.1 = true) (zk φ ((gt x22 x24).worth) 0 1099511627776)).bind fun y34 => (if (!(y33.1 && y34.1)) = true then ((z02 φ n27) x22 x23 (W (x24 + 1)) x25 1) else ((z02 φ n27) x22 x23 (W (x24 + 1)) x25 x26))))))))) else (z0k φ φ x25.swaps (x25.swaps.length : Int) 0 x25 x26))
def z5d (φ : Nat) : Nat -> (List z1x) -> Int -> Int -> zek -> Int -> Option (Int × Unit)
 | 0, _, _, _, _, _ => none
 | n7 + 1, x2, x3, x4, x5, x6 => (if (decide ((x4 : Int) < x3)) = true then (ck ((0 : Int) <= x4 /\ x4 < (x2.length : Int)) (z2r φ (z5d φ n7) φ x2 x3 x4 (([(gt x2 x4).load, (gt x2 x4).tare, (gt x2 x4).length, (gt x2 x4).brake]).length : Int) 0 x5 x6 (gt x2 x4) ([(gt x2 x4).load, (gt x2 x4).tare, (gt x2 x4).length, (gt x2 x4).brake]))) else (z02 φ φ x5.wagons (x5.wagons.length : Int) 0 x5 x6))
def zeu (φ : Nat) (x1 : zek) : Option (Int × Unit) := (if ((((decide ((32 : Int) < (x1.types.length : Int))) || (decide ((4096 : Int) < (x1.wagons.length : Int)))) || (decide ((1024 : Int) < (x1.swaps.length : Int)))) || (decide ((4096 : Int) < (x1.washes.length : Int)))) = true then (some (2, ())) else (z5d φ φ x1.types (x1.types.length : Int) 0 x1 0))
def zfe (φ : Nat) : Fsp TV := ⟨[29], [.val 0], fun z => zeu φ z.1⟩
def z32 (φ : Nat) : Nat -> Int -> (List Int) -> Int -> Int -> Option (Int × Unit)
 | 0, _, _, _, _ => none
 | n10 + 1, x6, x7, x8, x9 => (if (decide ((x9 : Int) < x8)) = true then (ck ((0 : Int) <= x9 /\ x9 < (x7.length : Int)) (if ((decide (((gt x7 x9) : Int) <= x6)) || (decide ((745654 : Int) < (gt x7 x9)))) = true then (some (1, ())) else ((z32 φ n10) (gt x7 x9) x7 x8 (W (x9 + 1))))) else (some (0, ())))
def z3z (φ : Nat) : Nat -> (Nat -> Span) -> Int -> z93 -> Option (Int × Unit)
 | 0, _, _, _ => none
 | n5 + 1, x2, x3, x4 => (if (decide ((x3 : Int) < 7)) = true then (ck ((0 : Int) <= x3 /\ x3 < (7 : Int)) (if (((decide (((x2 (x3 : Int).toNat).from_ : Int) < 0)) || (decide (((x2 (x3 : Int).toNat).to : Int) < (x2 (x3 : Int).toNat).from_))) || (decide ((1440 : Int) < (x2 (x3 : Int).toNat).to))) = true then (some (1, ())) else ((z3z φ n5) x2 (W (x3 + 1)) x4))) else (z32 φ φ (-1) x4.holidays (x4.holidays.length : Int) 0))
def zaa (φ : Nat) (x1 : z93) : Option (Int × Unit) := (z3z φ φ x1.open_ 0 x1)
def zbg (φ : Nat) : Fsp TV := ⟨[36], [.val 0], fun z => zaa φ z.1⟩
def z9s (φ : Nat) (x1 : Int) (x2 : Int) : Option (Int × Int × Unit) := (if 0 <= (32 : Int) then (if 0 <= (32 : Int) then (if 0 <= (32 : Int) then (if 0 <= (32 : Int) then (if 0 <= (32 : Int) then (some ((U ((U ((U (((x1 : Int).fdiv (2 ^ (min (32 : Int).toNat 64))) * ((x2 : Int).fdiv (2 ^ (min (32 : Int).toNat 64))))) + (((U ((U (((x1 : Int).fdiv (2 ^ (min (32 : Int).toNat 64))) * (U ((BitVec.ofInt 64 x2 &&& BitVec.ofInt 64 4294967295).toNat)))) + (((U ((U ((BitVec.ofInt 64 x1 &&& BitVec.ofInt 64 4294967295).toNat)) * (U ((BitVec.ofInt 64 x2 &&& BitVec.ofInt 64 4294967295).toNat)))) : Int).fdiv (2 ^ (min (32 : Int).toNat 64))))) : Int).fdiv (2 ^ (min (32 : Int).toNat 64))))) + (((U ((U ((BitVec.ofInt 64 (U ((U (((x1 : Int).fdiv (2 ^ (min (32 : Int).toNat 64))) * (U ((BitVec.ofInt 64 x2 &&& BitVec.ofInt 64 4294967295).toNat)))) + (((U ((U ((BitVec.ofInt 64 x1 &&& BitVec.ofInt 64 4294967295).toNat)) * (U ((BitVec.ofInt 64 x2 &&& BitVec.ofInt 64 4294967295).toNat)))) : Int).fdiv (2 ^ (min (32 : Int).toNat 64))))) &&& BitVec.ofInt 64 4294967295).toNat)) + (U ((U ((BitVec.ofInt 64 x1 &&& BitVec.ofInt 64 4294967295).toNat)) * ((x2 : Int).fdiv (2 ^ (min (32 : Int).toNat 64))))))) : Int).fdiv (2 ^ (min (32 : Int).toNat 64))))), (U (x1 * x2)), ())) else none) else none) else none) else none) else none)
def zgk (φ : Nat) : Fsp TV := ⟨[20, 20], [.val 20, .val 20], fun z => z9s φ z.1 z.2.1⟩
def z19 (φ : Nat) (x8 : Int) (x9 : Int) : Option (Int × Unit) := (ck ((0 : Int) <= (IntKind.wrap .u8 (x8)) /\ (IntKind.wrap .u8 (x8)) < (zo.size : Int)) (some ((W (64 - (W (x9 + (W ((zcb zo (IntKind.wrap .u8 (x8))))))))), ())))
def z1w (φ : Nat) (x5 : Int) (x6 : Int) : Option (Int × Unit) := (if (decide ((256 : Int) <= x5)) = true then (if 0 <= (8 : Int) then (z19 φ (((x5 : Int).fdiv (2 ^ (min (8 : Int).toNat 64)))) (W (x6 + 8))) else none) else (z19 φ x5 x6))
def z1y (φ : Nat) (x2 : Int) (x3 : Int) : Option (Int × Unit) := (if (decide ((65536 : Int) <= x2)) = true then (if 0 <= (16 : Int) then (z1w φ (((x2 : Int).fdiv (2 ^ (min (16 : Int).toNat 64)))) (W (x3 + 16))) else none) else (z1w φ x2 x3))
def z42 (φ : Nat) (x1 : Int) : Option (Int × Unit) := (if (decide ((4294967296 : Int) <= x1)) = true then (if 0 <= (32 : Int) then (z1y φ (((x1 : Int).fdiv (2 ^ (min (32 : Int).toNat 64)))) 32) else none) else (z1y φ x1 0))
def z6m (φ : Nat) : Fsp TV := ⟨[20], [.val 0], fun z => z42 φ z.1⟩
def z7g (φ : Nat) (x14 : Int) (x15 : Int) (x16 : Int) (x17 : Int) (x18 : Int) (x19 : Int) : Option (Int × Int × Unit) := (ck (0 <= x15) (some ((U ((U (x17 * 4294967296)) + x19)), (((U ((U ((U (x18 * 4294967296)) + x16)) - (U (x19 * x14)))) : Int).fdiv (2 ^ (min (x15 : Int).toNat 64))), ())))
def z7h (φ : Nat) : Nat -> Int -> Int -> Int -> Int -> Int -> Int -> Int -> Int -> Int -> Option (Int × Int × Unit)
 | 0, _, _, _, _, _, _, _, _, _ => none
 | n30 + 1, x21, x22, x23, x24, x25, x26, x27, x28, x29 => (if ((decide ((4294967296 : Int) <= x29)) || (decide (((U ((U (4294967296 * x27)) + x25)) : Int) < (U (x29 * x24))))) = true then (if (decide ((4294967296 : Int) <= (U (x27 + x23)))) = true then (z7g φ x21 x22 x25 x26 x28 (U (x29 - 1))) else ((z7h φ n30) x21 x22 x23 x24 x25 x26 (U (x27 + x23)) x28 (U (x29 - 1)))) else (z7g φ x21 x22 x25 x26 x28 x29))
def z7f (φ : Nat) (x5 : Int) (x6 : Int) (x7 : Int) (x8 : Int) (x9 : Int) (x10 : Int) (x11 : Int) (x12 : Int) : Option (Int × Int × Unit) := (ck (x7 ≠ 0) (z7h φ φ x5 x6 x7 x8 x11 x12 ((U ((U ((U ((U (x9 * 4294967296)) + x10)) - (U (x12 * x5)))) - (U ((U (((U ((U ((U (x9 * 4294967296)) + x10)) - (U (x12 * x5)))) : Int).tdiv x7)) * x7))))) ((U ((U ((U (x9 * 4294967296)) + x10)) - (U (x12 * x5))))) ((U (((U ((U ((U (x9 * 4294967296)) + x10)) - (U (x12 * x5)))) : Int).tdiv x7)))))
def z7e (φ : Nat) : Nat -> Int -> Int -> Int -> Int -> Int -> Int -> Int -> Int -> Int -> Option (Int × Int × Unit)
 | 0, _, _, _, _, _, _, _, _, _ => none
 | n40 + 1, x31, x32, x33, x34, x35, x36, x37, x38, x39 => (if ((decide ((4294967296 : Int) <= x38)) || (decide (((U ((U (4294967296 * x39)) + x36)) : Int) < (U (x38 * x34))))) = true then (if (decide ((4294967296 : Int) <= (U (x39 + x33)))) = true then (z7f φ x31 x32 x33 x34 x35 x36 x37 (U (x38 - 1))) else ((z7e φ n40) x31 x32 x33 x34 x35 x36 x37 (U (x38 - 1)) (U (x39 + x33)))) else (z7f φ x31 x32 x33 x34 x35 x36 x37 x38))
def z89 (φ : Nat) (x1 : Int) (x2 : Int) (x3 : Int) : Option (Int × Int × Unit) := (if ((x3 : Int) == 0) = true then none else (if (decide ((x3 : Int) <= x1)) = true then none else (if ((x1 : Int) == 0) = true then (ck (x3 ≠ 0) (ck (x3 ≠ 0) (some ((U ((x2 : Int).tdiv x3)), ((x2 : Int).tmod x3), ())))) else ((z42 φ x3).bind fun y4 => (ck (0 <= (U (y4.1))) (if 0 <= (32 : Int) then (ck (0 <= (U (y4.1))) (ck (0 <= (U (64 - (U (y4.1))))) (ck (0 <= (U (y4.1))) (if 0 <= (32 : Int) then (ck ((((U (x3 * 2 ^ (min ((U (y4.1)) : Int).toNat 64))) : Int).fdiv (2 ^ (min (32 : Int).toNat 64))) ≠ 0) (z7e φ φ ((U (x3 * 2 ^ (min ((U (y4.1)) : Int).toNat 64)))) (U (y4.1)) ((((U (x3 * 2 ^ (min ((U (y4.1)) : Int).toNat 64))) : Int).fdiv (2 ^ (min (32 : Int).toNat 64)))) ((U ((BitVec.ofInt 64 (U (x3 * 2 ^ (min ((U (y4.1)) : Int).toNat 64))) &&& BitVec.ofInt 64 4294967295).toNat))) ((U ((BitVec.ofInt 64 (U (x1 * 2 ^ (min ((U (y4.1)) : Int).toNat 64))) ||| BitVec.ofInt 64 ((x2 : Int).fdiv (2 ^ (min ((U (64 - (U (y4.1)))) : Int).toNat 64)))).toNat))) ((((U (x2 * 2 ^ (min ((U (y4.1)) : Int).toNat 64))) : Int).fdiv (2 ^ (min (32 : Int).toNat 64)))) ((U ((BitVec.ofInt 64 (U (x2 * 2 ^ (min ((U (y4.1)) : Int).toNat 64))) &&& BitVec.ofInt 64 4294967295).toNat))) ((U (((U ((BitVec.ofInt 64 (U (x1 * 2 ^ (min ((U (y4.1)) : Int).toNat 64))) ||| BitVec.ofInt 64 ((x2 : Int).fdiv (2 ^ (min ((U (64 - (U (y4.1)))) : Int).toNat 64)))).toNat)) : Int).tdiv (((U (x3 * 2 ^ (min ((U (y4.1)) : Int).toNat 64))) : Int).fdiv (2 ^ (min (32 : Int).toNat 64)))))) ((U ((U ((BitVec.ofInt 64 (U (x1 * 2 ^ (min ((U (y4.1)) : Int).toNat 64))) ||| BitVec.ofInt 64 ((x2 : Int).fdiv (2 ^ (min ((U (64 - (U (y4.1)))) : Int).toNat 64)))).toNat)) - (U ((U (((U ((BitVec.ofInt 64 (U (x1 * 2 ^ (min ((U (y4.1)) : Int).toNat 64))) ||| BitVec.ofInt 64 ((x2 : Int).fdiv (2 ^ (min ((U (64 - (U (y4.1)))) : Int).toNat 64)))).toNat)) : Int).tdiv (((U (x3 * 2 ^ (min ((U (y4.1)) : Int).toNat 64))) : Int).fdiv (2 ^ (min (32 : Int).toNat 64))))) * (((U (x3 * 2 ^ (min ((U (y4.1)) : Int).toNat 64))) : Int).fdiv (2 ^ (min (32 : Int).toNat 64)))))))))) else none)))) else none))))))
def zgu (φ : Nat) : Fsp TV := ⟨[20, 20, 20], [.val 20, .val 20], fun z => z89 φ z.1 z.2.1 z.2.2.1⟩
def zao (φ : Nat) (k30 : (Int -> Int -> Int -> Int -> Int -> Int -> Option (Int × Unit))) (x55 : Int) (x56 : Int) (x57 : Int) (x58 : Int) (x59 : Int) (x60 : Int) (x61 : Int) (x62 : Int) (x63 : Int) (x64 : Int) : Option (Int × Unit) := (ck ((0 : Int) <= (IntKind.wrap .u8 (x55)) /\ (IntKind.wrap .u8 (x55)) < (zo.size : Int)) (ck (0 <= (W ((W ((W (x56 + (W ((zcb zo (IntKind.wrap .u8 (x55))))))) - 1)) - x60))) (if (((U ((BitVec.ofInt 64 ((x63 : Int).fdiv (2 ^ (min ((W ((W ((W (x56 + (W ((zcb zo (IntKind.wrap .u8 (x55))))))) - 1)) - x60)) : Int).toNat 64))) &&& BitVec.ofInt 64 1).toNat)) : Int) == 1) = true then (ck (x64 ≠ 0) (ck (x64 ≠ 0) ((z9s φ ((x59 : Int).tmod x64) ((x57 : Int).tmod x64)).bind fun y66 => ((z89 φ y66.1 y66.2.1 x64).bind fun y67 => (k30 x57 x58 y67.2.1 x61 (W (x62 + 1)) x64))))) else (k30 x57 x58 x59 x61 (W (x62 + 1)) x64))))
def zaj (φ : Nat) (k30 : (Int -> Int -> Int -> Int -> Int -> Int -> Option (Int × Unit))) (x44 : Int) (x45 : Int) (x46 : Int) (x47 : Int) (x48 : Int) (x49 : Int) (x50 : Int) (x51 : Int) (x52 : Int) (x53 : Int) : Option (Int × Unit) := (if (decide ((256 : Int) <= x44)) = true then (if 0 <= (8 : Int) then (zao φ k30 (((x44 : Int).fdiv (2 ^ (min (8 : Int).toNat 64)))) (W (x45 + 8)) x46 x47 x48 x49 x50 x51 x52 x53) else none) else (zao φ k30 x44 x45 x46 x47 x48 x49 x50 x51 x52 x53))
def z57 (φ : Nat) (k30 : (Int -> Int -> Int -> Int -> Int -> Int -> Option (Int × Unit))) (x33 : Int) (x34 : Int) (x35 : Int) (x36 : Int) (x37 : Int) (x38 : Int) (x39 : Int) (x40 : Int) (x41 : Int) (x42 : Int) : Option (Int × Unit) := (if (decide ((65536 : Int) <= x33)) = true then (if 0 <= (16 : Int) then (zaj φ k30 (((x33 : Int).fdiv (2 ^ (min (16 : Int).toNat 64)))) (W (x34 + 16)) x35 x36 x37 x38 x39 x40 x41 x42) else none) else (zaj φ k30 x33 x34 x35 x36 x37 x38 x39 x40 x41 x42))
def z09 (φ : Nat) : Nat -> Int -> Int -> Int -> Int -> Int -> Int -> Option (Int × Unit)
 | 0, _, _, _, _, _, _ => none
 | n30 + 1, x24, x25, x26, x27, x28, x29 => (if (decide ((x28 : Int) < x27)) = true then (ck (x29 ≠ 0) (ck (x29 ≠ 0) ((z9s φ ((x26 : Int).tmod x29) ((x26 : Int).tmod x29)).bind fun y31 => ((z89 φ y31.1 y31.2.1 x29).bind fun y32 => (if (decide ((4294967296 : Int) <= x25)) = true then (if 0 <= (32 : Int) then (z57 φ (z09 φ n30) (((x25 : Int).fdiv (2 ^ (min (32 : Int).toNat 64)))) 32 x24 x25 y32.2.1 x28 x27 x28 x25 x29) else none) else (z57 φ (z09 φ n30) x25 0 x24 x25 y32.2.1 x28 x27 x28 x25 x29)))))) else (some (x26, ())))
def zam (φ : Nat) (x17 : Int) (x18 : Int) (x19 : Int) (x20 : Int) (x21 : Int) (x22 : Int) : Option (Int × Unit) := (ck ((0 : Int) <= (IntKind.wrap .u8 (x17)) /\ (IntKind.wrap .u8 (x17)) < (zo.size : Int)) (z09 φ φ x19 x20 x21 ((W (x18 + (W ((zcb zo (IntKind.wrap .u8 (x17)))))))) 0 x22))
def zak (φ : Nat) (x10 : Int) (x11 : Int) (x12 : Int) (x13 : Int) (x14 : Int) (x15 : Int) : Option (Int × Unit) := (if (decide ((256 : Int) <= x10)) = true then (if 0 <= (8 : Int) then (zam φ (((x10 : Int).fdiv (2 ^ (min (8 : Int).toNat 64)))) (W (x11 + 8)) x12 x13 x14 x15) else none) else (zam φ x10 x11 x12 x13 x14 x15))
def zd0 (φ : Nat) (x3 : Int) (x4 : Int) (x5 : Int) (x6 : Int) (x7 : Int) (x8 : Int) : Option (Int × Unit) := (if (decide ((65536 : Int) <= x3)) = true then (if 0 <= (16 : Int) then (zak φ (((x3 : Int).fdiv (2 ^ (min (16 : Int).toNat 64)))) (W (x4 + 16)) x5 x6 x7 x8) else none) else (zak φ x3 x4 x5 x6 x7 x8))
def ziq (φ : Nat) (x1 : Int) (x2 : Int) : Option (Int × Unit) := (if (decide ((4294967296 : Int) <= x2)) = true then (if 0 <= (32 : Int) then (zd0 φ (((x2 : Int).fdiv (2 ^ (min (32 : Int).toNat 64)))) 32 x1 x2 1 2305843009213690799) else none) else (zd0 φ x2 0 x1 x2 1 2305843009213690799))
def zkr (φ : Nat) : Fsp TV := ⟨[20, 20], [.val 20], fun z => ziq φ z.1 z.2.1⟩
def zh9 (φ : Nat) (x1 : Int) : Option (Bool × Unit) := ((zx (default, ()) (((decide ((2 : Int) <= x1)) && (decide ((x1 : Int) < 2305843009213690799))) = true) (ziq φ x1 1152921504606845399)).bind fun y2 => (some ((((decide ((2 : Int) <= x1)) && (decide ((x1 : Int) < 2305843009213690799))) && ((y2.1 : Int) == 1)), ())))
def zh4 (φ : Nat) : Fsp TV := ⟨[20], [.val 1], fun z => zh9 φ z.1⟩
def z0x (φ : Nat) : Nat -> Bool -> (List z15) -> Int -> Int -> Option (Int × Unit)
 | 0, _, _, _, _ => none
 | n48 + 1, x44, x45, x46, x47 => (if (decide ((x47 : Int) < x46)) = true then (ck ((0 : Int) <= x47 /\ x47 < (x45.length : Int)) ((zx (default, ()) (x44 = false) (zaa φ ((gt x45 x47).calendar))).bind fun y49 => ((zx (default, ()) ((x44 || ((y49.1 : Int) != 0)) = false) (zh9 φ ((gt x45 x47).key))).bind fun y50 => ((z0x φ n48) (((x44 || ((y49.1 : Int) != 0)) || (!y50.1))) x45 x46 (W (x47 + 1)))))) else (if x44 = true then (some (1, ())) else (some (0, ()))))
def z0q (φ : Nat) : Nat -> Int -> Bool -> (List Edge) -> Int -> Int -> Pool -> Option (Int × Unit)
 | 0, _, _, _, _, _, _ => none
 | n43 + 1, x37, x38, x39, x40, x41, x42 => (if (decide ((x41 : Int) < x40)) = true then (ck ((0 : Int) <= x41 /\ x41 < (x39.length : Int)) ((z0q φ n43) x37 ((x38 || (decide ((x37 : Int) <= (gt x39 x41).railway)))) x39 x40 (W (x41 + 1)) x42)) else (z0x φ φ x38 x42.railways (x42.railways.length : Int) 0))
def z0p (φ : Nat) : Nat -> Int -> Bool -> (List z7b) -> Int -> Int -> Pool -> Option (Int × Unit)
 | 0, _, _, _, _, _, _ => none
 | n36 + 1, x30, x31, x32, x33, x34, x35 => (if (decide ((x34 : Int) < x33)) = true then (ck ((0 : Int) <= x34 /\ x34 < (x32.length : Int)) ((z0p φ n36) x30 (((x31 || (decide ((x30 : Int) <= (gt x32 x34).railway))) || (decide ((x30 : Int) <= (gt x32 x34).other)))) x32 x33 (W (x34 + 1)) x35)) else (z0q φ φ x30 x31 x35.network.edges (x35.network.edges.length : Int) 0 x35))
def z0s (φ : Nat) : Nat -> (List z7b) -> Int -> Bool -> (List zi6) -> Int -> Int -> Pool -> Option (Int × Unit)
 | 0, _, _, _, _, _, _, _ => none
 | n29 + 1, x22, x23, x24, x25, x26, x27, x28 => (if (decide ((x27 : Int) < x26)) = true then (ck ((0 : Int) <= x27 /\ x27 < (x25.length : Int)) ((z0s φ n29) x22 x23 ((x24 || (decide (((x22.length : Int) : Int) <= (gt x25 x27).home)))) x25 x26 (W (x27 + 1)) x28)) else (z0p φ φ x23 x24 x22 (x22.length : Int) 0 x28))
def z0w (φ : Nat) : Nat -> (List z7b) -> Int -> Bool -> (List zba) -> Int -> Int -> Pool -> Option (Int × Unit)
 | 0, _, _, _, _, _, _, _ => none
 | n20 + 1, x13, x14, x15, x16, x17, x18, x19 => (if (decide ((x18 : Int) < x17)) = true then (ck ((0 : Int) <= x18 /\ x18 < (x16.length : Int)) ((zx (default, ()) (x15 = false) (zk φ ((gt x16 x18).place) 0 (W ((x13.length : Int) - 1)))).bind fun y21 => (ck (((x15 || (!y21.1)) = false) -> (0 : Int) <= (gt x16 x18).place /\ (gt x16 x18).place < (x13.length : Int)) ((z0w φ n20) x13 x14 (((x15 || (!y21.1)) || (((gt x13 ((gt x16 x18).place)).kind : Int) != 4))) x16 x17 (W (x18 + 1)) x19)))) else (z0s φ φ x13 x14 x15 x19.fleet.wagons (x19.fleet.wagons.length : Int) 0 x19))
def z2e (φ : Nat) : Nat -> (List z7b) -> Int -> Bool -> (List zfq) -> Int -> Int -> Pool -> Option (Int × Unit)
 | 0, _, _, _, _, _, _, _ => none
 | n11 + 1, x4, x5, x6, x7, x8, x9, x10 => (if (decide ((x9 : Int) < x8)) = true then (ck ((0 : Int) <= x9 /\ x9 < (x7.length : Int)) ((zx (default, ()) (x6 = false) (zk φ ((gt x7 x9).place) 0 (W ((x4.length : Int) - 1)))).bind fun y12 => ((z2e φ n11) x4 x5 (((((x6 || (!y12.1)) || (decide (((gt x7 x9).low : Int) < (-1000)))) || (decide (((gt x7 x9).high : Int) < (gt x7 x9).low))) || (decide ((1000 : Int) < (gt x7 x9).high)))) x7 x8 (W (x9 + 1)) x10))) else (z0w φ φ x4 x5 x6 x10.shippers (x10.shippers.length : Int) 0 x10))
def z49 (φ : Nat) (x1 : Pool) : Option (Int × Unit) := ((zby φ x1.network).bind fun y2 => (if ((y2.1 : Int) != 0) = true then (some (y2.1, ())) else ((zeu φ x1.fleet).bind fun y3 => (if ((y3.1 : Int) != 0) = true then (some (y3.1, ())) else (if (((decide ((256 : Int) < (x1.readers.length : Int))) || (decide ((256 : Int) < (x1.shippers.length : Int)))) || (decide ((16 : Int) < (x1.railways.length : Int)))) = true then (some (2, ())) else (z2e φ φ x1.network.places (x1.railways.length : Int) (((x1.railways.length : Int) : Int) == 0) x1.readers (x1.readers.length : Int) 0 x1))))))
def z3x (φ : Nat) : Fsp TV := ⟨[39], [.val 0], fun z => z49 φ z.1⟩
def z91 (φ : Nat) (x1 : Item) : Option (Bool × Unit) := (if (((x1.ref.railway : Int) == 0) && (((x1.ref.no : Int) == 0) && true)) = true then (some (((x1.kind : Int) != 14), ())) else (some (((((decide ((0 : Int) <= x1.ref.railway)) && (decide ((x1.ref.railway : Int) < 16))) && (decide ((1 : Int) <= x1.ref.no))) && (decide ((x1.ref.no : Int) <= 4096))), ())))
def zcx (φ : Nat) : Fsp TV := ⟨[6], [.val 1], fun z => z91 φ z.1⟩
def z8f (φ : Nat) : Nat -> (List Part) -> Bool -> (List Part) -> Int -> Int -> Option (Bool × Unit)
 | 0, _, _, _, _, _ => none
 | n8 + 1, x3, x4, x5, x6, x7 => (if (decide ((x7 : Int) < x6)) = true then (ck ((0 : Int) <= x7 /\ x7 < (x5.length : Int)) (if (((((decide (((gt x5 x7).kind : Int) < 1)) || (decide ((3 : Int) < (gt x5 x7).kind))) || (decide (((gt x5 x7).serial : Int) < 0))) || (decide ((1073741824 : Int) < (gt x5 x7).serial))) || ((gt x5 x7).fitted && (!x4))) = true then (some (false, ())) else ((z8f φ n8) x3 x4 x5 x6 (W (x7 + 1))))) else (some ((decide (((x3.length : Int) : Int) <= 16)), ())))
def zg6 (φ : Nat) (x1 : (List Part)) (x2 : Bool) : Option (Bool × Unit) := (z8f φ φ x1 x2 x1 (x1.length : Int) 0)
def zif (φ : Nat) : Fsp TV := ⟨[5, 1], [.val 1], fun z => zg6 φ z.1 z.2.1⟩
def ze (φ : Nat) (x3 : za) : Option (Bool × Unit) := (some ((((((((((((((x3.ok && ((x3.it.wagon : Int) == 0)) && ((x3.it.place : Int) == 0)) && ((x3.it.other : Int) == 0)) && ((x3.it.number : Int) == 0)) && ((x3.it.from_ : Int) == 0)) && ((x3.it.to : Int) == 0)) && ((x3.it.code : Int) == 0)) && ((x3.it.dest : Int) == 0)) && ((x3.it.class_ : Int) == 0)) && ((x3.it.weight : Int) == 0)) && ((x3.it.amount : Int) == 0)) && (x3.it.text == (⟨#[]⟩ : ByteArray))) && (((x3.it.parts.length : Int) : Int) == 0)), ()))
def z8w (φ : Nat) (x5 : Int) (x6 : za) (x7 : z7b) : Option (Bool × Unit) := (ze φ ((⟨x6.p, (⟨x6.it.kind, x6.it.ref, x6.it.wagon, 0, x6.it.other, x6.it.number, 0, 0, x6.it.code, x6.it.dest, x6.it.class_, x6.it.weight, x6.it.amount, x6.it.text, x6.it.parts⟩ : Item), (((((x6.ok && ((x7.kind : Int) != 0)) && (((x5 : Int) == 0) || ((x7.kind : Int) == x5))) && (decide (((max2 x6.it.from_ 0) : Int) <= x6.it.to))) && (decide ((x6.it.to : Int) <= 1073741824))) && (decide ((0 : Int) <= x6.it.from_))) && (decide ((x6.it.from_ : Int) <= 1073741824))⟩ : za)))
def z7d (φ : Nat) (x13 : Int) (x14 : za) (x15 : z7b) : Option (Bool × Unit) := (ze φ ((⟨x14.p, (⟨x14.it.kind, x14.it.ref, x14.it.wagon, 0, 0, x14.it.number, 0, x14.it.to, 0, x14.it.dest, x14.it.class_, x14.it.weight, x14.it.amount, x14.it.text, x14.it.parts⟩ : Item), ((((((x14.ok && ((x15.kind : Int) != 0)) && (((x13 : Int) == 0) || ((x15.kind : Int) == x13))) && (((x14.it.other : Int) == x15.railway) || ((x14.it.other : Int) == x15.other))) && (decide ((0 : Int) <= x14.it.from_))) && (decide ((x14.it.from_ : Int) <= 1073741824))) && (decide ((0 : Int) <= x14.it.code))) && (decide ((x14.it.code : Int) <= 8))⟩ : za)))
def z7l (φ : Nat) (x17 : Int) (x18 : za) (x19 : z7b) : Option (Bool × Unit) := (ze φ ((⟨x18.p, (⟨x18.it.kind, x18.it.ref, x18.it.wagon, 0, x18.it.other, x18.it.number, 0, x18.it.to, x18.it.code, 0, 0, 0, x18.it.amount, x18.it.text, x18.it.parts⟩ : Item), (((((((((x18.ok && ((x19.kind : Int) != 0)) && (((x17 : Int) == 0) || ((x19.kind : Int) == x17))) && (decide ((0 : Int) <= x18.it.dest))) && (decide ((x18.it.dest : Int) <= (W ((x18.p.network.places.length : Int) - 1))))) && (decide ((0 : Int) <= x18.it.class_))) && (decide ((x18.it.class_ : Int) <= 63))) && (decide ((0 : Int) <= x18.it.weight))) && (decide ((x18.it.weight : Int) <= 1000000))) && (decide ((0 : Int) <= x18.it.from_))) && (decide ((x18.it.from_ : Int) <= 1073741824))⟩ : za)))
def z7o (φ : Nat) (x24 : Int) (x25 : za) (x26 : z7b) : Option (Bool × Unit) := (if ((x25.it.kind : Int) == 6) = true then (ze φ ((⟨x25.p, (⟨x25.it.kind, x25.it.ref, x25.it.wagon, 0, 0, x25.it.number, 0, x25.it.to, 0, x25.it.dest, x25.it.class_, x25.it.weight, x25.it.amount, x25.it.text, x25.it.parts⟩ : Item), (((((((x25.ok && ((x26.kind : Int) != 0)) && (((x24 : Int) == 0) || ((x26.kind : Int) == x24))) && (decide ((0 : Int) <= x25.it.other))) && (decide ((x25.it.other : Int) <= (W ((x25.p.shippers.length : Int) - 1))))) && (decide ((0 : Int) <= x25.it.from_))) && (decide ((x25.it.from_ : Int) <= 1073741824))) && (decide ((0 : Int) <= x25.it.code))) && (decide ((x25.it.code : Int) <= 1))⟩ : za))) else (ze φ ((⟨x25.p, (⟨x25.it.kind, x25.it.ref, x25.it.wagon, 0, 0, x25.it.number, 0, x25.it.to, x25.it.code, x25.it.dest, x25.it.class_, x25.it.weight, x25.it.amount, x25.it.text, x25.it.parts⟩ : Item), (((((x25.ok && ((x26.kind : Int) != 0)) && (((x24 : Int) == 0) || ((x26.kind : Int) == x24))) && (decide ((0 : Int) <= x25.it.other))) && (decide ((x25.it.other : Int) <= (W ((x25.p.shippers.length : Int) - 1))))) && (decide ((0 : Int) <= x25.it.from_))) && (decide ((x25.it.from_ : Int) <= 1073741824))⟩ : za))))
def z7j (φ : Nat) (x21 : Bool) (x22 : za) : Option (Bool × Unit) := (if x21 = true then (if ((decide ((0 : Int) <= x22.it.place)) && (decide ((x22.it.place : Int) < (x22.p.network.places.length : Int)))) = true then (ck ((0 : Int) <= x22.it.place /\ x22.it.place < (x22.p.network.places.length : Int)) (z7o φ 0 x22 (gt x22.p.network.places x22.it.place))) else (z7o φ 0 x22 (⟨0, 0, 0⟩ : z7b))) else (ze φ x22))
def z7i (φ : Nat) (x9 : Int) (x10 : Bool) (x11 : za) : Option (Bool × Unit) := (if x10 = true then (if ((decide ((0 : Int) <= x11.it.place)) && (decide ((x11.it.place : Int) < (x11.p.network.places.length : Int)))) = true then (ck ((0 : Int) <= x11.it.place /\ x11.it.place < (x11.p.network.places.length : Int)) (z7d φ 3 x11 (gt x11.p.network.places x11.it.place))) else (z7d φ 3 x11 (⟨0, 0, 0⟩ : z7b))) else (if ((x9 : Int) == 5) = true then (if ((decide ((0 : Int) <= x11.it.place)) && (decide ((x11.it.place : Int) < (x11.p.network.places.length : Int)))) = true then (ck ((0 : Int) <= x11.it.place /\ x11.it.place < (x11.p.network.places.length : Int)) (z7l φ 0 ((⟨x11.p, (⟨x11.it.kind, x11.it.ref, x11.it.wagon, x11.it.place, 0, 0, x11.it.from_, x11.it.to, x11.it.code, x11.it.dest, x11.it.class_, x11.it.weight, x11.it.amount, x11.it.text, x11.it.parts⟩ : Item), (((x11.ok && (decide ((1 : Int) <= x11.it.number))) && (decide ((x11.it.number : Int) <= 1000000000))) && (decide ((0 : Int) <= x11.it.other))) && (decide ((x11.it.other : Int) <= (W ((x11.p.shippers.length : Int) - 1))))⟩ : za)) (gt x11.p.network.places x11.it.place))) else (z7l φ 0 ((⟨x11.p, (⟨x11.it.kind, x11.it.ref, x11.it.wagon, x11.it.place, 0, 0, x11.it.from_, x11.it.to, x11.it.code, x11.it.dest, x11.it.class_, x11.it.weight, x11.it.amount, x11.it.text, x11.it.parts⟩ : Item), (((x11.ok && (decide ((1 : Int) <= x11.it.number))) && (decide ((x11.it.number : Int) <= 1000000000))) && (decide ((0 : Int) <= x11.it.other))) && (decide ((x11.it.other : Int) <= (W ((x11.p.shippers.length : Int) - 1))))⟩ : za)) (⟨0, 0, 0⟩ : z7b))) else (if ((x9 : Int) == 6) = true then (z7j φ ((x9 : Int) == 6) x11) else (z7j φ ((x9 : Int) == 7) x11))))
def z7n (φ : Nat) (x28 : Int) (x29 : za) (x30 : z7b) : Option (Bool × Unit) := ((zx (default, ()) (((((((((((x29.ok && ((x30.kind : Int) != 0)) && (((x28 : Int) == 0) || ((x30.kind : Int) == x28))) && (decide (((max2 x29.it.from_ 0) : Int) <= x29.it.to))) && (decide ((x29.it.to : Int) <= 1073741824))) && (decide ((0 : Int) <= x29.it.from_))) && (decide ((x29.it.from_ : Int) <= 1073741824))) && (decide ((1 : Int) <= x29.it.code))) && (decide ((x29.it.code : Int) <= 2))) && (decide ((0 : Int) <= x29.it.amount))) && (decide ((x29.it.amount : Int) <= 1000000000))) = true) (zg6 φ x29.it.parts true)).bind fun y32 => (ze φ ((⟨x29.p, (⟨x29.it.kind, x29.it.ref, x29.it.wagon, 0, x29.it.other, x29.it.number, 0, 0, 0, x29.it.dest, x29.it.class_, x29.it.weight, 0, x29.it.text, ([] : List Part)⟩ : Item), ((((((((((x29.ok && ((x30.kind : Int) != 0)) && (((x28 : Int) == 0) || ((x30.kind : Int) == x28))) && (decide (((max2 x29.it.from_ 0) : Int) <= x29.it.to))) && (decide ((x29.it.to : Int) <= 1073741824))) && (decide ((0 : Int) <= x29.it.from_))) && (decide ((x29.it.from_ : Int) <= 1073741824))) && (decide ((1 : Int) <= x29.it.code))) && (decide ((x29.it.code : Int) <= 2))) && (decide ((0 : Int) <= x29.it.amount))) && (decide ((x29.it.amount : Int) <= 1000000000))) && y32.1⟩ : za))))
def z7c (φ : Nat) (x38 : Int) (x39 : za) (x40 : z7b) : Option (Bool × Unit) := (ze φ ((⟨x39.p, (⟨x39.it.kind, x39.it.ref, x39.it.wagon, 0, x39.it.other, 0, 0, 0, x39.it.code, x39.it.dest, 0, 0, 0, x39.it.text, x39.it.parts⟩ : Item), (((((((((((((x39.ok && ((x40.kind : Int) != 0)) && (((x38 : Int) == 0) || ((x40.kind : Int) == x38))) && (decide ((0 : Int) <= x39.it.class_))) && (decide ((x39.it.class_ : Int) <= 63))) && (decide ((0 : Int) <= x39.it.number))) && (decide ((x39.it.number : Int) <= (W ((x39.p.fleet.types.length : Int) - 1))))) && (decide ((1 : Int) <= x39.it.weight))) && (decide ((x39.it.weight : Int) <= 1000))) && (decide (((max2 x39.it.from_ 0) : Int) <= x39.it.to))) && (decide ((x39.it.to : Int) <= 1073741824))) && (decide ((0 : Int) <= x39.it.from_))) && (decide ((x39.it.from_ : Int) <= 1073741824))) && (decide ((0 : Int) <= x39.it.amount))) && (decide ((x39.it.amount : Int) <= 1000000000))⟩ : za)))
def z5g (φ : Nat) (x34 : Int) (x35 : Bool) (x36 : za) : Option (Bool × Unit) := (if x35 = true then (if ((x36.it.kind : Int) != 13) = true then (ze φ ((⟨x36.p, (⟨x36.it.kind, x36.it.ref, x36.it.wagon, x36.it.place, x36.it.other, 0, 0, x36.it.to, x36.it.code, x36.it.dest, x36.it.class_, x36.it.weight, x36.it.amount, (⟨#[]⟩ : ByteArray), x36.it.parts⟩ : Item), (((((x36.ok && (decide ((1 : Int) <= x36.it.number))) && (decide ((x36.it.number : Int) <= 6))) && (decide ((0 : Int) <= x36.it.from_))) && (decide ((x36.it.from_ : Int) <= 1073741824))) && (decide ((1 : Int) <= (x36.it.text.size : Int)))) && (decide (((x36.it.text.size : Int) : Int) <= 2000))⟩ : za))) else (ze φ ((⟨x36.p, (⟨x36.it.kind, x36.it.ref, x36.it.wagon, x36.it.place, x36.it.other, 0, 0, x36.it.to, x36.it.code, x36.it.dest, x36.it.class_, x36.it.weight, x36.it.amount, x36.it.text, x36.it.parts⟩ : Item), (((x36.ok && (decide ((1 : Int) <= x36.it.number))) && (decide ((x36.it.number : Int) <= 6))) && (decide ((0 : Int) <= x36.it.from_))) && (decide ((x36.it.from_ : Int) <= 1073741824))⟩ : za)))) else (if ((x34 : Int) == 14) = true then (ze φ x36) else (if ((x34 : Int) == 15) = true then (if ((decide ((0 : Int) <= x36.it.place)) && (decide ((x36.it.place : Int) < (x36.p.network.places.length : Int)))) = true then (ck ((0 : Int) <= x36.it.place /\ x36.it.place < (x36.p.network.places.length : Int)) (z7c φ 0 ((⟨x36.p, (⟨x36.it.kind, x36.it.ref, x36.it.wagon, x36.it.place, 0, x36.it.number, x36.it.from_, x36.it.to, x36.it.code, x36.it.dest, x36.it.class_, x36.it.weight, x36.it.amount, x36.it.text, x36.it.parts⟩ : Item), (x36.ok && (decide ((0 : Int) <= x36.it.other))) && (decide ((x36.it.other : Int) <= (W ((x36.p.shippers.length : Int) - 1))))⟩ : za)) (gt x36.p.network.places x36.it.place))) else (z7c φ 0 ((⟨x36.p, (⟨x36.it.kind, x36.it.ref, x36.it.wagon, x36.it.place, 0, x36.it.number, x36.it.from_, x36.it.to, x36.it.code, x36.it.dest, x36.it.class_, x36.it.weight, x36.it.amount, x36.it.text, x36.it.parts⟩ : Item), (x36.ok && (decide ((0 : Int) <= x36.it.other))) && (decide ((x36.it.other : Int) <= (W ((x36.p.shippers.length : Int) - 1))))⟩ : za)) (⟨0, 0, 0⟩ : z7b))) else (ze φ (⟨x36.p, x36.it, false⟩ : za)))))
def z40 (φ : Nat) (x1 : Pool) (x2 : Item) : Option (Bool × Unit) := (if (decide ((x2.kind : Int) <= 7)) = true then (if (decide ((x2.kind : Int) < 1)) = true then (ze φ (⟨x1, x2, false⟩ : za)) else (if ((x2.kind : Int) == 1) = true then (ze φ ((⟨x1, (⟨x2.kind, x2.ref, 0, x2.place, 0, x2.number, 0, x2.to, x2.code, x2.dest, x2.class_, x2.weight, x2.amount, x2.text, x2.parts⟩ : Item), (((((true && (decide ((0 : Int) <= x2.wagon))) && (decide ((x2.wagon : Int) <= (W ((x1.fleet.wagons.length : Int) - 1))))) && (decide ((0 : Int) <= x2.other))) && (decide ((x2.other : Int) <= (W ((x1.readers.length : Int) - 1))))) && (decide ((0 : Int) <= x2.from_))) && (decide ((x2.from_ : Int) <= 1073741824))⟩ : za))) else (if ((x2.kind : Int) == 2) = true then (if ((decide ((0 : Int) <= x2.place)) && (decide ((x2.place : Int) < (x1.network.places.length : Int)))) = true then (ck ((0 : Int) <= x2.place /\ x2.place < (x1.network.places.length : Int)) (z8w φ 0 ((⟨x1, (⟨x2.kind, x2.ref, 0, x2.place, x2.other, x2.number, x2.from_, x2.to, x2.code, x2.dest, x2.class_, x2.weight, x2.amount, x2.text, x2.parts⟩ : Item), (true && (decide ((0 : Int) <= x2.wagon))) && (decide ((x2.wagon : Int) <= (W ((x1.fleet.wagons.length : Int) - 1))))⟩ : za)) (gt x1.network.places x2.place))) else (z8w φ 0 ((⟨x1, (⟨x2.kind, x2.ref, 0, x2.place, x2.other, x2.number, x2.from_, x2.to, x2.code, x2.dest, x2.class_, x2.weight, x2.amount, x2.text, x2.parts⟩ : Item), (true && (decide ((0 : Int) <= x2.wagon))) && (decide ((x2.wagon : Int) <= (W ((x1.fleet.wagons.length : Int) - 1))))⟩ : za)) (⟨0, 0, 0⟩ : z7b))) else (if ((x2.kind : Int) == 3) = true then (z7i φ x2.kind ((x2.kind : Int) == 3) ((⟨x1, (⟨x2.kind, x2.ref, 0, x2.place, x2.other, x2.number, x2.from_, x2.to, x2.code, x2.dest, x2.class_, x2.weight, x2.amount, x2.text, x2.parts⟩ : Item), (true && (decide ((0 : Int) <= x2.wagon))) && (decide ((x2.wagon : Int) <= (W ((x1.fleet.wagons.length : Int) - 1))))⟩ : za))) else (z7i φ x2.kind ((x2.kind : Int) == 4) ((⟨x1, (⟨x2.kind, x2.ref, 0, x2.place, x2.other, x2.number, x2.from_, x2.to, x2.code, x2.dest, x2.class_, x2.weight, x2.amount, x2.text, x2.parts⟩ : Item), (true && (decide ((0 : Int) <= x2.wagon))) && (decide ((x2.wagon : Int) <= (W ((x1.fleet.wagons.length : Int) - 1))))⟩ : za))))))) else (if ((x2.kind : Int) == 8) = true then (ze φ ((⟨x1, (⟨x2.kind, x2.ref, 0, x2.place, x2.other, x2.number, 0, x2.to, 0, x2.dest, x2.class_, x2.weight, x2.amount, x2.text, x2.parts⟩ : Item), (((((true && (decide ((0 : Int) <= x2.wagon))) && (decide ((x2.wagon : Int) <= (W ((x1.fleet.wagons.length : Int) - 1))))) && (decide ((0 : Int) <= x2.from_))) && (decide ((x2.from_ : Int) <= 1073741824))) && (decide ((1 : Int) <= x2.code))) && (decide ((x2.code : Int) <= 9))⟩ : za))) else (if ((x2.kind : Int) == 9) = true then (if ((decide ((0 : Int) <= x2.place)) && (decide ((x2.place : Int) < (x1.network.places.length : Int)))) = true then (ck ((0 : Int) <= x2.place /\ x2.place < (x1.network.places.length : Int)) (z7n φ 5 ((⟨x1, (⟨x2.kind, x2.ref, 0, x2.place, x2.other, x2.number, x2.from_, x2.to, x2.code, x2.dest, x2.class_, x2.weight, x2.amount, x2.text, x2.parts⟩ : Item), (true && (decide ((0 : Int) <= x2.wagon))) && (decide ((x2.wagon : Int) <= (W ((x1.fleet.wagons.length : Int) - 1))))⟩ : za)) (gt x1.network.places x2.place))) else (z7n φ 5 ((⟨x1, (⟨x2.kind, x2.ref, 0, x2.place, x2.other, x2.number, x2.from_, x2.to, x2.code, x2.dest, x2.class_, x2.weight, x2.amount, x2.text, x2.parts⟩ : Item), (true && (decide ((0 : Int) <= x2.wagon))) && (decide ((x2.wagon : Int) <= (W ((x1.fleet.wagons.length : Int) - 1))))⟩ : za)) (⟨0, 0, 0⟩ : z7b))) else (if ((x2.kind : Int) == 10) = true then ((zx (default, ()) ((((true && (decide ((0 : Int) <= x2.other))) && (decide ((x2.other : Int) <= 63))) && (decide ((0 : Int) < (x2.parts.length : Int)))) = true) (zg6 φ x2.parts false)).bind fun y33 => (ze φ ((⟨x1, (⟨x2.kind, x2.ref, x2.wagon, x2.place, 0, x2.number, x2.from_, x2.to, x2.code, x2.dest, x2.class_, x2.weight, x2.amount, x2.text, ([] : List Part)⟩ : Item), (((true && (decide ((0 : Int) <= x2.other))) && (decide ((x2.other : Int) <= 63))) && (decide ((0 : Int) < (x2.parts.length : Int)))) && y33.1⟩ : za)))) else (if ((x2.kind : Int) == 11) = true then (z5g φ x2.kind ((x2.kind : Int) == 11) (⟨x1, x2, true⟩ : za)) else (if ((x2.kind : Int) == 12) = true then (z5g φ x2.kind ((x2.kind : Int) == 12) (⟨x1, x2, true⟩ : za)) else (z5g φ x2.kind ((x2.kind : Int) == 13) (⟨x1, x2, true⟩ : za))))))))
def zh1 (φ : Nat) : Fsp TV := ⟨[39, 6], [.val 1], fun z => z40 φ z.1 z.2.1⟩
def z5y (φ : Nat) (x1 : Pool) (x2 : Item) : Option (Int × Unit) := ((z49 φ x1).bind fun y3 => (if ((y3.1 : Int) != 0) = true then (some (y3.1, ())) else ((z91 φ x2).bind fun y4 => ((zx (default, ()) ((!y4.1) = false) (z40 φ x1 x2)).bind fun y5 => (if ((!y4.1) || (!y5.1)) = true then (some (110, ())) else (some (0, ())))))))
def z9l (φ : Nat) : Fsp TV := ⟨[39, 6], [.val 0], fun z => z5y φ z.1 z.2.1⟩
def zef (φ : Nat) (x1 : Part) (x2 : (List (z6 × Bool))) : Option (Bool × Unit) := ((zcj φ x1).bind fun y3 => (some (((cget kl_9 x2 y3.1).getD (default : Bool)), ())))
def zb8 (φ : Nat) : Csp TV := ⟨[2], [.b (.map 9 1)], [.val 1], fun z b => zef φ z.1 b.1⟩
def zed (φ : Nat) (x1 : Pool) (x2 : Int) (x3 : Int) : Option (Int × Unit) := ((z49 φ x1).bind fun y4 => (if ((y4.1 : Int) != 0) = true then (some (y4.1, ())) else (if ((((decide ((x2 : Int) < 0)) || (decide (((x1.fleet.wagons.length : Int) : Int) <= x2))) || (decide ((x3 : Int) < 0))) || (decide ((1073741824 : Int) < x3))) = true then (some (1, ())) else (some (0, ())))))
def zas (φ : Nat) : Fsp TV := ⟨[39, 0, 0], [.val 0], fun z => zed φ z.1 z.2.1 z.2.2.1⟩
def z4c (φ : Nat) : Nat -> Int -> (List z1) -> Int -> Int -> Pool -> (List Int) -> Option ((List Int) × Unit)
 | 0, _, _, _, _, _, _ => none
 | n10 + 1, x4, x5, x6, x7, x8, x9 => (if (decide ((x7 : Int) < x6)) = true then (ck ((0 : Int) <= x7 /\ x7 < (x5.length : Int)) ((zx (default, ()) (((((gt x5 x7).item).kind : Int) == x4) = true) (z5y φ x8 ((gt x5 x7).item))).bind fun y11 => (if (((((gt x5 x7).item).kind : Int) == x4) && ((y11.1 : Int) == 0)) = true then (ck (fits (x9.length + ([x7]).length) 8) ((z4c φ n10) x4 x5 x6 (W (x7 + 1)) x8 (x9 ++ [x7]))) else ((z4c φ n10) x4 x5 x6 (W (x7 + 1)) x8 x9)))) else (some (x9, ())))
def zcz (φ : Nat) (x1 : Pool) (x2 : (List z1)) (x3 : Int) : Option ((List Int) × Unit) := (z4c φ φ x3 x2 (x2.length : Int) 0 x1 ([] : List Int))
def zfc (φ : Nat) : Fsp TV := ⟨[39, 10, 0], [.row 3 0], fun z => zcz φ z.1 z.2.1 z.2.2.1⟩
def z62 (φ : Nat) (x1 : Ref) (x2 : Ref) : Option (Int × Unit) := ((z1g φ x1.railway x2.railway).bind fun y3 => ((z1g φ x1.no x2.no).bind fun y4 => ((zfs φ ([y3.1, y4.1])).bind fun y5 => (some (y5.1, ())))))
def z60 (φ : Nat) : Fsp TV := ⟨[3, 3], [.val 0], fun z => z62 φ z.1 z.2.1⟩
def z4v (φ : Nat) (x1 : Int) (x2 : Int) (x3 : (List z1)) : Option (Int × Unit) := (ck ((0 : Int) <= x1 /\ x1 < (x3.length : Int)) (ck ((0 : Int) <= x2 /\ x2 < (x3.length : Int)) ((z1g φ (((gt x3 x1).item).from_) (((gt x3 x2).item).from_)).bind fun y4 => (ck ((0 : Int) <= x1 /\ x1 < (x3.length : Int)) (ck ((0 : Int) <= x2 /\ x2 < (x3.length : Int)) ((z62 φ ((gt x3 x1).ref) ((gt x3 x2).ref)).bind fun y5 => ((zfs φ ([y4.1, y5.1])).bind fun y6 => (some (y6.1, ())))))))))
def z8l (φ : Nat) : Csp TV := ⟨[0, 0], [.b (.val 10)], [.val 0], fun z b => z4v φ z.1 z.2.1 b.1⟩
def z0v (φ : Nat) (k10 : (Int -> Int -> (Int -> Int -> Option Int) -> Int -> (List Int) -> Option (List Int))) : Nat -> Int -> Int -> (Int -> Int -> Option Int) -> Int -> Int -> (List Int) -> Option (List Int)
 | 0, _, _, _, _, _, _ => none
 | n17 + 1, x11, x12, x13, x14, x15, x16 => (ck (((decide ((x11 : Int) < x15)) = true) -> (0 : Int) <= x15 /\ x15 < (x16.length : Int)) (ck (((decide ((x11 : Int) < x15)) = true) -> (0 : Int) <= (W (x15 - 1)) /\ (W (x15 - 1)) < (x16.length : Int)) ((zx (0 : Int) ((decide ((x11 : Int) < x15)) = true) (x13 (gt x16 x15) (gt x16 (W (x15 - 1))))).bind fun y18 => (if ((decide ((x11 : Int) < x15)) && (decide ((y18 : Int) < 0))) = true then (ck ((0 : Int) <= (W (x15 - 1)) /\ (W (x15 - 1)) < (x16.length : Int)) (ck ((0 : Int) <= x15 /\ x15 < (x16.length : Int)) (ck ((0 : Int) <= x15 /\ x15 < (x16.length : Int)) (ck ((0 : Int) <= (W (x15 - 1)) /\ (W (x15 - 1)) < (((z0l x16 x15 (gt x16 (W (x15 - 1))))).length : Int)) ((z0v φ k10 n17) x11 x12 x13 x14 (W (x15 - 1)) ((z0l ((z0l x16 x15 (gt x16 (W (x15 - 1))))) (W (x15 - 1)) (gt x16 x15)))))))) else (k10 x11 x12 x13 (W (x14 + 1)) x16)))))
def z0t (φ : Nat) : Nat -> Int -> Int -> (Int -> Int -> Option Int) -> Int -> (List Int) -> Option (List Int)
 | 0, _, _, _, _, _ => none
 | n10 + 1, x5, x6, x7, x8, x9 => (if (decide ((x8 : Int) < x6)) = true then (z0v φ (z0t φ n10) φ x5 x6 x7 x8 x8 x9) else (some x9))
def z1z (φ : Nat) (x1 : (List Int)) (x2 : Int) (x3 : Int) (x4 : (Int -> Int -> Option Int)) : Option (List Int) := (z0t φ φ x2 x3 x4 (W (x2 + 1)) x1)
def z1e (φ : Nat) : Msp TV := ⟨3, 0, [.val 0, .val 0, .cmp 0], fun l z => z1z φ l z.1 z.2.1 z.2.2.1⟩
def z21 (φ : Nat) : Nat -> Int -> Int -> Int -> Int -> (List Int) -> Option (List Int)
 | 0, _, _, _, _, _ => none
 | n11 + 1, x6, x7, x8, x9, x10 => (if (decide ((x9 : Int) < x8)) = true then (ck ((0 : Int) <= (W (x7 + x9)) /\ (W (x7 + x9)) < (x10.length : Int)) (ck ((0 : Int) <= (W (x6 + x9)) /\ (W (x6 + x9)) < (x10.length : Int)) (ck ((0 : Int) <= (W (x6 + x9)) /\ (W (x6 + x9)) < (x10.length : Int)) (ck ((0 : Int) <= (W (x7 + x9)) /\ (W (x7 + x9)) < (((z0l x10 (W (x6 + x9)) (gt x10 (W (x7 + x9))))).length : Int)) ((z21 φ n11) x6 x7 x8 (W (x9 + 1)) ((z0l ((z0l x10 (W (x6 + x9)) (gt x10 (W (x7 + x9))))) (W (x7 + x9)) (gt x10 (W (x6 + x9)))))))))) else (some x10))
def z1d (φ : Nat) (x1 : (List Int)) (x2 : Int) (x3 : Int) (x4 : Int) (x5 : (Int -> Int -> Option Int)) : Option (List Int) := (z21 φ φ x2 x3 x4 0 x1)
def z3d (φ : Nat) : Msp TV := ⟨3, 0, [.val 0, .val 0, .val 0, .cmp 0], fun l z => z1d φ l z.1 z.2.1 z.2.2.1 z.2.2.2.1⟩
def z12 (φ : Nat) : Nat -> Int -> (Int -> Int -> Option Int) -> Int -> Int -> (List Int) -> Option (List Int)
 | 0, _, _, _, _, _ => none
 | n11 + 1, x6, x7, x8, x9, x10 => (if ((x8 : Int) != x9) = true then (if (decide ((x9 : Int) < x8)) = true then ((z1d φ x10 (W (x6 - x8)) x6 x9 x7).bind fun y12 => ((z12 φ n11) x6 x7 (W (x8 - x9)) x9 y12)) else ((z1d φ x10 (W (x6 - x8)) ((W ((W (x6 + x9)) - x8))) x8 x7).bind fun y13 => ((z12 φ n11) x6 x7 x8 (W (x9 - x8)) y13))) else ((z1d φ x10 (W (x6 - x8)) x6 x8 x7).bind fun y14 => (some y14)))
def z8h (φ : Nat) (x1 : (List Int)) (x2 : Int) (x3 : Int) (x4 : Int) (x5 : (Int -> Int -> Option Int)) : Option (List Int) := (z12 φ φ x3 x5 (W (x3 - x2)) (W (x4 - x3)) x1)
def z4k (φ : Nat) : Msp TV := ⟨3, 0, [.val 0, .val 0, .val 0, .cmp 0], fun l z => z8h φ l z.1 z.2.1 z.2.2.1 z.2.2.2.1⟩
def z2u (φ : Nat) : Nat -> Int -> Int -> (List Int) -> Option (List Int)
 | 0, _, _, _ => none
 | n16 + 1, x13, x14, x15 => (if (decide ((x14 : Int) < (W (x13 - 1)))) = true then (ck ((0 : Int) <= (W (x14 + 1)) /\ (W (x14 + 1)) < (x15.length : Int)) (ck ((0 : Int) <= x14 /\ x14 < (x15.length : Int)) (ck ((0 : Int) <= x14 /\ x14 < (x15.length : Int)) (ck ((0 : Int) <= (W (x14 + 1)) /\ (W (x14 + 1)) < (((z0l x15 x14 (gt x15 (W (x14 + 1))))).length : Int)) ((z2u φ n16) x13 (W (x14 + 1)) ((z0l ((z0l x15 x14 (gt x15 (W (x14 + 1))))) (W (x14 + 1)) (gt x15 x14)))))))) else (some x15))
def z0i (φ : Nat) : Nat -> Int -> (Int -> Int -> Option Int) -> Int -> Int -> (List Int) -> Option (List Int)
 | 0, _, _, _, _, _ => none
 | n11 + 1, x6, x7, x8, x9, x10 => (if (decide ((x8 : Int) < x9)) = true then (if 0 <= (1 : Int) then (ck ((0 : Int) <= (W ((((U ((W (x8 + x9)))) : Int).fdiv (2 ^ (min (1 : Int).toNat 64))))) /\ (W ((((U ((W (x8 + x9)))) : Int).fdiv (2 ^ (min (1 : Int).toNat 64))))) < (x10.length : Int)) (ck ((0 : Int) <= x6 /\ x6 < (x10.length : Int)) ((x7 ((gt x10 ((W ((((U ((W (x8 + x9)))) : Int).fdiv (2 ^ (min (1 : Int).toNat 64)))))))) (gt x10 x6)).bind fun y12 => (if (decide ((y12 : Int) < 0)) = true then ((z0i φ n11) x6 x7 ((W ((W ((((U ((W (x8 + x9)))) : Int).fdiv (2 ^ (min (1 : Int).toNat 64))))) + 1))) x9 x10) else ((z0i φ n11) x6 x7 x8 ((W ((((U ((W (x8 + x9)))) : Int).fdiv (2 ^ (min (1 : Int).toNat 64)))))) x10))))) else none) else (z2u φ φ x8 x6 x10))
def z2x (φ : Nat) : Nat -> Int -> Int -> (List Int) -> Option (List Int)
 | 0, _, _, _ => none
 | n27 + 1, x24, x25, x26 => (if (decide ((x24 : Int) < x25)) = true then (ck ((0 : Int) <= (W (x25 - 1)) /\ (W (x25 - 1)) < (x26.length : Int)) (ck ((0 : Int) <= x25 /\ x25 < (x26.length : Int)) (ck ((0 : Int) <= x25 /\ x25 < (x26.length : Int)) (ck ((0 : Int) <= (W (x25 - 1)) /\ (W (x25 - 1)) < (((z0l x26 x25 (gt x26 (W (x25 - 1))))).length : Int)) ((z2x φ n27) x24 (W (x25 - 1)) ((z0l ((z0l x26 x25 (gt x26 (W (x25 - 1))))) (W (x25 - 1)) (gt x26 x25)))))))) else (some x26))
def z0e (φ : Nat) : Nat -> Int -> (Int -> Int -> Option Int) -> Int -> Int -> (List Int) -> Option (List Int)
 | 0, _, _, _, _, _ => none
 | n22 + 1, x17, x18, x19, x20, x21 => (if (decide ((x19 : Int) < x20)) = true then (if 0 <= (1 : Int) then (ck ((0 : Int) <= x17 /\ x17 < (x21.length : Int)) (ck ((0 : Int) <= (W ((((U ((W (x19 + x20)))) : Int).fdiv (2 ^ (min (1 : Int).toNat 64))))) /\ (W ((((U ((W (x19 + x20)))) : Int).fdiv (2 ^ (min (1 : Int).toNat 64))))) < (x21.length : Int)) ((x18 (gt x21 x17) ((gt x21 ((W ((((U ((W (x19 + x20)))) : Int).fdiv (2 ^ (min (1 : Int).toNat 64))))))))).bind fun y23 => (if (!(decide ((y23 : Int) < 0))) = true then ((z0e φ n22) x17 x18 ((W ((W ((((U ((W (x19 + x20)))) : Int).fdiv (2 ^ (min (1 : Int).toNat 64))))) + 1))) x20 x21) else ((z0e φ n22) x17 x18 x19 ((W ((((U ((W (x19 + x20)))) : Int).fdiv (2 ^ (min (1 : Int).toNat 64)))))) x21))))) else none) else (z2x φ φ x19 x17 x21))
def z2p (φ : Nat) (k0 : ((List Int) -> Int -> Int -> Int -> (Int -> Int -> Option Int) -> Option (List Int))) (x58 : Int) (x59 : (Int -> Int -> Option Int)) (x60 : Int) (x61 : Int) (x62 : (List Int)) : Option (List Int) := (if ((decide ((x60 : Int) < x61)) && (decide ((x61 : Int) < x58))) = true then ((k0 x62 x60 x61 x58 x59).bind fun y64 => (some y64)) else (some x62))
def z2t (φ : Nat) (k0 : ((List Int) -> Int -> Int -> Int -> (Int -> Int -> Option Int) -> Option (List Int))) (x50 : Int) (x51 : Int) (x52 : (Int -> Int -> Option Int)) (x53 : Int) (x54 : Int) (x55 : Int) (x56 : (List Int)) : Option (List Int) := (if ((decide ((x50 : Int) < x54)) && (decide ((x54 : Int) < x53))) = true then ((k0 x56 x50 x54 x53 x52).bind fun y65 => (z2p φ k0 x51 x52 x53 x55 y65)) else (z2p φ k0 x51 x52 x53 x55 x56))
def z0d (φ : Nat) (k0 : ((List Int) -> Int -> Int -> Int -> (Int -> Int -> Option Int) -> Option (List Int))) : Nat -> Int -> Int -> Int -> (Int -> Int -> Option Int) -> Int -> Int -> Int -> Int -> Int -> (List Int) -> Option (List Int)
 | 0, _, _, _, _, _, _, _, _, _, _ => none
 | n48 + 1, x38, x39, x40, x41, x42, x43, x44, x45, x46, x47 => (if (decide ((x44 : Int) < x45)) = true then (if 0 <= (1 : Int) then (ck ((0 : Int) <= (W (x46 - (W ((((U ((W (x44 + x45)))) : Int).fdiv (2 ^ (min (1 : Int).toNat 64))))))) /\ (W (x46 - (W ((((U ((W (x44 + x45)))) : Int).fdiv (2 ^ (min (1 : Int).toNat 64))))))) < (x47.length : Int)) (ck ((0 : Int) <= (W ((((U ((W (x44 + x45)))) : Int).fdiv (2 ^ (min (1 : Int).toNat 64))))) /\ (W ((((U ((W (x44 + x45)))) : Int).fdiv (2 ^ (min (1 : Int).toNat 64))))) < (x47.length : Int)) ((x41 ((gt x47 ((W (x46 - (W ((((U ((W (x44 + x45)))) : Int).fdiv (2 ^ (min (1 : Int).toNat 64)))))))))) ((gt x47 ((W ((((U ((W (x44 + x45)))) : Int).fdiv (2 ^ (min (1 : Int).toNat 64))))))))).bind fun y49 => (if (!(decide ((y49 : Int) < 0))) = true then ((z0d φ k0 n48) x38 x39 x40 x41 x42 x43 ((W ((W ((((U ((W (x44 + x45)))) : Int).fdiv (2 ^ (min (1 : Int).toNat 64))))) + 1))) x45 x46 x47) else ((z0d φ k0 n48) x38 x39 x40 x41 x42 x43 x44 ((W ((((U ((W (x44 + x45)))) : Int).fdiv (2 ^ (min (1 : Int).toNat 64)))))) x46 x47))))) else none) else (if ((decide ((x44 : Int) < x39)) && (decide ((x39 : Int) < (W (x43 - x44))))) = true then ((z8h φ x47 x44 x39 (W (x43 - x44)) x41).bind fun y66 => (z2t φ k0 x38 x40 x41 x42 x44 (W (x43 - x44)) y66)) else (z2t φ k0 x38 x40 x41 x42 x44 (W (x43 - x44)) x47)))
def z2s (φ : Nat) (k0 : ((List Int) -> Int -> Int -> Int -> (Int -> Int -> Option Int) -> Option (List Int))) (x28 : Int) (x29 : Int) (x30 : Int) (x31 : (Int -> Int -> Option Int)) (x32 : Int) (x33 : Int) (x34 : Int) (x35 : Int) (x36 : (List Int)) : Option (List Int) := (z0d φ k0 φ x28 x29 x30 x31 x32 x33 x34 x35 (W (x33 - 1)) x36)
def zi (φ : Nat) : Nat -> (List Int) -> Int -> Int -> Int -> (Int -> Int -> Option Int) -> Option (List Int)
 | 0, _, _, _, _, _ => none
 | d + 1, x1, x2, x3, x4, x5 => (if (((W (x3 - x2)) : Int) == 1) = true then (z0i φ φ x2 x5 x3 x4 x1) else (if (((W (x4 - x3)) : Int) == 1) = true then (z0e φ φ x3 x5 x2 x3 x1) else (if 0 <= (1 : Int) then (if (decide (((W ((((U ((W (x2 + x4)))) : Int).fdiv (2 ^ (min (1 : Int).toNat 64))))) : Int) < x3)) = true then (z2s φ (zi φ d) x2 x3 x4 x5 ((W ((((U ((W (x2 + x4)))) : Int).fdiv (2 ^ (min (1 : Int).toNat 64)))))) ((W ((W ((((U ((W (x2 + x4)))) : Int).fdiv (2 ^ (min (1 : Int).toNat 64))))) + x3))) ((W ((W ((W ((((U ((W (x2 + x4)))) : Int).fdiv (2 ^ (min (1 : Int).toNat 64))))) + x3)) - x4))) ((W ((((U ((W (x2 + x4)))) : Int).fdiv (2 ^ (min (1 : Int).toNat 64)))))) x1) else (z2s φ (zi φ d) x2 x3 x4 x5 ((W ((((U ((W (x2 + x4)))) : Int).fdiv (2 ^ (min (1 : Int).toNat 64)))))) ((W ((W ((((U ((W (x2 + x4)))) : Int).fdiv (2 ^ (min (1 : Int).toNat 64))))) + x3))) x2 x3 x1)) else none)))
def z0z (φ d : Nat) : Msp TV := ⟨3, 0, [.val 0, .val 0, .val 0, .cmp 0], fun l z => zi φ d l z.1 z.2.1 z.2.2.1 z.2.2.2.1⟩
def z3t (φ : Nat) (k17 : (Int -> (Int -> Int -> Option Int) -> Int -> (List Int) -> Option (List Int))) : Nat -> Int -> (Int -> Int -> Option Int) -> Int -> Int -> Int -> (List Int) -> Option (List Int)
 | 0, _, _, _, _, _, _ => none
 | n24 + 1, x18, x19, x20, x21, x22, x23 => (if (decide ((x22 : Int) <= x18)) = true then ((zi φ φ x23 x21 (W (x21 + x20)) x22 x19).bind fun y25 => ((z3t φ k17 n24) x18 x19 x20 x22 ((W (x22 + (W (2 * x20))))) y25)) else (if (decide (((W (x21 + x20)) : Int) < x18)) = true then ((zi φ φ x23 x21 (W (x21 + x20)) x18 x19).bind fun y26 => (k17 x18 x19 (W (x20 * 2)) y26)) else (k17 x18 x19 (W (x20 * 2)) x23)))
def z3k (φ : Nat) : Nat -> Int -> (Int -> Int -> Option Int) -> Int -> (List Int) -> Option (List Int)
 | 0, _, _, _, _ => none
 | n17 + 1, x13, x14, x15, x16 => (if (decide ((x15 : Int) < x13)) = true then (z3t φ (z3k φ n17) φ x13 x14 x15 0 (W (2 * x15)) x16) else (some x16))
def z3o (φ : Nat) : Nat -> Int -> (Int -> Int -> Option Int) -> Int -> Int -> Int -> (List Int) -> Option (List Int)
 | 0, _, _, _, _, _, _ => none
 | n10 + 1, x4, x5, x6, x7, x8, x9 => (if (decide ((x8 : Int) <= x4)) = true then ((z1z φ x9 x7 x8 x5).bind fun y11 => ((z3o φ n10) x4 x5 x6 x8 (W (x8 + x6)) y11)) else ((z1z φ x9 x7 x4 x5).bind fun y12 => (z3k φ φ x4 x5 x6 y12)))
def z8g (φ : Nat) (x1 : (List Int)) (x2 : Int) (x3 : (Int -> Int -> Option Int)) : Option (List Int) := (z3o φ φ x2 x3 20 0 20 x1)
def z4h (φ : Nat) : Msp TV := ⟨3, 0, [.val 0, .cmp 0], fun l z => z8g φ l z.1 z.2.1⟩
def z2h (φ : Nat) (x1 : (List Int)) (x2 : (Int -> Int -> Option Int)) : Option (List Int) := ((z8g φ x1 (x1.length : Int) x2).bind fun y3 => (some y3))
def z44 (φ : Nat) : Msp TV := ⟨3, 0, [.cmp 0], fun l z => z2h φ l z.1⟩
def zc8 (φ : Nat) (x1 : Pool) (x2 : z1) : Option (Bool × Unit) := (ck ((0 : Int) <= x2.item.place /\ x2.item.place < (x1.network.places.length : Int)) (some ((((x2.ref.railway : Int) != x2.item.other) && (((((gt x1.network.places x2.item.place).railway : Int) == x2.ref.railway) && (((gt x1.network.places x2.item.place).other : Int) == x2.item.other)) || ((((gt x1.network.places x2.item.place).railway : Int) == x2.item.other) && (((gt x1.network.places x2.item.place).other : Int) == x2.ref.railway)))), ())))
def z9u (φ : Nat) : Fsp TV := ⟨[39, 7], [.val 1], fun z => zc8 φ z.1 z.2.1⟩
def zah (φ : Nat) (x1 : z1) (x2 : z1) : Option (Int × Unit) := (some ((max2 (W (x1.item.from_ - x2.item.from_)) (W (x2.item.from_ - x1.item.from_))), ()))
def ze7 (φ : Nat) : Fsp TV := ⟨[7, 7], [.val 0], fun z => zah φ z.1 z.2.1⟩
def z07 (φ : Nat) (k15 : (Int -> Int -> Pool -> (List z1) -> (List Int) -> (List (Int × Bool)) -> (List (Nat -> Int)) -> (List Int) -> Option ((List (Nat -> Int)) × Unit))) : Nat -> Int -> Int -> Int -> Int -> Int -> Int -> Pool -> (List z1) -> (List Int) -> (List (Int × Bool)) -> (List (Nat -> Int)) -> z1 -> (List Int) -> Option ((List (Nat -> Int)) × Unit)
 | 0, _, _, _, _, _, _, _, _, _, _, _, _, _ => none
 | n30 + 1, x17, x18, x19, x20, x21, x22, x23, x24, x25, x26, x27, x28, x29 => (if (decide ((x22 : Int) < x21)) = true then (ck ((0 : Int) <= x22 /\ x22 < (x25.length : Int)) (ck ((0 : Int) <= (gt x25 x22) /\ (gt x25 x22) < (x24.length : Int)) ((zx (default, ()) (((((((cget kl_0 x26 (gt x25 x22)).getD (default : Bool)) || ((((gt x24 (gt x25 x22)).ref).railway : Int) != x28.item.other)) || ((((gt x24 (gt x25 x22)).item).other : Int) != x28.ref.railway)) || ((((gt x24 (gt x25 x22)).item).wagon : Int) != x28.item.wagon)) || ((((gt x24 (gt x25 x22)).item).place : Int) != x28.item.place)) = false) (zah φ x28 (gt x24 (gt x25 x22)))).bind fun y31 => (if (((((((cget kl_0 x26 (gt x25 x22)).getD (default : Bool)) || ((((gt x24 (gt x25 x22)).ref).railway : Int) != x28.item.other)) || ((((gt x24 (gt x25 x22)).item).other : Int) != x28.ref.railway)) || ((((gt x24 (gt x25 x22)).item).wagon : Int) != x28.item.wagon)) || ((((gt x24 (gt x25 x22)).item).place : Int) != x28.item.place)) || (decide ((60 : Int) < y31.1))) = true then ((z07 φ k15 n30) x17 x18 x19 x20 x21 (W (x22 + 1)) x23 x24 x25 x26 x27 x28 x29) else (ck (((decide ((0 : Int) <= x18)) = true) -> (0 : Int) <= x18 /\ x18 < (x24.length : Int)) ((zx (default, ()) ((decide ((0 : Int) <= x18)) = true) (zah φ x28 (gt x24 x18))).bind fun y32 => ((zx (default, ()) ((decide ((0 : Int) <= x18)) = true) (zah φ x28 (gt x24 (gt x25 x22)))).bind fun y33 => ((zx (default, ()) ((decide ((0 : Int) <= x18)) = true) (z1g φ y32.1 y33.1)).bind fun y34 => (ck (((decide ((0 : Int) <= x18)) = true) -> (0 : Int) <= x18 /\ x18 < (x24.length : Int)) ((zx (default, ()) ((decide ((0 : Int) <= x18)) = true) (z62 φ ((gt x24 x18).ref) ((gt x24 (gt x25 x22)).ref))).bind fun y35 => ((zx (default, ()) ((decide ((0 : Int) <= x18)) = true) (zfs φ ([y34.1, y35.1]))).bind fun y36 => (if ((decide ((0 : Int) <= x18)) && (decide ((y36.1 : Int) <= 0))) = true then ((z07 φ k15 n30) x17 x18 x19 x20 x21 (W (x22 + 1)) x23 x24 x25 x26 x27 x28 x29) else ((z07 φ k15 n30) x17 (gt x25 x22) x19 x20 x21 (W (x22 + 1)) x23 x24 x25 x26 x27 x28 x29))))))))))))) else (if (decide ((0 : Int) <= x18)) = true then (ck (fits (x27.length + ([(upd (upd (fun _ => (default : Int)) 0 x17) 1 x18)]).length) 16) (k15 x19 (W (x20 + 1)) x23 x24 x25 (cset kl_0 x26 x18 true) ((x27 ++ [(upd (upd (fun _ => (default : Int)) 0 x17) 1 x18)])) x29)) else (k15 x19 (W (x20 + 1)) x23 x24 x25 x26 x27 x29)))
def z17 (φ : Nat) : Nat -> Int -> Int -> Pool -> (List z1) -> (List Int) -> (List (Int × Bool)) -> (List (Nat -> Int)) -> (List Int) -> Option ((List (Nat -> Int)) × Unit)
 | 0, _, _, _, _, _, _, _, _ => none
 | n15 + 1, x7, x8, x9, x10, x11, x12, x13, x14 => (if (decide ((x8 : Int) < x7)) = true then (ck ((0 : Int) <= x8 /\ x8 < (x14.length : Int)) (ck ((0 : Int) <= (gt x14 x8) /\ (gt x14 x8) < (x10.length : Int)) ((zc8 φ x9 (gt x10 (gt x14 x8))).bind fun y16 => (if (!y16.1) = true then ((z17 φ n15) x7 (W (x8 + 1)) x9 x10 x11 x12 x13 x14) else (z07 φ (z17 φ n15) φ (gt x14 x8) (-1) x7 x8 (x11.length : Int) 0 x9 x10 x11 x12 x13 (gt x10 (gt x14 x8)) x14))))) else (some (x13, ())))
def zac (φ : Nat) (x1 : Pool) (x2 : (List z1)) : Option ((List (Nat -> Int)) × Unit) := ((z49 φ x1).bind fun y3 => (if ((y3.1 : Int) != 0) = true then (some (([] : List (Nat -> Int)), ())) else ((zcz φ x1 x2 3).bind fun y4 => ((zcz φ x1 x2 4).bind fun y5 => ((z2h φ y4.1 (fun a b => (z4v φ a b x2).bind fun r => (some r.1))).bind fun y6 => (z17 φ φ (y6.length : Int) 0 x1 x2 y5.1 ([] : (List (Int × Bool))) ([] : List (Nat -> Int)) y6))))))
def zb7 (φ : Nat) : Fsp TV := ⟨[39, 10], [.val 43], fun z => zac φ z.1 z.2.1⟩
def z0r (φ : Nat) (k10 : (Int -> Int -> (z7 -> z7 -> Option Int) -> Int -> (List z7) -> Option (List z7))) : Nat -> Int -> Int -> (z7 -> z7 -> Option Int) -> Int -> Int -> (List z7) -> Option (List z7)
 | 0, _, _, _, _, _, _ => none
 | n17 + 1, x11, x12, x13, x14, x15, x16 => (ck (((decide ((x11 : Int) < x15)) = true) -> (0 : Int) <= x15 /\ x15 < (x16.length : Int)) (ck (((decide ((x11 : Int) < x15)) = true) -> (0 : Int) <= (W (x15 - 1)) /\ (W (x15 - 1)) < (x16.length : Int)) ((zx (0 : Int) ((decide ((x11 : Int) < x15)) = true) (x13 (gt x16 x15) (gt x16 (W (x15 - 1))))).bind fun y18 => (if ((decide ((x11 : Int) < x15)) && (decide ((y18 : Int) < 0))) = true then (ck ((0 : Int) <= (W (x15 - 1)) /\ (W (x15 - 1)) < (x16.length : Int)) (ck ((0 : Int) <= x15 /\ x15 < (x16.length : Int)) (ck ((0 : Int) <= x15 /\ x15 < (x16.length : Int)) (ck ((0 : Int) <= (W (x15 - 1)) /\ (W (x15 - 1)) < (((z0l x16 x15 (gt x16 (W (x15 - 1))))).length : Int)) ((z0r φ k10 n17) x11 x12 x13 x14 (W (x15 - 1)) ((z0l ((z0l x16 x15 (gt x16 (W (x15 - 1))))) (W (x15 - 1)) (gt x16 x15)))))))) else (k10 x11 x12 x13 (W (x14 + 1)) x16)))))
def z0u (φ : Nat) : Nat -> Int -> Int -> (z7 -> z7 -> Option Int) -> Int -> (List z7) -> Option (List z7)
 | 0, _, _, _, _, _ => none
 | n10 + 1, x5, x6, x7, x8, x9 => (if (decide ((x8 : Int) < x6)) = true then (z0r φ (z0u φ n10) φ x5 x6 x7 x8 x8 x9) else (some x9))
def z2c (φ : Nat) (x1 : (List z7)) (x2 : Int) (x3 : Int) (x4 : (z7 -> z7 -> Option Int)) : Option (List z7) := (z0u φ φ x2 x3 x4 (W (x2 + 1)) x1)
def z1i (φ : Nat) : Msp TV := ⟨165, 44, [.val 0, .val 0, .cmp 44], fun l z => z2c φ l z.1 z.2.1 z.2.2.1⟩
def z2f (φ : Nat) : Nat -> Int -> Int -> Int -> Int -> (List z7) -> Option (List z7)
 | 0, _, _, _, _, _ => none
 | n11 + 1, x6, x7, x8, x9, x10 => (if (decide ((x9 : Int) < x8)) = true then (ck ((0 : Int) <= (W (x7 + x9)) /\ (W (x7 + x9)) < (x10.length : Int)) (ck ((0 : Int) <= (W (x6 + x9)) /\ (W (x6 + x9)) < (x10.length : Int)) (ck ((0 : Int) <= (W (x6 + x9)) /\ (W (x6 + x9)) < (x10.length : Int)) (ck ((0 : Int) <= (W (x7 + x9)) /\ (W (x7 + x9)) < (((z0l x10 (W (x6 + x9)) (gt x10 (W (x7 + x9))))).length : Int)) ((z2f φ n11) x6 x7 x8 (W (x9 + 1)) ((z0l ((z0l x10 (W (x6 + x9)) (gt x10 (W (x7 + x9))))) (W (x7 + x9)) (gt x10 (W (x6 + x9)))))))))) else (some x10))
def z1m (φ : Nat) (x1 : (List z7)) (x2 : Int) (x3 : Int) (x4 : Int) (x5 : (z7 -> z7 -> Option Int)) : Option (List z7) := (z2f φ φ x2 x3 x4 0 x1)
def z3f (φ : Nat) : Msp TV := ⟨165, 44, [.val 0, .val 0, .val 0, .cmp 44], fun l z => z1m φ l z.1 z.2.1 z.2.2.1 z.2.2.2.1⟩
def z11 (φ : Nat) : Nat -> Int -> (z7 -> z7 -> Option Int) -> Int -> Int -> (List z7) -> Option (List z7)
 | 0, _, _, _, _, _ => none
 | n11 + 1, x6, x7, x8, x9, x10 => (if ((x8 : Int) != x9) = true then (if (decide ((x9 : Int) < x8)) = true then ((z1m φ x10 (W (x6 - x8)) x6 x9 x7).bind fun y12 => ((z11 φ n11) x6 x7 (W (x8 - x9)) x9 y12)) else ((z1m φ x10 (W (x6 - x8)) ((W ((W (x6 + x9)) - x8))) x8 x7).bind fun y13 => ((z11 φ n11) x6 x7 x8 (W (x9 - x8)) y13))) else ((z1m φ x10 (W (x6 - x8)) x6 x8 x7).bind fun y14 => (some y14)))
def z8d (φ : Nat) (x1 : (List z7)) (x2 : Int) (x3 : Int) (x4 : Int) (x5 : (z7 -> z7 -> Option Int)) : Option (List z7) := (z11 φ φ x3 x5 (W (x3 - x2)) (W (x4 - x3)) x1)
def z4r (φ : Nat) : Msp TV := ⟨165, 44, [.val 0, .val 0, .val 0, .cmp 44], fun l z => z8d φ l z.1 z.2.1 z.2.2.1 z.2.2.2.1⟩
def z2n (φ : Nat) : Nat -> Int -> Int -> (List z7) -> Option (List z7)
 | 0, _, _, _ => none
 | n16 + 1, x13, x14, x15 => (if (decide ((x14 : Int) < (W (x13 - 1)))) = true then (ck ((0 : Int) <= (W (x14 + 1)) /\ (W (x14 + 1)) < (x15.length : Int)) (ck ((0 : Int) <= x14 /\ x14 < (x15.length : Int)) (ck ((0 : Int) <= x14 /\ x14 < (x15.length : Int)) (ck ((0 : Int) <= (W (x14 + 1)) /\ (W (x14 + 1)) < (((z0l x15 x14 (gt x15 (W (x14 + 1))))).length : Int)) ((z2n φ n16) x13 (W (x14 + 1)) ((z0l ((z0l x15 x14 (gt x15 (W (x14 + 1))))) (W (x14 + 1)) (gt x15 x14)))))))) else (some x15))
def z0g (φ : Nat) : Nat -> Int -> (z7 -> z7 -> Option Int) -> Int -> Int -> (List z7) -> Option (List z7)
 | 0, _, _, _, _, _ => none
 | n11 + 1, x6, x7, x8, x9, x10 => (if (decide ((x8 : Int) < x9)) = true then (if 0 <= (1 : Int) then (ck ((0 : Int) <= (W ((((U ((W (x8 + x9)))) : Int).fdiv (2 ^ (min (1 : Int).toNat 64))))) /\ (W ((((U ((W (x8 + x9)))) : Int).fdiv (2 ^ (min (1 : Int).toNat 64))))) < (x10.length : Int)) (ck ((0 : Int) <= x6 /\ x6 < (x10.length : Int)) ((x7 (((gt x10 ((W ((((U ((W (x8 + x9)))) : Int).fdiv (2 ^ (min (1 : Int).toNat 64))))))))) (gt x10 x6)).bind fun y12 => (if (decide ((y12 : Int) < 0)) = true then ((z0g φ n11) x6 x7 ((W ((W ((((U ((W (x8 + x9)))) : Int).fdiv (2 ^ (min (1 : Int).toNat 64))))) + 1))) x9 x10) else ((z0g φ n11) x6 x7 x8 ((W ((((U ((W (x8 + x9)))) : Int).fdiv (2 ^ (min (1 : Int).toNat 64)))))) x10))))) else none) else (z2n φ φ x8 x6 x10))
def z2q (φ : Nat) : Nat -> Int -> Int -> (List z7) -> Option (List z7)
 | 0, _, _, _ => none
 | n27 + 1, x24, x25, x26 => (if (decide ((x24 : Int) < x25)) = true then (ck ((0 : Int) <= (W (x25 - 1)) /\ (W (x25 - 1)) < (x26.length : Int)) (ck ((0 : Int) <= x25 /\ x25 < (x26.length : Int)) (ck ((0 : Int) <= x25 /\ x25 < (x26.length : Int)) (ck ((0 : Int) <= (W (x25 - 1)) /\ (W (x25 - 1)) < (((z0l x26 x25 (gt x26 (W (x25 - 1))))).length : Int)) ((z2q φ n27) x24 (W (x25 - 1)) ((z0l ((z0l x26 x25 (gt x26 (W (x25 - 1))))) (W (x25 - 1)) (gt x26 x25)))))))) else (some x26))
end Px
end
section
set_option linter.unusedVariables false
set_option linter.unusedSimpArgs false
set_option maxHeartbeats 4000000
set_option maxRecDepth 100000
namespace Px
open Go Go.RowKit
def z0f (φ : Nat) : Nat -> Int -> (z7 -> z7 -> Option Int) -> Int -> Int -> (List z7) -> Option (List z7)
 | 0, _, _, _, _, _ => none
 | n22 + 1, x17, x18, x19, x20, x21 => (if (decide ((x19 : Int) < x20)) = true then (if 0 <= (1 : Int) then (ck ((0 : Int) <= x17 /\ x17 < (x21.length : Int)) (ck ((0 : Int) <= (W ((((U ((W (x19 + x20)))) : Int).fdiv (2 ^ (min (1 : Int).toNat 64))))) /\ (W ((((U ((W (x19 + x20)))) : Int).fdiv (2 ^ (min (1 : Int).toNat 64))))) < (x21.length : Int)) ((x18 (gt x21 x17) (((gt x21 ((W ((((U ((W (x19 + x20)))) : Int).fdiv (2 ^ (min (1 : Int).toNat 64)))))))))).bind fun y23 => (if (!(decide ((y23 : Int) < 0))) = true then ((z0f φ n22) x17 x18 ((W ((W ((((U ((W (x19 + x20)))) : Int).fdiv (2 ^ (min (1 : Int).toNat 64))))) + 1))) x20 x21) else ((z0f φ n22) x17 x18 x19 ((W ((((U ((W (x19 + x20)))) : Int).fdiv (2 ^ (min (1 : Int).toNat 64)))))) x21))))) else none) else (z2q φ φ x19 x17 x21))
def z2o (φ : Nat) (k0 : ((List z7) -> Int -> Int -> Int -> (z7 -> z7 -> Option Int) -> Option (List z7))) (x58 : Int) (x59 : (z7 -> z7 -> Option Int)) (x60 : Int) (x61 : Int) (x62 : (List z7)) : Option (List z7) := (if ((decide ((x60 : Int) < x61)) && (decide ((x61 : Int) < x58))) = true then ((k0 x62 x60 x61 x58 x59).bind fun y64 => (some y64)) else (some x62))
def z2w (φ : Nat) (k0 : ((List z7) -> Int -> Int -> Int -> (z7 -> z7 -> Option Int) -> Option (List z7))) (x50 : Int) (x51 : Int) (x52 : (z7 -> z7 -> Option Int)) (x53 : Int) (x54 : Int) (x55 : Int) (x56 : (List z7)) : Option (List z7) := (if ((decide ((x50 : Int) < x54)) && (decide ((x54 : Int) < x53))) = true then ((k0 x56 x50 x54 x53 x52).bind fun y65 => (z2o φ k0 x51 x52 x53 x55 y65)) else (z2o φ k0 x51 x52 x53 x55 x56))
def z0h (φ : Nat) (k0 : ((List z7) -> Int -> Int -> Int -> (z7 -> z7 -> Option Int) -> Option (List z7))) : Nat -> Int -> Int -> Int -> (z7 -> z7 -> Option Int) -> Int -> Int -> Int -> Int -> Int -> (List z7) -> Option (List z7)
 | 0, _, _, _, _, _, _, _, _, _, _ => none
 | n48 + 1, x38, x39, x40, x41, x42, x43, x44, x45, x46, x47 => (if (decide ((x44 : Int) < x45)) = true then (if 0 <= (1 : Int) then (ck ((0 : Int) <= (W (x46 - (W ((((U ((W (x44 + x45)))) : Int).fdiv (2 ^ (min (1 : Int).toNat 64))))))) /\ (W (x46 - (W ((((U ((W (x44 + x45)))) : Int).fdiv (2 ^ (min (1 : Int).toNat 64))))))) < (x47.length : Int)) (ck ((0 : Int) <= (W ((((U ((W (x44 + x45)))) : Int).fdiv (2 ^ (min (1 : Int).toNat 64))))) /\ (W ((((U ((W (x44 + x45)))) : Int).fdiv (2 ^ (min (1 : Int).toNat 64))))) < (x47.length : Int)) ((x41 (((gt x47 ((W (x46 - (W ((((U ((W (x44 + x45)))) : Int).fdiv (2 ^ (min (1 : Int).toNat 64))))))))))) (((gt x47 ((W ((((U ((W (x44 + x45)))) : Int).fdiv (2 ^ (min (1 : Int).toNat 64)))))))))).bind fun y49 => (if (!(decide ((y49 : Int) < 0))) = true then ((z0h φ k0 n48) x38 x39 x40 x41 x42 x43 ((W ((W ((((U ((W (x44 + x45)))) : Int).fdiv (2 ^ (min (1 : Int).toNat 64))))) + 1))) x45 x46 x47) else ((z0h φ k0 n48) x38 x39 x40 x41 x42 x43 x44 ((W ((((U ((W (x44 + x45)))) : Int).fdiv (2 ^ (min (1 : Int).toNat 64)))))) x46 x47))))) else none) else (if ((decide ((x44 : Int) < x39)) && (decide ((x39 : Int) < (W (x43 - x44))))) = true then ((z8d φ x47 x44 x39 (W (x43 - x44)) x41).bind fun y66 => (z2w φ k0 x38 x40 x41 x42 x44 (W (x43 - x44)) y66)) else (z2w φ k0 x38 x40 x41 x42 x44 (W (x43 - x44)) x47)))
def z2m (φ : Nat) (k0 : ((List z7) -> Int -> Int -> Int -> (z7 -> z7 -> Option Int) -> Option (List z7))) (x28 : Int) (x29 : Int) (x30 : Int) (x31 : (z7 -> z7 -> Option Int)) (x32 : Int) (x33 : Int) (x34 : Int) (x35 : Int) (x36 : (List z7)) : Option (List z7) := (z0h φ k0 φ x28 x29 x30 x31 x32 x33 x34 x35 (W (x33 - 1)) x36)
def zj (φ : Nat) : Nat -> (List z7) -> Int -> Int -> Int -> (z7 -> z7 -> Option Int) -> Option (List z7)
 | 0, _, _, _, _, _ => none
 | d + 1, x1, x2, x3, x4, x5 => (if (((W (x3 - x2)) : Int) == 1) = true then (z0g φ φ x2 x5 x3 x4 x1) else (if (((W (x4 - x3)) : Int) == 1) = true then (z0f φ φ x3 x5 x2 x3 x1) else (if 0 <= (1 : Int) then (if (decide (((W ((((U ((W (x2 + x4)))) : Int).fdiv (2 ^ (min (1 : Int).toNat 64))))) : Int) < x3)) = true then (z2m φ (zj φ d) x2 x3 x4 x5 ((W ((((U ((W (x2 + x4)))) : Int).fdiv (2 ^ (min (1 : Int).toNat 64)))))) ((W ((W ((((U ((W (x2 + x4)))) : Int).fdiv (2 ^ (min (1 : Int).toNat 64))))) + x3))) ((W ((W ((W ((((U ((W (x2 + x4)))) : Int).fdiv (2 ^ (min (1 : Int).toNat 64))))) + x3)) - x4))) ((W ((((U ((W (x2 + x4)))) : Int).fdiv (2 ^ (min (1 : Int).toNat 64)))))) x1) else (z2m φ (zj φ d) x2 x3 x4 x5 ((W ((((U ((W (x2 + x4)))) : Int).fdiv (2 ^ (min (1 : Int).toNat 64)))))) ((W ((W ((((U ((W (x2 + x4)))) : Int).fdiv (2 ^ (min (1 : Int).toNat 64))))) + x3))) x2 x3 x1)) else none)))
def z14 (φ d : Nat) : Msp TV := ⟨165, 44, [.val 0, .val 0, .val 0, .cmp 44], fun l z => zj φ d l z.1 z.2.1 z.2.2.1 z.2.2.2.1⟩
def z3r (φ : Nat) (k17 : (Int -> (z7 -> z7 -> Option Int) -> Int -> (List z7) -> Option (List z7))) : Nat -> Int -> (z7 -> z7 -> Option Int) -> Int -> Int -> Int -> (List z7) -> Option (List z7)
 | 0, _, _, _, _, _, _ => none
 | n24 + 1, x18, x19, x20, x21, x22, x23 => (if (decide ((x22 : Int) <= x18)) = true then ((zj φ φ x23 x21 (W (x21 + x20)) x22 x19).bind fun y25 => ((z3r φ k17 n24) x18 x19 x20 x22 ((W (x22 + (W (2 * x20))))) y25)) else (if (decide (((W (x21 + x20)) : Int) < x18)) = true then ((zj φ φ x23 x21 (W (x21 + x20)) x18 x19).bind fun y26 => (k17 x18 x19 (W (x20 * 2)) y26)) else (k17 x18 x19 (W (x20 * 2)) x23)))
def z3w (φ : Nat) : Nat -> Int -> (z7 -> z7 -> Option Int) -> Int -> (List z7) -> Option (List z7)
 | 0, _, _, _, _ => none
 | n17 + 1, x13, x14, x15, x16 => (if (decide ((x15 : Int) < x13)) = true then (z3r φ (z3w φ n17) φ x13 x14 x15 0 (W (2 * x15)) x16) else (some x16))
def z3q (φ : Nat) : Nat -> Int -> (z7 -> z7 -> Option Int) -> Int -> Int -> Int -> (List z7) -> Option (List z7)
 | 0, _, _, _, _, _, _ => none
 | n10 + 1, x4, x5, x6, x7, x8, x9 => (if (decide ((x8 : Int) <= x4)) = true then ((z2c φ x9 x7 x8 x5).bind fun y11 => ((z3q φ n10) x4 x5 x6 x8 (W (x8 + x6)) y11)) else ((z2c φ x9 x7 x4 x5).bind fun y12 => (z3w φ φ x4 x5 x6 y12)))
def z8e (φ : Nat) (x1 : (List z7)) (x2 : Int) (x3 : (z7 -> z7 -> Option Int)) : Option (List z7) := (z3q φ φ x2 x3 20 0 20 x1)
def z4q (φ : Nat) : Msp TV := ⟨165, 44, [.val 0, .cmp 44], fun l z => z8e φ l z.1 z.2.1⟩
def z2l (φ : Nat) (x1 : (List z7)) (x2 : (z7 -> z7 -> Option Int)) : Option (List z7) := ((z8e φ x1 (x1.length : Int) x2).bind fun y3 => (some y3))
def z47 (φ : Nat) : Msp TV := ⟨165, 44, [.cmp 44], fun l z => z2l φ l z.1⟩
def z4w (φ : Nat) (x1 : z7) (x2 : z7) : Option (Int × Unit) := ((z1g φ x1.at_ x2.at_).bind fun y3 => ((z1g φ x1.wagon x2.wagon).bind fun y4 => ((z62 φ x1.deliver x2.deliver).bind fun y5 => ((zfs φ ([y3.1, y4.1, y5.1])).bind fun y6 => (some (y6.1, ()))))))
def z90 (φ : Nat) : Fsp TV := ⟨[44, 44], [.val 0], fun z => z4w φ z.1 z.2.1⟩
def z59 (φ : Nat) (k9 : ((List z1) -> (List (Nat -> Int)) -> Int -> Int -> (List z7) -> Option ((List z7) × Unit))) (x10 : (List z1)) (x11 : (List (Nat -> Int))) (x12 : Int) (x13 : Int) (x14 : (List z7)) (x15 : z1) (x16 : z1) : Option ((List z7) × Unit) := (if (2 : Int) ≠ 0 then (ck (fits (x14.length + ([(⟨x15.item.wagon, x15.item.place, x15.ref.railway, x16.ref.railway, W (((W (x15.item.from_ + x16.item.from_)) : Int).tdiv 2), max2 x15.item.code x16.item.code, x15.ref, x16.ref⟩ : z7)]).length) 80) (k9 x10 x11 x12 (W (x13 + 1)) ((x14 ++ [(⟨x15.item.wagon, x15.item.place, x15.ref.railway, x16.ref.railway, W (((W (x15.item.from_ + x16.item.from_)) : Int).tdiv 2), max2 x15.item.code x16.item.code, x15.ref, x16.ref⟩ : z7)])))) else none)
def z54 (φ : Nat) (k9 : ((List z1) -> (List (Nat -> Int)) -> Int -> Int -> (List z7) -> Option ((List z7) × Unit))) (x18 : (List z1)) (x19 : (List (Nat -> Int))) (x20 : Int) (x21 : Int) (x22 : (List z7)) (x23 : (Nat -> Int)) : Option ((List z7) × Unit) := (ck ((0 : Int) <= (x23 ((0 : Int).toNat)) /\ (x23 ((0 : Int).toNat)) < (x18.length : Int)) (ck ((0 : Int) <= (x23 ((1 : Int).toNat)) /\ (x23 ((1 : Int).toNat)) < (x18.length : Int)) (z59 φ k9 x18 x19 x20 x21 x22 (((gt x18 (x23 ((0 : Int).toNat))))) (((gt x18 (x23 ((1 : Int).toNat))))))))
def z86 (φ : Nat) (k9 : ((List z1) -> (List (Nat -> Int)) -> Int -> Int -> (List z7) -> Option ((List z7) × Unit))) (x18 : (List z1)) (x19 : (List (Nat -> Int))) (x20 : Int) (x21 : Int) (x22 : (List z7)) (x23 : (Nat -> Int)) : Option (List (Option ((List z7) × Unit))) := (ck ((0 : Int) <= (x23 ((0 : Int).toNat)) /\ (x23 ((0 : Int).toNat)) < (x18.length : Int)) (ck ((0 : Int) <= (x23 ((1 : Int).toNat)) /\ (x23 ((1 : Int).toNat)) < (x18.length : Int)) (catL [(catL [(catL [(catL [(some [(z59 φ k9 x18 x19 x20 x21 x22 (((gt x18 (x23 ((0 : Int).toNat))))) (((gt x18 (x23 ((1 : Int).toNat))))))])])])]), (catL [(catL [(catL [(some [(z59 φ k9 x18 x19 x20 x21 x22 (((gt x18 (x23 ((0 : Int).toNat))))) (((gt x18 (x23 ((1 : Int).toNat))))))])])])])])))
def z3y (φ : Nat) : Nat -> (List z1) -> (List (Nat -> Int)) -> Int -> Int -> (List z7) -> Option ((List z7) × Unit)
 | 0, _, _, _, _, _ => none
 | n9 + 1, x4, x5, x6, x7, x8 => (if (decide ((x7 : Int) < x6)) = true then (ck ((0 : Int) <= x7 /\ x7 < (x5.length : Int)) (z54 φ (z3y φ n9) x4 x5 x6 x7 x8 (gt x5 x7))) else ((z2l φ x8 (fun a b => (z4w φ a b).bind fun r => (some r.1))).bind fun y25 => (some (y25, ()))))
def zab (φ : Nat) (x1 : Pool) (x2 : (List z1)) : Option ((List z7) × Unit) := ((zac φ x1 x2).bind fun y3 => (z3y φ φ x2 y3.1 (y3.1.length : Int) 0 ([] : List z7)))
def zb0 (φ : Nat) : Fsp TV := ⟨[39, 10], [.val 45], fun z => zab φ z.1 z.2.1⟩
def z1c (φ : Nat) : Nat -> Int -> (List z7) -> Int -> Int -> (List z5a) -> Option ((List z5a) × Unit)
 | 0, _, _, _, _, _ => none
 | n10 + 1, x5, x6, x7, x8, x9 => (if (decide ((x8 : Int) < x7)) = true then (ck ((0 : Int) <= x8 /\ x8 < (x6.length : Int)) (ck ((0 : Int) <= (W ((x9.length : Int) - 1)) /\ (W ((x9.length : Int) - 1)) < (x9.length : Int)) (if (((((gt x6 x8).wagon : Int) == x5) && (((gt x6 x8).from_ : Int) == ((gt x9 (W ((x9.length : Int) - 1)))).railway)) && (decide (((((gt x9 (W ((x9.length : Int) - 1)))).span).from_ : Int) < (gt x6 x8).at_))) = true then (ck (fits (x9.length + ([(⟨(gt x6 x8).to, (⟨(gt x6 x8).at_, 0⟩ : Span), (gt x6 x8).receive⟩ : z5a)]).length) 40) ((z1c φ n10) x5 x6 x7 (W (x8 + 1)) ((x9 ++ [(⟨(gt x6 x8).to, (⟨(gt x6 x8).at_, 0⟩ : Span), (gt x6 x8).receive⟩ : z5a)])))) else ((z1c φ n10) x5 x6 x7 (W (x8 + 1)) x9)))) else (some (x9, ())))
def zad (φ : Nat) (x1 : Pool) (x2 : (List z1)) (x3 : Int) : Option ((List z5a) × Unit) := (ck ((0 : Int) <= x3 /\ x3 < (x1.fleet.wagons.length : Int)) (ck ((0 : Int) <= (gt x1.fleet.wagons x3).home /\ (gt x1.fleet.wagons x3).home < (x1.network.places.length : Int)) ((zab φ x1 x2).bind fun y4 => (z1c φ φ x3 y4.1 (y4.1.length : Int) 0 ([(⟨(gt x1.network.places ((gt x1.fleet.wagons x3).home)).railway, (⟨0, 0⟩ : Span), (⟨0, 0⟩ : Ref)⟩ : z5a)])))))
def zbc (φ : Nat) : Fsp TV := ⟨[39, 10, 0], [.val 47], fun z => zad φ z.1 z.2.1 z.2.2.1⟩
def z5r (φ : Nat) : Nat -> Int -> (List z5a) -> Int -> Option (Int × Int × Unit)
 | 0, _, _, _ => none
 | n10 + 1, x7, x8, x9 => (ck ((0 : Int) <= x9 /\ x9 < (x8.length : Int)) (if (decide ((x7 : Int) < ((gt x8 x9).span).from_)) = true then ((z5r φ n10) x7 x8 (W (x9 - 1))) else (ck ((0 : Int) <= x9 /\ x9 < (x8.length : Int)) (some ((gt x8 x9).railway, 0, ())))))
def zcd (φ : Nat) (x1 : Pool) (x2 : (List z1)) (x3 : Int) (x4 : Int) : Option (Int × Int × Unit) := ((zed φ x1 x3 x4).bind fun y5 => (if ((y5.1 : Int) != 0) = true then (some (0, y5.1, ())) else ((zad φ x1 x2 x3).bind fun y6 => (z5r φ φ x4 y6.1 (W ((y6.1.length : Int) - 1))))))
def zbp (φ : Nat) : Fsp TV := ⟨[39, 10, 0, 0], [.val 0, .val 0], fun z => zcd φ z.1 z.2.1 z.2.2.1 z.2.2.2.1⟩
def z3b (φ : Nat) (k23 : ((List z1) -> (List z1) -> Int -> Int -> Pool -> z1 -> (List z1) -> (List (z6 × Bool)) -> Option (Int × Int × Unit))) : Nat -> (List Part) -> Int -> Int -> (List z1) -> (List z1) -> Int -> Int -> Pool -> z1 -> (List z1) -> z1 -> (List (z6 × Bool)) -> Option (Int × Int × Unit)
 | 0, _, _, _, _, _, _, _, _, _, _, _, _ => none
 | n36 + 1, x24, x25, x26, x27, x28, x29, x30, x31, x32, x33, x34, x35 => (if (decide ((x26 : Int) < x25)) = true then (ck ((0 : Int) <= x26 /\ x26 < (x24.length : Int)) ((zef φ (gt x24 x26) x35).bind fun y37 => (if y37.1 = true then ((zx (default, ()) ((((x34.item.kind : Int) == 10) && (decide ((0 : Int) <= x26))) = true) (z5y φ x31 x34.item)).bind fun y38 => (if ((((x34.item.kind : Int) == 10) && (decide ((0 : Int) <= x26))) && ((y38.1 : Int) == 0)) = true then (ck (fits (x33.length + ([x34]).length) 192) (k23 x27 x28 x29 (W (x30 + 1)) x31 x32 (x33 ++ [x34]) x35)) else (k23 x27 x28 x29 (W (x30 + 1)) x31 x32 x33 x35))) else ((z3b φ k23 n36) x24 x25 (W (x26 + 1)) x27 x28 x29 x30 x31 x32 x33 x34 x35)))) else ((zx (default, ()) ((((x34.item.kind : Int) == 10) && false) = true) (z5y φ x31 x34.item)).bind fun y39 => (if ((((x34.item.kind : Int) == 10) && false) && ((y39.1 : Int) == 0)) = true then (ck (fits (x33.length + ([x34]).length) 192) (k23 x27 x28 x29 (W (x30 + 1)) x31 x32 (x33 ++ [x34]) x35)) else (k23 x27 x28 x29 (W (x30 + 1)) x31 x32 x33 x35))))
def z3e (φ : Nat) : Nat -> (List z1) -> (List z1) -> Int -> Int -> Pool -> z1 -> (List z1) -> (List (z6 × Bool)) -> Option (Int × Int × Unit)
 | 0, _, _, _, _, _, _, _, _ => none
 | n23 + 1, x15, x16, x17, x18, x19, x20, x21, x22 => (if (decide ((x18 : Int) < x17)) = true then (ck ((0 : Int) <= x18 /\ x18 < (x16.length : Int)) (z3b φ (z3e φ n23) φ (((gt x16 x18).item).parts) (((((gt x16 x18).item).parts).length : Int)) 0 x15 x16 x17 x18 x19 x20 x21 (gt x16 x18) x22)) else ((z58 φ x21 (fun a b => (z6i φ a b).bind fun r => (some r.1))).bind fun y40 => (if (decide ((0 : Int) < (y40.length : Int))) = true then (ck ((0 : Int) <= 0 /\ 0 < (y40.length : Int)) (some ((W (16 + ((gt y40 0).item).other)), 0, ()))) else (if ((x20.item.code : Int) == 2) = true then (ck ((0 : Int) <= x20.item.wagon /\ x20.item.wagon < (x19.fleet.wagons.length : Int)) (some ((W (16 + (gt x19.fleet.wagons x20.item.wagon).owner)), 0, ()))) else ((zcd φ x19 x15 x20.item.wagon x20.item.from_).bind fun y41 => (some (y41.1, y41.2.1, ())))))))
def z3a (φ : Nat) : Nat -> (List z1) -> (List Part) -> Int -> Int -> Pool -> z1 -> (List (z6 × Bool)) -> Option (Int × Int × Unit)
 | 0, _, _, _, _, _, _, _ => none
 | n13 + 1, x6, x7, x8, x9, x10, x11, x12 => (if (decide ((x9 : Int) < x8)) = true then (ck ((0 : Int) <= x9 /\ x9 < (x7.length : Int)) (if (!(gt x7 x9).fitted) = true then ((zcj φ (gt x7 x9)).bind fun y14 => ((z3a φ n13) x6 x7 x8 (W (x9 + 1)) x10 x11 (cset kl_9 x12 y14.1 true))) else ((z3a φ n13) x6 x7 x8 (W (x9 + 1)) x10 x11 x12))) else (z3e φ φ x6 x6 (x6.length : Int) 0 x10 x11 ([] : List z1) x12))
def zc (φ : Nat) (x1 : Pool) (x2 : (List z1)) (x3 : z1) : Option (Int × Int × Unit) := ((z49 φ x1).bind fun y4 => (if ((y4.1 : Int) != 0) = true then (some (0, y4.1, ())) else ((zx (default, ()) (((x3.item.kind : Int) != 9) = false) (z5y φ x1 x3.item)).bind fun y5 => (if (((x3.item.kind : Int) != 9) || ((y5.1 : Int) != 0)) = true then (some (0, 1, ())) else (z3a φ φ x2 x3.item.parts (x3.item.parts.length : Int) 0 x1 x3 ([] : (List (z6 × Bool))))))))
def za6 (φ : Nat) : Fsp TV := ⟨[39, 10, 7], [.val 0, .val 0], fun z => zc φ z.1 z.2.1 z.2.2.1⟩
def zhk (φ : Nat) : Option (Bool × Unit) := ((z6q φ 7 false).bind fun y1 => ((za8 φ 3 3 60 y1.1).bind fun y2 => ((z6q φ 7 true).bind fun y3 => ((za8 φ 1 3 20 y3.1).bind fun y4 => ((z6q φ 7 true).bind fun y5 => ((za8 φ 2 5 40 y5.1).bind fun y6 => ((z1n φ ([y2.1, y4.1, y6.1]) 2 7 19).bind fun y7 => (if (((y7.1.length : Int) : Int) != 0) = false then ((z1n φ ([y2.1, y4.1, y6.1]) 2 7 20).bind fun y8 => ((z2g φ 3 true).bind fun y9 => ((z0j φ y8.1 ([y9.1])).bind fun y10 => (if (!y10.1) = false then ((z1n φ ([y2.1, y4.1, y6.1]) 2 7 40).bind fun y11 => ((z2g φ 3 false).bind fun y12 => ((z2g φ 5 false).bind fun y13 => ((z0j φ y11.1 ([y12.1, y13.1])).bind fun y14 => (if (!y14.1) = false then ((z1n φ ([y2.1, y4.1, y6.1]) 2 7 60).bind fun y15 => ((z2g φ 5 true).bind fun y16 => ((z0j φ y15.1 ([y16.1])).bind fun y17 => (if (!y17.1) = true then (some (false, ())) else ((z6q φ 7 true).bind fun y18 => ((zw φ ([y2.1, y4.1, y6.1]) 5 60).bind fun y19 => ((z1h φ y19.1 ([y18.1])).bind fun y20 => (if (!y20.1) = false then ((zw φ ([y2.1, y4.1, y6.1]) 3 20).bind fun y21 => ((z1h φ y21.1 ([y18.1])).bind fun y22 => (if (!y22.1) = false then ((zw φ ([y2.1, y4.1, y6.1]) 5 40).bind fun y23 => (if (((y23.1.length : Int) : Int) != 0) = true then (some (false, ())) else ((z00 φ 45 2 7).bind fun y24 => (ck (fits (([y24.1]).length + ([y2.1, y4.1, y6.1]).length) 192) ((z00 φ 45 3 7).bind fun y25 => (ck (fits (([y25.1]).length + ([y2.1, y4.1, y6.1]).length) 192) ((zn φ ([y24.1] ++ [y2.1, y4.1, y6.1]) 60).bind fun y26 => ((z2i φ y26.1 ([5])).bind fun y27 => (if (!y27.1) = false then ((zn φ ([y24.1] ++ [y2.1, y4.1, y6.1]) 44).bind fun y28 => (if (((y28.1.length : Int) : Int) != 0) = true then (some (false, ())) else ((zt φ).bind fun y29 => (ck ((0 : Int) <= 0 /\ 0 < (([y2.1, y4.1, y6.1]).length : Int)) ((zc φ y29.1 ([y2.1, y4.1, y6.1]) (gt ([y2.1, y4.1, y6.1]) 0)).bind fun y30 => ((zt φ).bind fun y31 => (ck ((0 : Int) <= 0 /\ 0 < (([y2.1, y4.1, y6.1]).length : Int)) ((zc φ y31.1 ([y24.1] ++ [y2.1, y4.1, y6.1]) (gt ([y2.1, y4.1, y6.1]) 0)).bind fun y32 => ((zt φ).bind fun y33 => (ck ((0 : Int) <= 0 /\ 0 < (([y2.1, y4.1, y6.1]).length : Int)) ((zc φ y33.1 ([y25.1] ++ [y2.1, y4.1, y6.1]) (gt ([y2.1, y4.1, y6.1]) 0)).bind fun y34 => (some ((((((((y30.2.1 : Int) == 0) && ((y32.2.1 : Int) == 0)) && ((y34.2.1 : Int) == 0)) && ((y30.1 : Int) == 18)) && ((y32.1 : Int) == 20)) && ((y34.1 : Int) == y30.1)), ()))))))))))))) else (some (false, ()))))))))))) else (some (false, ()))))) else (if true = false then ((zw φ ([y2.1, y4.1, y6.1]) 5 40).bind fun y35 => (if (((y35.1.length : Int) : Int) != 0) = true then (some (false, ())) else ((z00 φ 45 2 7).bind fun y36 => (ck (fits (([y36.1]).length + ([y2.1, y4.1, y6.1]).length) 192) ((z00 φ 45 3 7).bind fun y37 => (ck (fits (([y37.1]).length + ([y2.1, y4.1, y6.1]).length) 192) ((zn φ ([y36.1] ++ [y2.1, y4.1, y6.1]) 60).bind fun y38 => ((z2i φ y38.1 ([5])).bind fun y39 => (if (!y39.1) = false then ((zn φ ([y36.1] ++ [y2.1, y4.1, y6.1]) 44).bind fun y40 => (if (((y40.1.length : Int) : Int) != 0) = true then (some (false, ())) else ((zt φ).bind fun y41 => (ck ((0 : Int) <= 0 /\ 0 < (([y2.1, y4.1, y6.1]).length : Int)) ((zc φ y41.1 ([y2.1, y4.1, y6.1]) (gt ([y2.1, y4.1, y6.1]) 0)).bind fun y42 => ((zt φ).bind fun y43 => (ck ((0 : Int) <= 0 /\ 0 < (([y2.1, y4.1, y6.1]).length : Int)) ((zc φ y43.1 ([y36.1] ++ [y2.1, y4.1, y6.1]) (gt ([y2.1, y4.1, y6.1]) 0)).bind fun y44 => ((zt φ).bind fun y45 => (ck ((0 : Int) <= 0 /\ 0 < (([y2.1, y4.1, y6.1]).length : Int)) ((zc φ y45.1 ([y37.1] ++ [y2.1, y4.1, y6.1]) (gt ([y2.1, y4.1, y6.1]) 0)).bind fun y46 => (some ((((((((y42.2.1 : Int) == 0) && ((y44.2.1 : Int) == 0)) && ((y46.2.1 : Int) == 0)) && ((y42.1 : Int) == 18)) && ((y44.1 : Int) == 20)) && ((y46.1 : Int) == y42.1)), ()))))))))))))) else (some (false, ()))))))))))) else (some (false, ()))))))))))) else (some (false, ()))))))) else (if true = false then ((z1n φ ([y2.1, y4.1, y6.1]) 2 7 60).bind fun y47 => ((z2g φ 5 true).bind fun y48 => ((z0j φ y47.1 ([y48.1])).bind fun y49 => (if (!y49.1) = true then (some (false, ())) else ((z6q φ 7 true).bind fun y50 => ((zw φ ([y2.1, y4.1, y6.1]) 5 60).bind fun y51 => ((z1h φ y51.1 ([y50.1])).bind fun y52 => (if (!y52.1) = false then ((zw φ ([y2.1, y4.1, y6.1]) 3 20).bind fun y53 => ((z1h φ y53.1 ([y50.1])).bind fun y54 => (if (!y54.1) = false then ((zw φ ([y2.1, y4.1, y6.1]) 5 40).bind fun y55 => (if (((y55.1.length : Int) : Int) != 0) = true then (some (false, ())) else ((z00 φ 45 2 7).bind fun y56 => (ck (fits (([y56.1]).length + ([y2.1, y4.1, y6.1]).length) 192) ((z00 φ 45 3 7).bind fun y57 => (ck (fits (([y57.1]).length + ([y2.1, y4.1, y6.1]).length) 192) ((zn φ ([y56.1] ++ [y2.1, y4.1, y6.1]) 60).bind fun y58 => ((z2i φ y58.1 ([5])).bind fun y59 => (if (!y59.1) = false then ((zn φ ([y56.1] ++ [y2.1, y4.1, y6.1]) 44).bind fun y60 => (if (((y60.1.length : Int) : Int) != 0) = true then (some (false, ())) else ((zt φ).bind fun y61 => (ck ((0 : Int) <= 0 /\ 0 < (([y2.1, y4.1, y6.1]).length : Int)) ((zc φ y61.1 ([y2.1, y4.1, y6.1]) (gt ([y2.1, y4.1, y6.1]) 0)).bind fun y62 => ((zt φ).bind fun y63 => (ck ((0 : Int) <= 0 /\ 0 < (([y2.1, y4.1, y6.1]).length : Int)) ((zc φ y63.1 ([y56.1] ++ [y2.1, y4.1, y6.1]) (gt ([y2.1, y4.1, y6.1]) 0)).bind fun y64 => ((zt φ).bind fun y65 => (ck ((0 : Int) <= 0 /\ 0 < (([y2.1, y4.1, y6.1]).length : Int)) ((zc φ y65.1 ([y57.1] ++ [y2.1, y4.1, y6.1]) (gt ([y2.1, y4.1, y6.1]) 0)).bind fun y66 => (some ((((((((y62.2.1 : Int) == 0) && ((y64.2.1 : Int) == 0)) && ((y66.2.1 : Int) == 0)) && ((y62.1 : Int) == 18)) && ((y64.1 : Int) == 20)) && ((y66.1 : Int) == y62.1)), ()))))))))))))) else (some (false, ()))))))))))) else (some (false, ()))))) else (if true = false then ((zw φ ([y2.1, y4.1, y6.1]) 5 40).bind fun y67 => (if (((y67.1.length : Int) : Int) != 0) = true then (some (false, ())) else ((z00 φ 45 2 7).bind fun y68 => (ck (fits (([y68.1]).length + ([y2.1, y4.1, y6.1]).length) 192) ((z00 φ 45 3 7).bind fun y69 => (ck (fits (([y69.1]).length + ([y2.1, y4.1, y6.1]).length) 192) ((zn φ ([y68.1] ++ [y2.1, y4.1, y6.1]) 60).bind fun y70 => ((z2i φ y70.1 ([5])).bind fun y71 => (if (!y71.1) = false then ((zn φ ([y68.1] ++ [y2.1, y4.1, y6.1]) 44).bind fun y72 => (if (((y72.1.length : Int) : Int) != 0) = true then (some (false, ())) else ((zt φ).bind fun y73 => (ck ((0 : Int) <= 0 /\ 0 < (([y2.1, y4.1, y6.1]).length : Int)) ((zc φ y73.1 ([y2.1, y4.1, y6.1]) (gt ([y2.1, y4.1, y6.1]) 0)).bind fun y74 => ((zt φ).bind fun y75 => (ck ((0 : Int) <= 0 /\ 0 < (([y2.1, y4.1, y6.1]).length : Int)) ((zc φ y75.1 ([y68.1] ++ [y2.1, y4.1, y6.1]) (gt ([y2.1, y4.1, y6.1]) 0)).bind fun y76 => ((zt φ).bind fun y77 => (ck ((0 : Int) <= 0 /\ 0 < (([y2.1, y4.1, y6.1]).length : Int)) ((zc φ y77.1 ([y69.1] ++ [y2.1, y4.1, y6.1]) (gt ([y2.1, y4.1, y6.1]) 0)).bind fun y78 => (some ((((((((y74.2.1 : Int) == 0) && ((y76.2.1 : Int) == 0)) && ((y78.2.1 : Int) == 0)) && ((y74.1 : Int) == 18)) && ((y76.1 : Int) == 20)) && ((y78.1 : Int) == y74.1)), ()))))))))))))) else (some (false, ()))))))))))) else (some (false, ()))))))))))) else (some (false, ()))))))) else (if true = false then ((z1n φ ([y2.1, y4.1, y6.1]) 2 7 40).bind fun y79 => ((z2g φ 3 false).bind fun y80 => ((z2g φ 5 false).bind fun y81 => ((z0j φ y79.1 ([y80.1, y81.1])).bind fun y82 => (if (!y82.1) = false then ((z1n φ ([y2.1, y4.1, y6.1]) 2 7 60).bind fun y83 => ((z2g φ 5 true).bind fun y84 => ((z0j φ y83.1 ([y84.1])).bind fun y85 => (if (!y85.1) = true then (some (false, ())) else ((z6q φ 7 true).bind fun y86 => ((zw φ ([y2.1, y4.1, y6.1]) 5 60).bind fun y87 => ((z1h φ y87.1 ([y86.1])).bind fun y88 => (if (!y88.1) = false then ((zw φ ([y2.1, y4.1, y6.1]) 3 20).bind fun y89 => ((z1h φ y89.1 ([y86.1])).bind fun y90 => (if (!y90.1) = false then ((zw φ ([y2.1, y4.1, y6.1]) 5 40).bind fun y91 => (if (((y91.1.length : Int) : Int) != 0) = true then (some (false, ())) else ((z00 φ 45 2 7).bind fun y92 => (ck (fits (([y92.1]).length + ([y2.1, y4.1, y6.1]).length) 192) ((z00 φ 45 3 7).bind fun y93 => (ck (fits (([y93.1]).length + ([y2.1, y4.1, y6.1]).length) 192) ((zn φ ([y92.1] ++ [y2.1, y4.1, y6.1]) 60).bind fun y94 => ((z2i φ y94.1 ([5])).bind fun y95 => (if (!y95.1) = false then ((zn φ ([y92.1] ++ [y2.1, y4.1, y6.1]) 44).bind fun y96 => (if (((y96.1.length : Int) : Int) != 0) = true then (some (false, ())) else ((zt φ).bind fun y97 => (ck ((0 : Int) <= 0 /\ 0 < (([y2.1, y4.1, y6.1]).length : Int)) ((zc φ y97.1 ([y2.1, y4.1, y6.1]) (gt ([y2.1, y4.1, y6.1]) 0)).bind fun y98 => ((zt φ).bind fun y99 => (ck ((0 : Int) <= 0 /\ 0 < (([y2.1, y4.1, y6.1]).length : Int)) ((zc φ y99.1 ([y92.1] ++ [y2.1, y4.1, y6.1]) (gt ([y2.1, y4.1, y6.1]) 0)).bind fun y100 => ((zt φ).bind fun y101 => (ck ((0 : Int) <= 0 /\ 0 < (([y2.1, y4.1, y6.1]).length : Int)) ((zc φ y101.1 ([y93.1] ++ [y2.1, y4.1, y6.1]) (gt ([y2.1, y4.1, y6.1]) 0)).bind fun y102 => (some ((((((((y98.2.1 : Int) == 0) && ((y100.2.1 : Int) == 0)) && ((y102.2.1 : Int) == 0)) && ((y98.1 : Int) == 18)) && ((y100.1 : Int) == 20)) && ((y102.1 : Int) == y98.1)), ()))))))))))))) else (some (false, ()))))))))))) else (some (false, ()))))) else (if true = false then ((zw φ ([y2.1, y4.1, y6.1]) 5 40).bind fun y103 => (if (((y103.1.length : Int) : Int) != 0) = true then (some (false, ())) else ((z00 φ 45 2 7).bind fun y104 => (ck (fits (([y104.1]).length + ([y2.1, y4.1, y6.1]).length) 192) ((z00 φ 45 3 7).bind fun y105 => (ck (fits (([y105.1]).length + ([y2.1, y4.1, y6.1]).length) 192) ((zn φ ([y104.1] ++ [y2.1, y4.1, y6.1]) 60).bind fun y106 => ((z2i φ y106.1 ([5])).bind fun y107 => (if (!y107.1) = false then ((zn φ ([y104.1] ++ [y2.1, y4.1, y6.1]) 44).bind fun y108 => (if (((y108.1.length : Int) : Int) != 0) = true then (some (false, ())) else ((zt φ).bind fun y109 => (ck ((0 : Int) <= 0 /\ 0 < (([y2.1, y4.1, y6.1]).length : Int)) ((zc φ y109.1 ([y2.1, y4.1, y6.1]) (gt ([y2.1, y4.1, y6.1]) 0)).bind fun y110 => ((zt φ).bind fun y111 => (ck ((0 : Int) <= 0 /\ 0 < (([y2.1, y4.1, y6.1]).length : Int)) ((zc φ y111.1 ([y104.1] ++ [y2.1, y4.1, y6.1]) (gt ([y2.1, y4.1, y6.1]) 0)).bind fun y112 => ((zt φ).bind fun y113 => (ck ((0 : Int) <= 0 /\ 0 < (([y2.1, y4.1, y6.1]).length : Int)) ((zc φ y113.1 ([y105.1] ++ [y2.1, y4.1, y6.1]) (gt ([y2.1, y4.1, y6.1]) 0)).bind fun y114 => (some ((((((((y110.2.1 : Int) == 0) && ((y112.2.1 : Int) == 0)) && ((y114.2.1 : Int) == 0)) && ((y110.1 : Int) == 18)) && ((y112.1 : Int) == 20)) && ((y114.1 : Int) == y110.1)), ()))))))))))))) else (some (false, ()))))))))))) else (some (false, ()))))))))))) else (some (false, ()))))))) else (if true = false then ((z1n φ ([y2.1, y4.1, y6.1]) 2 7 60).bind fun y115 => ((z2g φ 5 true).bind fun y116 => ((z0j φ y115.1 ([y116.1])).bind fun y117 => (if (!y117.1) = true then (some (false, ())) else ((z6q φ 7 true).bind fun y118 => ((zw φ ([y2.1, y4.1, y6.1]) 5 60).bind fun y119 => ((z1h φ y119.1 ([y118.1])).bind fun y120 => (if (!y120.1) = false then ((zw φ ([y2.1, y4.1, y6.1]) 3 20).bind fun y121 => ((z1h φ y121.1 ([y118.1])).bind fun y122 => (if (!y122.1) = false then ((zw φ ([y2.1, y4.1, y6.1]) 5 40).bind fun y123 => (if (((y123.1.length : Int) : Int) != 0) = true then (some (false, ())) else ((z00 φ 45 2 7).bind fun y124 => (ck (fits (([y124.1]).length + ([y2.1, y4.1, y6.1]).length) 192) ((z00 φ 45 3 7).bind fun y125 => (ck (fits (([y125.1]).length + ([y2.1, y4.1, y6.1]).length) 192) ((zn φ ([y124.1] ++ [y2.1, y4.1, y6.1]) 60).bind fun y126 => ((z2i φ y126.1 ([5])).bind fun y127 => (if (!y127.1) = false then ((zn φ ([y124.1] ++ [y2.1, y4.1, y6.1]) 44).bind fun y128 => (if (((y128.1.length : Int) : Int) != 0) = true then (some (false, ())) else ((zt φ).bind fun y129 => (ck ((0 : Int) <= 0 /\ 0 < (([y2.1, y4.1, y6.1]).length : Int)) ((zc φ y129.1 ([y2.1, y4.1, y6.1]) (gt ([y2.1, y4.1, y6.1]) 0)).bind fun y130 => ((zt φ).bind fun y131 => (ck ((0 : Int) <= 0 /\ 0 < (([y2.1, y4.1, y6.1]).length : Int)) ((zc φ y131.1 ([y124.1] ++ [y2.1, y4.1, y6.1]) (gt ([y2.1, y4.1, y6.1]) 0)).bind fun y132 => ((zt φ).bind fun y133 => (ck ((0 : Int) <= 0 /\ 0 < (([y2.1, y4.1, y6.1]).length : Int)) ((zc φ y133.1 ([y125.1] ++ [y2.1, y4.1, y6.1]) (gt ([y2.1, y4.1, y6.1]) 0)).bind fun y134 => (some ((((((((y130.2.1 : Int) == 0) && ((y132.2.1 : Int) == 0)) && ((y134.2.1 : Int) == 0)) && ((y130.1 : Int) == 18)) && ((y132.1 : Int) == 20)) && ((y134.1 : Int) == y130.1)), ()))))))))))))) else (some (false, ()))))))))))) else (some (false, ()))))) else (if true = false then ((zw φ ([y2.1, y4.1, y6.1]) 5 40).bind fun y135 => (if (((y135.1.length : Int) : Int) != 0) = true then (some (false, ())) else ((z00 φ 45 2 7).bind fun y136 => (ck (fits (([y136.1]).length + ([y2.1, y4.1, y6.1]).length) 192) ((z00 φ 45 3 7).bind fun y137 => (ck (fits (([y137.1]).length + ([y2.1, y4.1, y6.1]).length) 192) ((zn φ ([y136.1] ++ [y2.1, y4.1, y6.1]) 60).bind fun y138 => ((z2i φ y138.1 ([5])).bind fun y139 => (if (!y139.1) = false then ((zn φ ([y136.1] ++ [y2.1, y4.1, y6.1]) 44).bind fun y140 => (if (((y140.1.length : Int) : Int) != 0) = true then (some (false, ())) else ((zt φ).bind fun y141 => (ck ((0 : Int) <= 0 /\ 0 < (([y2.1, y4.1, y6.1]).length : Int)) ((zc φ y141.1 ([y2.1, y4.1, y6.1]) (gt ([y2.1, y4.1, y6.1]) 0)).bind fun y142 => ((zt φ).bind fun y143 => (ck ((0 : Int) <= 0 /\ 0 < (([y2.1, y4.1, y6.1]).length : Int)) ((zc φ y143.1 ([y136.1] ++ [y2.1, y4.1, y6.1]) (gt ([y2.1, y4.1, y6.1]) 0)).bind fun y144 => ((zt φ).bind fun y145 => (ck ((0 : Int) <= 0 /\ 0 < (([y2.1, y4.1, y6.1]).length : Int)) ((zc φ y145.1 ([y137.1] ++ [y2.1, y4.1, y6.1]) (gt ([y2.1, y4.1, y6.1]) 0)).bind fun y146 => (some ((((((((y142.2.1 : Int) == 0) && ((y144.2.1 : Int) == 0)) && ((y146.2.1 : Int) == 0)) && ((y142.1 : Int) == 18)) && ((y144.1 : Int) == 20)) && ((y146.1 : Int) == y142.1)), ()))))))))))))) else (some (false, ()))))))))))) else (some (false, ()))))))))))) else (some (false, ()))))))))))))
def zga (φ : Nat) : Fsp TV := ⟨[], [.val 1], fun z => zhk φ⟩
def z88 (φ : Nat) : Nat -> (List z1) -> Int -> Option (Bool × Unit)
 | 0, _, _ => none
 | n4 + 1, x2, x3 => (if (decide ((x3 : Int) < (x2.length : Int))) = true then (ck ((0 : Int) <= x3 /\ x3 < (x2.length : Int)) (if (decide ((20 : Int) < ((((gt x2 x3).item).parts).length : Int))) = true then (some (false, ())) else ((z88 φ n4) x2 (W (x3 + 1))))) else (some (true, ())))
def zju (φ : Nat) (x1 : (List z1)) : Option (Bool × Unit) := (if (decide ((30 : Int) < (x1.length : Int))) = true then (some (false, ())) else (z88 φ φ x1 0))
def zi5 (φ : Nat) : Fsp TV := ⟨[10], [.val 1], fun z => zju φ z.1⟩
def z16 (φ : Nat) : Nat -> Int -> Pool -> Option (Bool × Unit)
 | 0, _, _ => none
 | n4 + 1, x2, x3 => (if (decide ((x2 : Int) < (x3.railways.length : Int))) = true then (ck ((0 : Int) <= x2 /\ x2 < (x3.railways.length : Int)) (if (decide ((100 : Int) < ((((gt x3.railways x2).calendar).holidays).length : Int))) = true then (some (false, ())) else ((z16 φ n4) (W (x2 + 1)) x3))) else (some (true, ())))
def z8v (φ : Nat) (x1 : Pool) : Option (Bool × Unit) := (if (((((((decide ((16 : Int) < (x1.network.places.length : Int))) || (decide ((40 : Int) < (x1.network.edges.length : Int)))) || (decide ((8 : Int) < (x1.fleet.wagons.length : Int)))) || (decide ((8 : Int) < (x1.readers.length : Int)))) || (decide ((100 : Int) < (x1.fleet.swaps.length : Int)))) || (decide ((100 : Int) < (x1.fleet.washes.length : Int)))) || (decide ((17 : Int) < (x1.railways.length : Int)))) = true then (some (false, ())) else (z16 φ φ 0 x1))
def z9k (φ : Nat) : Fsp TV := ⟨[39], [.val 1], fun z => z8v φ z.1⟩
def zh6 (φ : Nat) (k6 : (Int -> Item -> Item -> Option (Bool × Unit))) : Nat -> Int -> Int -> Item -> Item -> Option (Bool × Unit)
 | 0, _, _, _, _ => none
 | n11 + 1, x7, x8, x9, x10 => (if (decide ((x8 : Int) < (x10.parts.length : Int))) = true then (ck ((0 : Int) <= x7 /\ x7 < (x9.parts.length : Int)) (ck ((0 : Int) <= x8 /\ x8 < (x10.parts.length : Int)) (ck (((((gt x9.parts x7).kind : Int) == (gt x10.parts x8).kind) = true) -> (0 : Int) <= x7 /\ x7 < (x9.parts.length : Int)) (ck (((((gt x9.parts x7).kind : Int) == (gt x10.parts x8).kind) = true) -> (0 : Int) <= x8 /\ x8 < (x10.parts.length : Int)) (ck ((((((gt x9.parts x7).kind : Int) == (gt x10.parts x8).kind) && (((gt x9.parts x7).serial : Int) == (gt x10.parts x8).serial)) = true) -> (0 : Int) <= x8 /\ x8 < (x10.parts.length : Int)) (if (((((gt x9.parts x7).kind : Int) == (gt x10.parts x8).kind) && (((gt x9.parts x7).serial : Int) == (gt x10.parts x8).serial)) && (!(gt x10.parts x8).fitted)) = true then (some (true, ())) else ((zh6 φ k6 n11) x7 (W (x8 + 1)) x9 x10))))))) else (k6 (W (x7 + 1)) x9 x10))
def zps (φ : Nat) : Nat -> Int -> Item -> Item -> Option (Bool × Unit)
 | 0, _, _, _ => none
 | n6 + 1, x3, x4, x5 => (if (decide ((x3 : Int) < (x4.parts.length : Int))) = true then (zh6 φ (zps φ n6) φ x3 0 x4 x5) else (some (false, ())))
def z4b (φ : Nat) (k8 : (Int -> Item -> Item -> Option (Bool × Unit))) : Nat -> Int -> Int -> Item -> Item -> Option (Bool × Unit)
 | 0, _, _, _, _ => none
 | n13 + 1, x9, x10, x11, x12 => (if (decide ((x10 : Int) < (x12.parts.length : Int))) = true then (ck ((0 : Int) <= x9 /\ x9 < (x11.parts.length : Int)) (ck ((0 : Int) <= x10 /\ x10 < (x12.parts.length : Int)) (ck (((((gt x11.parts x9).kind : Int) == (gt x12.parts x10).kind) = true) -> (0 : Int) <= x9 /\ x9 < (x11.parts.length : Int)) (ck (((((gt x11.parts x9).kind : Int) == (gt x12.parts x10).kind) = true) -> (0 : Int) <= x10 /\ x10 < (x12.parts.length : Int)) (ck ((((((gt x11.parts x9).kind : Int) == (gt x12.parts x10).kind) && (((gt x11.parts x9).serial : Int) == (gt x12.parts x10).serial)) = true) -> (0 : Int) <= x10 /\ x10 < (x12.parts.length : Int)) (if (((((gt x11.parts x9).kind : Int) == (gt x12.parts x10).kind) && (((gt x11.parts x9).serial : Int) == (gt x12.parts x10).serial)) && (!(gt x12.parts x10).fitted)) = true then (some (true, ())) else ((z4b φ k8 n13) x9 (W (x10 + 1)) x11 x12))))))) else (k8 (W (x9 + 1)) x11 x12))
def z5e (φ : Nat) : Nat -> Int -> Item -> Item -> Option (Bool × Unit)
 | 0, _, _, _ => none
 | n8 + 1, x5, x6, x7 => (if (decide ((x5 : Int) < (x6.parts.length : Int))) = true then (z4b φ (z5e φ n8) φ x5 0 x6 x7) else (some (false, ())))
def zce (φ : Nat) (x1 : Pool) (x2 : Item) (x3 : Item) : Option (Bool × Unit) := ((zx (default, ()) (((x2.kind : Int) != 10) = false) (z5y φ x1 x2)).bind fun y4 => (if (((x2.kind : Int) != 10) || ((y4.1 : Int) != 0)) = true then (some (false, ())) else (z5e φ φ 0 x2 x3)))
def zfd (φ : Nat) : Fsp TV := ⟨[39, 6, 6], [.val 1], fun z => zce φ z.1 z.2.1 z.2.2.1⟩
def z1o (φ : Nat) (x30 : Int) (x31 : Int) (x32 : Int) (x33 : Int) : Option (Bool × Unit) := (some ((((x30 : Int) == x32) && ((x31 : Int) == x33)), ()))
def z3h (φ : Nat) (x35 : (List z1)) (x36 : Int) (x37 : Int) (x38 : Pool) (x39 : z1) (x40 : z1) : Option (Bool × Unit) := (ck (fits (([] : List z1).length + x35.length) 192) (ck (fits ((([] : List z1) ++ x35).length + ([x40]).length) 192) ((zc φ x38 ((([] : List z1) ++ x35) ++ [x40]) x39).bind fun y42 => (z1o φ x36 x37 y42.1 y42.2.1))))
def z6o (φ : Nat) (x35 : (List z1)) (x36 : Int) (x37 : Int) (x38 : Pool) (x39 : z1) (x40 : z1) : Option (List (Option (Bool × Unit))) := (catL [(catL [(ck (fits (([] : List z1).length + x35.length) 192) (catL [(catL [(ck (fits ((([] : List z1) ++ x35).length + ([x40]).length) 192) ((zc φ x38 ((([] : List z1) ++ x35) ++ [x40]) x39).bind fun y43 => (some [(z1o φ x36 x37 y43.1 y43.2.1)])))])])), (catL [(ck (fits (([] : List z1).length + x35.length) 192) (catL [(ck (fits ((([] : List z1) ++ x35).length + ([x40]).length) 192) ((zc φ x38 ((([] : List z1) ++ x35) ++ [x40]) x39).bind fun y44 => (some [(z1o φ x36 x37 y44.1 y44.2.1)])))]))])]), (catL [(catL [(ck (fits (([] : List z1).length + x35.length) 192) (catL [(ck (fits ((([] : List z1) ++ x35).length + ([x40]).length) 192) ((zc φ x38 ((([] : List z1) ++ x35) ++ [x40]) x39).bind fun y45 => (some [(z1o φ x36 x37 y45.1 y45.2.1)])))]))])])])
def z0c (φ : Nat) (x20 : (List z1)) (x21 : Int) (x22 : Int) (x23 : Int) (x24 : Int) (x25 : Pool) (x26 : z1) (x27 : z1) : Option (Bool × Unit) := (if (((x21 : Int) != x23) || ((x22 : Int) != x24)) = true then (some (false, ())) else ((zce φ x25 x27.item x26.item).bind fun y29 => (if ((y29.1 || ((x27.item.kind : Int) == 3)) || ((x27.item.kind : Int) == 4)) = true then (some (true, ())) else (z3h φ x20 x21 x22 x25 x26 x27))))
def z03 (φ : Nat) : Nat -> (List z1) -> Int -> Int -> Int -> Int -> Pool -> z1 -> z1 -> Option (Bool × Unit)
 | 0, _, _, _, _, _, _, _, _ => none
 | n18 + 1, x10, x11, x12, x13, x14, x15, x16, x17 => (if (decide ((x14 : Int) < (x10.length : Int))) = true then (ck ((0 : Int) <= x14 /\ x14 < (x10.length : Int)) (ck ((0 : Int) <= x14 /\ x14 < (x10.length : Int)) ((zce φ x15 ((gt x10 x14).item) x16.item).bind fun y19 => (ck ((y19.1 = true /\ (decide ((x13 : Int) < 0)) = false) -> (0 : Int) <= x13 /\ x13 < (x10.length : Int)) (ck ((y19.1 = true /\ ((decide ((x13 : Int) < 0)) || (decide ((((gt x10 x14).ref).railway : Int) < ((gt x10 x13).ref).railway))) = false) -> (0 : Int) <= x13 /\ x13 < (x10.length : Int)) (ck (((y19.1 = true /\ ((decide ((x13 : Int) < 0)) || (decide ((((gt x10 x14).ref).railway : Int) < ((gt x10 x13).ref).railway))) = false) /\ ((((gt x10 x14).ref).railway : Int) == ((gt x10 x13).ref).railway) = true) -> (0 : Int) <= x13 /\ x13 < (x10.length : Int)) (if (y19.1 && (((decide ((x13 : Int) < 0)) || (decide ((((gt x10 x14).ref).railway : Int) < ((gt x10 x13).ref).railway))) || (((((gt x10 x14).ref).railway : Int) == ((gt x10 x13).ref).railway) && (decide ((((gt x10 x14).ref).no : Int) < ((gt x10 x13).ref).no))))) = true then ((z03 φ n18) x10 x11 x12 x14 (W (x14 + 1)) x15 x16 x17) else ((z03 φ n18) x10 x11 x12 x13 (W (x14 + 1)) x15 x16 x17)))))))) else (if (decide ((0 : Int) <= x13)) = true then (ck ((0 : Int) <= x13 /\ x13 < (x10.length : Int)) (z0c φ x10 x11 x12 ((W (16 + ((gt x10 x13).item).other))) 0 x15 x16 x17)) else (if ((x16.item.code : Int) == 2) = true then (ck ((0 : Int) <= x16.item.wagon /\ x16.item.wagon < (x15.fleet.wagons.length : Int)) (z0c φ x10 x11 x12 (W (16 + (gt x15.fleet.wagons x16.item.wagon).owner)) 0 x15 x16 x17)) else ((zcd φ x15 x10 x16.item.wagon x16.item.from_).bind fun y46 => (z0c φ x10 x11 x12 y46.1 y46.2.1 x15 x16 x17)))))
def z5z (φ : Nat) (x1 : Pool) (x2 : (List z1)) (x3 : z1) (x4 : z1) : Option (Bool × Unit) := ((zhk φ).bind fun y5 => (if (!y5.1) = true then (some (false, ())) else ((z8v φ x1).bind fun y6 => ((zx (default, ()) ((!y6.1) = false) (zju φ x2)).bind fun y7 => (if ((((!y6.1) || (!y7.1)) || (decide ((20 : Int) < (x3.item.parts.length : Int)))) || (decide ((20 : Int) < (x4.item.parts.length : Int)))) = true then (some (true, ())) else ((zc φ x1 x2 x3).bind fun y8 => ((zx (default, ()) (((x3.item.kind : Int) != 9) = false) (z5y φ x1 x3.item)).bind fun y9 => (if (((x3.item.kind : Int) != 9) || ((y9.1 : Int) != 0)) = true then (some ((((y8.2.1 : Int) != 0) && ((y8.1 : Int) == 0)), ())) else (z03 φ φ x2 y8.1 y8.2.1 (-1) 0 x1 x3 x4)))))))))
def z6b (φ : Nat) : Fsp TV := ⟨[39, 10, 7, 7], [.val 1], fun z => z5z φ z.1 z.2.1 z.2.2.1 z.2.2.2.1⟩
end Px
end
