/- A statement that leaves its order open: whatever order the edges allow. Conditions: none. -/
import Derived.Test.YtbfoamlmlbmmnaaPf
namespace Px
open Go Go.RowKit
set_option linter.unusedSimpArgs false
set_option linter.unusedVariables false

/-- Each operation's slot and what must come before it. -/
def tabOf (ops : Array Oper) : List (Option Nat × List Nat) := ops.toList.map fun o => (o.dst, (o.after.toList.filter (Region.binds .any ·)).map (·.on))
abbrev Tab := List (Option Nat × List Nat)
def Tab.dst (tab : Tab) (i : Nat) : Option Nat := match tab[i]? with | some p => p.1 | none => none
def Tab.deps (tab : Tab) (i : Nat) : List Nat := match tab[i]? with | some p => p.2 | none => []
def memB (l : List Nat) (i : Nat) : Bool := l.any (Nat.beq i)
theorem memB_iff {l : List Nat} {i : Nat} : memB l i = true ↔ i ∈ l := by
  simp only [memB, List.any_eq_true]
  exact ⟨fun ⟨x, hx, h⟩ => by have := Nat.eq_of_beq_eq_true h; subst this; exact hx, fun h => ⟨i, h, Nat.beq_refl i⟩⟩
def isDst (d : Option Nat) (t : Nat) : Bool := match d with | some d => Nat.beq d t | none => false
theorem isDst_iff {d : Option Nat} {t : Nat} : isDst d t = true ↔ d = some t := by
  cases d with
  | none => simp [isDst]
  | some d => simp [isDst]
/-- The results of quiet operations, as far as l allows, over the slots of s. -/
def qSlots (tab : Tab) (ok : Nat → Bool) (s : Slots) : List (Nat × VP) → Slots
  | [] => s
  | (q, x) :: r => fun t => bif (ok q && isDst (tab.dst q) t) then some x else qSlots tab ok s r t
/-- An operation that is run or skipped, as its guard says, and yields what x says. -/
def GQ {P : Program} (C : Cx P) (tab : Tab) (o : Oper) (s : St) (x : VP) : Prop := match o.guard with
  | none => OpQ C o s x
  | some (j, want) => ∃ p x0 t, tab.dst j = some t ∧ x = cnd p x0 ∧ (p → OpQ C o s x0) ∧ ((∃ g, s.slots t = some (bv g) ∧ p = (g = want)) ∨ (∃ c g, s.slots t = some (cnd c (bv g)) ∧ p = (c ∧ g = want)))

structure Node (ops : Array Oper) (tab : Tab) (D : List Nat) (QR : List (Nat × VP)) (E : List Nat) (fuel : Nat) (listed : Array Bool) : Prop where
  closed : ∀ j, j ∈ D ∨ j ∈ E → ∀ e ∈ tab.deps j, e ∈ D ∨ e ∈ E
  size : listed.size = ops.size
  lst : ∀ i, i < ops.size → (listed.getD i true = true ↔ i ∈ D ∨ i ∈ E)
  sub : ∀ q ∈ E, q ∈ QR.map (·.1)
  fuel : ((List.range ops.size).filter fun i => !listed.getD i true).length = fuel
def facts (tab : Tab) (QR : List (Nat × VP)) (E : List Nat) (a : Act) (r : Nat → Prop) (w : World) : Prop :=
  ∀ q x t, q ∈ E → (q, x) ∈ QR → tab.dst q = some t → x.h r w (a.tmps.getD t undef)
def Reg {P : Program} (C : Cx P) (ops : Array Oper) (tab : Tab) (Q : Exit → Act → World → Prop) (D : List Nat) (s : St) (QR : List (Nat × VP)) : Prop :=
  ∀ fuel listed a w E r S, Node ops tab D QR E fuel listed → a.defers = [] → a.tmps.size = C.n → WInv C.w0 C.base s.objs r S w → Evo C.base C.r0 C.wI r w → SlotsOK s.slots a r w → facts tab QR E a r w →
    wpAny P .any ops Q fuel listed a w

def nodupB : List Nat → Bool
  | [] => true
  | x :: r => !memB r x && nodupB r
theorem nodupB_iff : ∀ {l : List Nat}, nodupB l = true → l.Nodup
  | [], _ => List.nodup_nil
  | x :: r, h => by
    simp only [nodupB, Bool.and_eq_true, Bool.not_eq_true'] at h
    refine List.nodup_cons.2 ⟨fun hm => ?_, nodupB_iff h.2⟩
    rw [memB_iff.2 hm] at h
    cases h.1
def AllP {α : Type} (P : α → Prop) : List α → Prop
  | [] => True
  | a :: l => P a ∧ AllP P l
theorem AllP.mem {α : Type} {P : α → Prop} : ∀ {l : List α}, AllP P l → ∀ a ∈ l, P a
  | _ :: _, ⟨h, _⟩, _, .head _ => h
  | _ :: _, ⟨_, h⟩, a, .tail _ hm => AllP.mem h a hm
def AllNone (s : Slots) : List Nat → Prop
  | [] => True
  | t :: l => s t = none ∧ AllNone s l
theorem AllNone.mem {s : Slots} : ∀ {l : List Nat}, AllNone s l → ∀ t ∈ l, s t = none
  | _ :: _, ⟨h, _⟩, _, .head _ => h
  | _ :: _, ⟨_, h⟩, a, .tail _ hm => AllNone.mem h a hm
def dstNe (a b : Option Nat) : Bool := match a, b with
  | some x, some y => !Nat.beq x y
  | _, _ => true
theorem dstNe_iff {a b : Option Nat} (h : dstNe a b = true) : ∀ t, a = some t → b ≠ some t := by
  intro t ha hb
  subst ha; subst hb
  simp [dstNe] at h
/-- The checks of a node: D is done, keys are the quiet ones, cands the others that may come next, sure what must have been run. -/
def chk (tab : Tab) (n : Nat) (D keys cands sure : List Nat) : Bool :=
  sure.all (fun q => (D ++ sure).any fun j => memB (tab.deps j) q) &&
  nodupB keys && nodupB (keys.filterMap tab.dst) && keys.all (fun q => (tab.dst q).isSome && !memB D q && decide (q < tab.length) && isSomeLt (tab.dst q) n) &&
  (List.range tab.length).all (fun i => memB D i || memB keys i || memB cands i || (tab.deps i).any (fun e => !memB D e && !memB keys e)) &&
  (List.range tab.length).all (fun i => (tab.deps i).all (fun e => decide (e < i)))
where isSomeLt (d : Option Nat) (n : Nat) : Bool := match d with | some d => decide (d < n) | none => false
def complete (tab : Tab) (D keys : List Nat) : Bool := (List.range tab.length).all fun i => memB D i || memB keys i

theorem qSlots_ok {tab : Tab} {ok : Nat → Bool} {s : Slots} {a : Act} {r : Nat → Prop} {w : World} (hs : SlotsOK s a r w) : ∀ {QR : List (Nat × VP)}, (∀ q x t, (q, x) ∈ QR → ok q = true → tab.dst q = some t → x.h r w (a.tmps.getD t undef)) →
    SlotsOK (qSlots tab ok s QR) a r w
  | [], _ => hs
  | (q, x) :: rr, h => fun t A hA => by
    simp only [qSlots] at hA
    cases hc : (ok q && isDst (tab.dst q) t) with
    | true =>
      rw [hc] at hA
      simp only [cond_true, Option.some.injEq] at hA
      subst hA
      simp only [Bool.and_eq_true] at hc
      exact h q x t (List.mem_cons_self ..) hc.1 (isDst_iff.1 hc.2)
    | false =>
      rw [hc] at hA
      exact qSlots_ok hs (fun q' x' t' hm => h q' x' t' (List.mem_cons_of_mem _ hm)) t A hA

section
variable {P : Program} {C : Cx P} {ops : Array Oper} {tab : Tab} {Q : Exit → Act → World → Prop}
theorem tab_at (htab : tabOf ops = tab) {i : Nat} {o : Oper} (ho : ops[i]? = some o) : tab[i]? = some (o.dst, (o.after.toList.filter (Region.binds .any ·)).map (·.on)) := by
  subst htab
  simp [tabOf, ho]
theorem tab_len (htab : tabOf ops = tab) : tab.length = ops.size := by subst htab; simp [tabOf]

theorem dst_of (htab : tabOf ops = tab) {j t : Nat} (hj : tab.dst j = some t) : (ops[j]?).bind (·.dst) = some t := by
  cases ho : ops[j]? with
  | none =>
    have : tab[j]? = none := by
      have := tab_len htab
      rw [List.getElem?_eq_none]
      rw [this]
      simpa using ho
    simp [Tab.dst, this] at hj
  | some oj =>
    simp [Tab.dst, tab_at htab ho] at hj
    simpa using hj
theorem ready_mem {listed : Array Bool} {i : Nat} (h : i ∈ Region.ready .any ops listed) : i < ops.size ∧ listed.getD i true = false ∧ ∃ o, ops[i]? = some o ∧ ∀ e ∈ o.after, Region.binds .any e = true → listed.getD e.on false = true := by
  simp only [Region.ready, List.mem_filter, List.mem_range, Bool.and_eq_true, Bool.not_eq_true'] at h
  obtain ⟨h1, h2, h3⟩ := h
  refine ⟨h1, h2, ops[i], by simp [h1], fun e he hb => ?_⟩
  simp only [Array.getElem?_eq_getElem h1, Option.map_some, Option.getD_some, Array.all_eq_true_iff_forall_mem] at h3
  have := h3 e he
  simpa [hb] using this

theorem inj_of_nodup {f : Nat → Option Nat} : ∀ {l : List Nat}, (l.filterMap f).Nodup → ∀ {q q' t : Nat}, q ∈ l → q' ∈ l → f q = some t → f q' = some t → q = q'
  | [], _, q, q', t, hq, _, _, _ => by cases hq
  | y :: l, h, q, q', t, hq, hq', h1, h2 => by
    have htail : (l.filterMap f).Nodup := by
      cases hy : f y with
      | none => rwa [List.filterMap_cons_none hy] at h
      | some z => rw [List.filterMap_cons_some hy] at h; exact (List.nodup_cons.1 h).2
    have hhead : ∀ z, f y = some z → z ∉ l.filterMap f := fun z hz => by
      rw [List.filterMap_cons_some hz] at h; exact (List.nodup_cons.1 h).1
    rcases List.mem_cons.1 hq with e | hq
    · rcases List.mem_cons.1 hq' with e' | hq'
      · rw [e, e']
      · exact absurd (List.mem_filterMap.2 ⟨q', hq', h2⟩) (hhead t (e ▸ h1))
    · rcases List.mem_cons.1 hq' with e' | hq'
      · exact absurd (List.mem_filterMap.2 ⟨q, hq, h1⟩) (hhead t (e' ▸ h2))
      · exact inj_of_nodup htail hq hq' h1 h2
theorem eq_of_nodup_fst {α : Type} : ∀ {l : List (Nat × α)}, (l.map (·.1)).Nodup → ∀ {p p' : Nat × α}, p ∈ l → p' ∈ l → p.1 = p'.1 → p = p'
  | [], _, _, _, h, _, _ => by cases h
  | y :: l, h, p, p', hp, hp', e => by
    rw [List.map_cons] at h
    obtain ⟨h1, h2⟩ := List.nodup_cons.1 h
    rcases List.mem_cons.1 hp with r | hp
    · rcases List.mem_cons.1 hp' with r' | hp'
      · rw [r, r']
      · exact absurd (List.mem_map.2 ⟨p', hp', by rw [← e, r]⟩) h1
    · rcases List.mem_cons.1 hp' with r' | hp'
      · exact absurd (List.mem_map.2 ⟨p, hp, by rw [e, r']⟩) h1
      · exact eq_of_nodup_fst h2 hp hp' e
theorem count_set {listed : Array Bool} {i : Nat} : ∀ {n : Nat}, i < n → listed.getD i true = false →
    ((List.range n).filter fun j => !(if j = i then true else listed.getD j true)).length + 1 = ((List.range n).filter fun j => !listed.getD j true).length
  | 0, h, _ => by omega
  | n + 1, h, hl => by
    rw [List.range_succ, List.filter_append, List.filter_append, List.length_append, List.length_append]
    by_cases e : i = n
    · subst e
      have : ((List.range i).filter fun j => !(if j = i then true else listed.getD j true)) = (List.range i).filter fun j => !listed.getD j true := by
        apply List.filter_congr
        intro j hj
        have : ¬ j = i := by have := List.mem_range.1 hj; omega
        simp [this]
      rw [this]
      have h1 : (List.filter (fun j => !(if j = i then true else listed.getD j true)) [i]).length = 0 := by simp
      have h2 : (List.filter (fun j => !listed.getD j true) [i]).length = 1 := by rw [List.filter_cons_of_pos (by rw [hl]; rfl)]; rfl
      omega
    · have ih := count_set (n := n) (by omega) hl
      have : (List.filter (fun j => !(if j = i then true else listed.getD j true)) [n]) = List.filter (fun j => !listed.getD j true) [n] := by
        apply List.filter_congr
        intro j hj
        have : ¬ j = i := by simp at hj; omega
        simp [this]
      rw [this]
      omega
/-- One node of the tree of what may come next. -/
theorem Reg.intro {D : List Nat} {s : St} {QR : List (Nat × VP)} (cands sure : List Nat) (htab : tabOf ops = tab) (hchk : chk tab C.n D (QR.map (·.1)) cands sure = true)
    (hnone' : AllNone s.slots ((QR.map (·.1)).filterMap tab.dst))
    (hQ' : AllP (fun p => memB sure p.1 = false → ∃ o, ops[p.1]? = some o ∧ GQ C tab o ⟨qSlots tab (memB (tab.deps p.1)) s.slots QR, s.objs⟩ p.2) QR)
    (hL' : AllP (fun i => ∃ o, ops[i]? = some o ∧ o.guard = none ∧ inRange C o = true ∧ ((QR.map (·.1)).all fun q => dstNe (tab.dst q) o.dst) = true ∧
      OpT C o ⟨qSlots tab (memB (tab.deps i)) s.slots QR, s.objs⟩ (fun x objs => ∃ N, (N.all fun p => !memB (QR.map (·.1)) p.1) = true ∧ Reg C ops tab Q (i :: D) ⟨s.slots.set o.dst x, objs⟩ (QR ++ N))) cands)
    (hE : complete tab D (QR.map (·.1)) = true → AtX C ⟨qSlots tab (fun _ => true) s.slots QR, s.objs⟩ .normal Q) : Reg C ops tab Q D s QR := by
  have hnone : ∀ q ∈ QR.map (·.1), ∀ t, tab.dst q = some t → s.slots t = none := fun q hq t ht => hnone'.mem t (List.mem_filterMap.2 ⟨q, hq, ht⟩)
  have hQ := hQ'.mem
  have hL : ∀ i ∈ cands, ∃ o, ops[i]? = some o ∧ o.guard = none ∧ inRange C o = true ∧ (∀ q ∈ QR.map (·.1), ∀ t, tab.dst q = some t → o.dst ≠ some t) ∧
      OpT C o ⟨qSlots tab (memB (tab.deps i)) s.slots QR, s.objs⟩ (fun x objs => ∃ N, (N.all fun p => !memB (QR.map (·.1)) p.1) = true ∧ Reg C ops tab Q (i :: D) ⟨s.slots.set o.dst x, objs⟩ (QR ++ N)) := fun i hi => by
    obtain ⟨o, h1, h2, h3, h4, h5⟩ := hL'.mem i hi
    exact ⟨o, h1, h2, h3, fun q hq => dstNe_iff (List.all_eq_true.1 h4 q hq), h5⟩
  simp only [chk, Bool.and_eq_true, List.all_eq_true, List.mem_range, Bool.or_eq_true, Bool.not_eq_true', decide_eq_true_eq, List.any_eq_true] at hchk
  obtain ⟨⟨⟨⟨⟨hk0, hk1⟩, hk2⟩, hk3⟩, hk4⟩, hk5⟩ := hchk
  have hnd := nodupB_iff hk1
  have hdd := nodupB_iff hk2
  have hlen := tab_len htab
  have hdist : ∀ q q' t, q ∈ QR.map (·.1) → q' ∈ QR.map (·.1) → tab.dst q = some t → tab.dst q' = some t → q = q' := by
    intro q q' t hq hq' ht ht'
    exact inj_of_nodup hdd hq hq' ht ht'
  intro fuel
  induction fuel with
  | zero =>
    intro listed a w E r S hN hd hn hw he hs hf
    have hnil : (List.range ops.size).filter (fun i => !listed.getD i true) = [] := List.eq_nil_of_length_eq_zero hN.fuel
    have hall : ∀ i, i < ops.size → listed.getD i true = true := fun i hi => by
      have := List.filter_eq_nil_iff.1 hnil i (by simpa using hi)
      simpa using this
    refine ⟨?_, ?_⟩
    · apply List.eq_nil_iff_forall_not_mem.2
      intro i hi
      obtain ⟨h1, h2, _⟩ := ready_mem hi
      rw [hall i h1] at h2
      cases h2
    · refine hE ?_ a w ⟨hd, hn, r, S, hw, he, qSlots_ok hs fun q x t hm _ ht => hf q x t ?_ hm ht⟩
      · simp only [complete, List.all_eq_true, List.mem_range, Bool.or_eq_true]
        intro i hi
        rw [hlen] at hi
        rcases (hN.lst i hi).1 (hall i hi) with h | h
        · exact .inl (memB_iff.2 h)
        · exact .inr (memB_iff.2 (hN.sub i h))
      · have hqm : q ∈ QR.map (·.1) := List.mem_map.2 ⟨_, hm, rfl⟩
        obtain ⟨⟨⟨_, hqD⟩, hql⟩, _⟩ := hk3 q hqm
        rcases (hN.lst q (by omega)).1 (hall q (by omega)) with h | h
        · rw [memB_iff.2 h] at hqD; cases hqD
        · exact h
  | succ fuel ih =>
    intro listed a w E r S hN hd hn hw he hs hf
    have hprog : Region.ready .any ops listed = [] → False := by
      intro hnil
      have hne : (List.range ops.size).filter (fun i => !listed.getD i true) ≠ [] := by
        intro h
        have := hN.fuel
        rw [h] at this
        simp at this
      obtain ⟨i0, hi0⟩ := List.exists_mem_of_ne_nil _ hne
      have key : ∀ i, i < ops.size → listed.getD i true = false → False := by
        intro i
        induction i using Nat.strongRecOn with
        | _ i ihi =>
          intro hi hli
          have : i ∈ Region.ready .any ops listed := by
            simp only [Region.ready, List.mem_filter, List.mem_range, Bool.and_eq_true, Bool.not_eq_true']
            refine ⟨hi, hli, ?_⟩
            simp only [Array.getElem?_eq_getElem hi, Option.map_some, Option.getD_some, Array.all_eq_true_iff_forall_mem]
            intro e hem
            by_cases hb : Region.binds .any e = true
            · simp only [hb, Bool.not_true, Bool.false_or]
              have htb := tab_at htab (i := i) (o := ops[i]) (by simp [hi])
              have hlt := hk5 i (by omega) e.on (by
                simp only [Tab.deps, htb]
                exact List.mem_map.2 ⟨e, List.mem_filter.2 ⟨by simpa using hem, hb⟩, rfl⟩)
              cases hle : listed.getD e.on true with
              | true =>
                have hb' : e.on < listed.size := by rw [hN.size]; omega
                simp [hb'] at hle ⊢
                exact hle
              | false => exact (ihi e.on hlt (by omega) hle).elim
            · simp [hb]
          rw [hnil] at this
          cases this
      simp only [List.mem_filter, List.mem_range, Bool.not_eq_true'] at hi0
      exact key i0 hi0.1 hi0.2
    refine ⟨fun h => (hprog h).elim, fun i hi => ?_⟩
    obtain ⟨hisz, hli, o, ho, hdeps⟩ := ready_mem hi
    have hiDE : i ∉ D ∧ i ∉ E := by
      constructor <;> intro h
      · rw [(hN.lst i hisz).2 (.inl h)] at hli; cases hli
      · rw [(hN.lst i hisz).2 (.inr h)] at hli; cases hli
    have htb := tab_at htab ho
    have hdeps' : ∀ e ∈ tab.deps i, e ∈ D ∨ e ∈ E := by
      intro e hem
      simp only [Tab.deps, htb] at hem
      obtain ⟨ed, hed, rfl⟩ := List.mem_map.1 hem
      obtain ⟨hed1, hed2⟩ := List.mem_filter.1 hed
      have hl := hdeps ed (by simpa using hed1) hed2
      have hlt := hk5 i (by omega) ed.on (by simp only [Tab.deps, htb]; exact hem)
      have hb' : ed.on < listed.size := by rw [hN.size]; omega
      refine (hN.lst ed.on (by omega)).1 ?_
      simp [hb'] at hl ⊢
      exact hl
    have hdq : SlotsOK (qSlots tab (memB (tab.deps i)) s.slots QR) a r w := qSlots_ok hs fun q x t hm hok ht => by
      rcases hdeps' q (memB_iff.1 hok) with h | h
      · have hqm : q ∈ QR.map (·.1) := List.mem_map.2 ⟨_, hm, rfl⟩
        obtain ⟨⟨⟨_, hqD⟩, _⟩, _⟩ := hk3 q hqm
        rw [memB_iff.2 h] at hqD; cases hqD
      · exact hf q x t h hm ht
    have hNext : ∀ (D' E' : List Nat) (QR' : List (Nat × VP)), (∀ j, (j ∈ D' ∨ j ∈ E') ↔ (j = i ∨ j ∈ D ∨ j ∈ E)) → (∀ q ∈ E', q ∈ QR'.map (·.1)) →
        Node ops tab D' QR' E' fuel (listed.setIfInBounds i true) := by
      intro D' E' QR' hDE hsub
      have hget : ∀ j, (listed.setIfInBounds i true).getD j true = (if j = i then true else listed.getD j true) := by
        intro j
        by_cases e : j = i
        · subst e
          by_cases hb : j < listed.size <;> simp [hb]
        · have : ¬ i = j := fun h => e h.symm
          simp [e, Array.getElem?_setIfInBounds_ne this]
      refine ⟨fun j hj e he => ?_, by simp [hN.size], fun j hj => ?_, hsub, ?_⟩
      · refine (hDE e).2 (.inr ?_)
        rcases (hDE j).1 hj with rfl | h
        · exact hdeps' e he
        · exact hN.closed j h e he
      · rw [hget j, hDE]
        by_cases e : j = i
        · simp [e]
        · rw [if_neg e, hN.lst j hj]
          simp [e]
      · have := count_set (listed := listed) (i := i) (n := ops.size) hisz hli
        have h2 := hN.fuel
        have e1 : (fun j => !(listed.setIfInBounds i true).getD j true) = fun j => !(if j = i then true else listed.getD j true) := by funext j; rw [hget j]
        rw [e1]
        omega
    rcases hk4 i (by omega) with ((h | h) | h) | ⟨e, hem, h⟩
    · exact absurd (memB_iff.1 h) hiDE.1
    · -- a quiet operation
      obtain ⟨p, hp, rfl⟩ := List.mem_map.1 (memB_iff.1 h)
      have hnsure : memB sure p.1 = false := by
        have key : ∀ m q, q ∈ sure → tab.length ≤ m + q → q ∈ D ∨ q ∈ E := by
          intro m
          induction m with
          | zero =>
            intro q hq hm
            obtain ⟨j, hj, hd⟩ := hk0 q hq
            have hjlt : j < tab.length := by
              apply Classical.byContradiction
              intro hge
              have : tab.deps j = [] := by
                unfold Tab.deps
                rw [List.getElem?_eq_none (Nat.le_of_not_lt hge)]
              rw [this] at hd
              simp [memB] at hd
            have := hk5 j hjlt q (memB_iff.1 hd)
            omega
          | succ m ihm =>
            intro q hq hm
            obtain ⟨j, hj, hd⟩ := hk0 q hq
            have hjlt : j < tab.length := by
              apply Classical.byContradiction
              intro hge
              have : tab.deps j = [] := by
                unfold Tab.deps
                rw [List.getElem?_eq_none (Nat.le_of_not_lt hge)]
              rw [this] at hd
              simp [memB] at hd
            have hlt := hk5 j hjlt q (memB_iff.1 hd)
            rcases List.mem_append.1 hj with hj | hj
            · exact hN.closed j (.inl hj) q (memB_iff.1 hd)
            · exact hN.closed j (ihm j hj (by omega)) q (memB_iff.1 hd)
        cases hm : memB sure p.1 with
        | false => rfl
        | true =>
          rcases key tab.length p.1 (memB_iff.1 hm) (by omega) with h' | h'
          · exact absurd h' hiDE.1
          · exact absurd h' hiDE.2
      obtain ⟨o', ho', hq⟩ := hQ p hp hnsure
      rw [ho] at ho'
      simp at ho'
      subst ho'
      have hqm : p.1 ∈ QR.map (·.1) := memB_iff.1 h
      obtain ⟨⟨⟨hsome, hqD⟩, _⟩, hlt⟩ := hk3 p.1 hqm
      obtain ⟨t, ht⟩ := Option.isSome_iff_exists.1 hsome
      have hdst : o.dst = some t := by simpa [Tab.dst, htb] using ht
      have hin : inRange C o = true := by
        simp only [inRange, hdst]
        simpa [chk.isSomeLt, ht] using hlt
      have hkeep : ∀ (v : Value) (r' : Nat → Prop) (S' : Nat → Nat → Prop) (w' : World), Evo C.base r w r' w' → WInv C.w0 C.base s.objs r' S' w' → p.2.h r' w' v → wpAny P .any ops Q fuel (listed.setIfInBounds p.1 true) (a.put o.dst v) w' := by
        intro v r' S' w' hev hw' hx
        have hgd := fun t' => getD_put a o.dst v t' (inRange_lt hin hn)
        refine ih (listed.setIfInBounds p.1 true) _ w' (p.1 :: E) r' S' (hNext _ _ _ ?_ ?_) ?_ ?_ hw' (he.trans hev) ?_ ?_
        · intro j; simp only [List.mem_cons]; constructor
          · rintro (h | h | h)
            · exact .inr (.inl h)
            · exact .inl h
            · exact .inr (.inr h)
          · rintro (h | h | h)
            · exact .inr (.inl h)
            · exact .inl h
            · exact .inr (.inr h)
        · intro q hqE
          rcases List.mem_cons.1 hqE with rfl | h
          · exact hqm
          · exact hN.sub q h
        · rw [hdst]; exact hd
        · rw [hdst]; simp [Act.put, hn]
        · intro t' A hA
          have hne : ¬ o.dst = some t' := by
            intro e
            rw [hdst] at e
            simp at e
            subst e
            rw [hnone p.1 hqm t ht] at hA
            cases hA
          rw [hgd, if_neg hne]
          exact A.evo hev (hs t' A hA)
        · intro q x' t' hqE hm ht'
          rw [hgd]
          have hqm' : q ∈ QR.map (·.1) := List.mem_map.2 ⟨_, hm, rfl⟩
          by_cases e : o.dst = some t'
          · rw [if_pos e]
            have : q = p.1 := hdist q p.1 t' hqm' hqm ht' (by rw [ht, ← hdst]; exact e)
            subst this
            have : (p.1, x') = p := eq_of_nodup_fst hnd hm hp rfl
            rw [← this] at hx
            exact hx
          · rw [if_neg e]
            rcases List.mem_cons.1 hqE with rfl | h
            · exact absurd (by rw [hdst, ← ht]; exact ht') e
            · exact x'.evo hev (hf q x' t' h hm ht')
      unfold wpOp
      rw [ho]
      unfold GQ at hq
      cases hg : o.guard with
      | none =>
        rw [hg] at hq
        simp only [Region.wanted, hg, if_true]
        refine .inl (Oper.wp_mono ?_ (hq a w r S Q hd hn hw hdq))
        rintro a' w' ⟨v, r', S', x, objs', rfl, hev, hw', hx, rfl, rfl⟩
        exact hkeep v r' S' w' hev hw' hx
      | some jw =>
        obtain ⟨j, want⟩ := jw
        rw [hg] at hq
        obtain ⟨pp, x0, tj, htj, hx0, hq, hcase⟩ := hq
        have hy : (pp → yielded ops a.tmps j = some want) ∧ (¬ pp → yielded ops a.tmps j ≠ some want) := by
          rcases hcase with ⟨g, hsj, rfl⟩ | ⟨c, g, hsj, rfl⟩
          · exact guard_b (dst_of htab htj) hsj hdq
          · exact guard_c (dst_of htab htj) hsj hdq
        simp only [Region.wanted, hg]
        by_cases hc : pp
        · simp only [hy.1 hc, BEq.rfl, if_true]
          refine .inl (Oper.wp_mono ?_ (hq hc a w r S Q hd hn hw hdq))
          rintro a' w' ⟨v, r', S', x, objs', rfl, hev, hw', hx, rfl, rfl⟩
          exact hkeep v r' S' w' hev hw' (by rw [hx0]; exact ⟨fun _ => hx, fun h => absurd hc h⟩)
        · have : (yielded ops a.tmps j == some want) = false := by
            cases hb : (yielded ops a.tmps j == some want) with
            | false => rfl
            | true => exact absurd (by simpa using hb) (hy.2 hc)
          rw [this]
          simp only [Bool.false_eq_true, if_false]
          exact hkeep undef r S w (Evo.refl _ _ _) hw (by rw [hx0]; exact ⟨fun h => absurd h hc, fun _ => rfl⟩)
    · -- one of the others
      obtain ⟨o', ho', hg, hin, hne, hT⟩ := hL i (memB_iff.1 h)
      rw [ho] at ho'
      simp at ho'
      subst ho'
      unfold wpOp
      rw [ho]
      simp only [Region.wanted, hg, if_true]
      refine .inl (Oper.wp_mono ?_ (hT a w r S Q hd hn hw hdq))
      rintro a' w' ⟨v, r', S', x, objs', rfl, hev, hw', hx, N, hsub, hreg⟩
      have hgd := fun t' => getD_put a o.dst v t' (inRange_lt hin hn)
      refine hreg fuel _ _ w' E r' S' (hNext _ _ _ ?_ ?_) ?_ ?_ hw' (he.trans hev) ?_ ?_
      · intro j; simp only [List.mem_cons]; exact ⟨fun h => h.elim (fun h => h.elim .inl (fun h => .inr (.inl h))) (fun h => .inr (.inr h)), fun h => h.elim (fun h => .inl (.inl h)) (fun h => h.elim (fun h => .inl (.inr h)) .inr)⟩
      · intro q hq
        obtain ⟨p, hp, rfl⟩ := List.mem_map.1 (hN.sub q hq)
        exact List.mem_map.2 ⟨p, List.mem_append_left _ hp, rfl⟩
      · cases h : o.dst <;> simp [Act.put, hd]
      · cases h : o.dst <;> simp [Act.put, hn]
      · exact SlotsOK.put (inRange_lt hin hn) (hs.evo hev) hx
      · intro q x' t' hqE hm ht'
        obtain ⟨p, hp, hpe⟩ := List.mem_map.1 (hN.sub q hqE)
        have hqm' : q ∈ QR.map (·.1) := hN.sub q hqE
        rw [hgd, if_neg (hne q hqm' t' ht')]
        -- the fact of q in the larger list is the fact of q
        refine x'.evo hev (hf q x' t' hqE ?_ ht')
        rcases List.mem_append.1 hm with h' | h'
        · exact h'
        · have := List.all_eq_true.1 hsub _ h'
          simp only [Bool.not_eq_true'] at this
          rw [memB_iff.2 hqm'] at this
          cases this
    · rcases hdeps' e hem with h' | h'
      · rw [memB_iff.2 h'] at h; cases h.1
      · have := hN.sub e h'
        rw [memB_iff.2 this] at h; cases h.2

theorem CodeT.draw {id : Nat} {s : St} {QR : List (Nat × VP)} (hm : P.follows .mixedOrders = true) (h : Reg C ops tab Q [] s QR) : CodeT C (.region id ops true) s Q := by
  intro a w hs
  refine wp_region_any hm ?_
  obtain ⟨hd, hn, r, S, hw, he, hsl⟩ := hs.drawn (w.drawn + 1)
  refine h _ _ _ _ [] r S ⟨(fun j hj => by rcases hj with h | h <;> cases h), by simp, fun i hi => by simp [hi], (fun q hq => by cases hq), ?_⟩ hd hn hw he hsl (fun q x t hq => by cases hq)
  rw [List.filter_eq_self.2]
  · simp
  · intro i hi
    have := List.mem_range.1 hi
    simp [this]
end
end Px
