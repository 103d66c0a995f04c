/- A part of the proof of handoverPairs_holds. Conditions: none. -/
import Derived.Test.YteljjchaealkoaaPra
import Derived.OpenShut
import Derived.MapKept
import Derived.Carry
import Derived.Lib.AppendZeros
import Derived.Laws.Slices
section
namespace Px
open Go Go.RowKit
set_option linter.unusedVariables false
theorem zg.of_eq {r : Nat → Prop} {w : World} {A B : List VP} {cs : List Value} (h : zg r w A cs) (e : A = B) : zg r w B cs := e ▸ h
theorem Opn.array {P : Program} {α : Type} [Inhabited α] {t E : TypeId} {N n m : Nat} {e : α → List VP} {R : α → Prop} (ht : P.underlying t = some (.array N E)) (hn : P.cellsOf E = n) (hm : P.cellsOf t = m) (hmn : m = N * n) (he : Opn P E n e R) :
    Opn P t m (fun f => arr N e f) (fun f : Nat → α => ∀ i, i < N → R (f i)) := by
  intro H enc w sp held fuel cs x h
  obtain ⟨xs, k, _, _, hl, hx, hel⟩ := DataW.trod_array ht h
  rw [hm] at hl
  rw [hn] at hel
  have hat : ∀ i, ∃ y : α, i < N → R y ∧ zg (fun b => b < w.heap.size) w (e y) ((cs.drop (i * n)).take n) := by
    intro i
    by_cases hi : i < N
    · have h1 := hel i hi
      rw [List.getElem?_eq_getElem (by omega)] at h1
      obtain ⟨_, y, hR, hc⟩ := he _ _ _ _ _ _ _ _ h1
      exact ⟨y, fun _ => ⟨hR, hc⟩⟩
    · exact ⟨default, fun h => absurd h hi⟩
  have hf : ∃ f : Nat → α, ∀ i, i < N → R (f i) ∧ zg (fun b => b < w.heap.size) w (e (f i)) ((cs.drop (i * n)).take n) := ⟨fun i => Classical.choose (hat i), fun i => Classical.choose_spec (hat i)⟩
  obtain ⟨f, hf⟩ := hf
  refine ⟨hl, f, fun i hi => (hf i hi).1, ?_⟩
  have key : ∀ d i, N - i = d → i ≤ N → zg (fun b => b < w.heap.size) w ((List.range' i (N - i)).flatMap fun j => e (f j)) (cs.drop (i * n)) := by
    intro d
    induction d with
    | zero =>
      intro i hd hi
      have : i = N := by omega
      subst this
      rw [Nat.sub_self]
      exact zg.tile0 (by rw [hl, hmn])
    | succ d ih =>
      intro i hd hi
      rw [hd, List.range'_succ, List.flatMap_cons]
      have h2 := ih (i + 1) (by omega) (by omega)
      rw [show N - (i + 1) = d by omega, Nat.add_mul, Nat.one_mul] at h2
      exact zg.tile (hf i (by omega)).2 h2
  have := key N 0 (by omega) (by omega)
  rw [Nat.zero_mul, List.drop_zero, Nat.sub_zero, ← List.range_eq_range'] at this
  exact this
end Px
end
section
namespace Px
open Go Go.RowKit
set_option linter.unusedVariables false
set_option linter.unusedSimpArgs false
theorem Ev.ent {s : St} {x : Operand} {A B : VP} (h : Ev s x A) (e : Ent A B) : Ev s x B := fun a r w hs => e r w _ (h a r w hs)

/-- A function value with what it brings along. -/
def fnc (f : FuncId) (Xs : List VP) : VP :=
  ⟨fun r w v => ∃ caps : Array Value, v = .func (.func f) #[] caps ∧ caps.size = Xs.length ∧ ∀ (i : Nat) (A : VP), Xs[i]? = some A → A.h r w (caps.getD i undef),
   fun h1 h2 ⟨caps, e, hl, hh⟩ => ⟨caps, e, hl, fun i A hi => A.mono h1 h2 (hh i A hi)⟩⟩
theorem FzVs.at {sv : Value} {X : VP} : ∀ {l m : List VP}, FzVs sv X l m → l.length = m.length ∧ ∀ (i : Nat) (B : VP), m[i]? = some B → ∃ A, l[i]? = some A ∧ FzV sv X A B
  | [], [], _ => ⟨rfl, fun i B h => by simp at h⟩
  | A :: l, B :: m, ⟨he, hm⟩ => by
    obtain ⟨h1, h2⟩ := FzVs.at hm
    refine ⟨by simp [h1], fun i D hi => ?_⟩
    cases i with
    | zero => simp at hi; subst hi; exact ⟨A, rfl, he⟩
    | succ i => simpa using h2 i D (by simpa using hi)
  | [], _ :: _, h => h.elim
  | _ :: _, [], h => h.elim
theorem FzV.fnc {sv : Value} {X : VP} {f : FuncId} {caps : Array Value} {Xs : List VP} (h : FzVs sv X (caps.toList.map eqv) Xs) : FzV sv X (eqv (.func (.func f) #[] caps)) (fnc f Xs) := by
  intro r w v hx hv
  simp only [eqv] at hv
  obtain ⟨h1, h2⟩ := h.at
  refine ⟨caps, hv, by simpa using h1, fun i A hi => ?_⟩
  obtain ⟨B, hB, hf⟩ := h2 i A hi
  refine hf r w _ hx ?_
  rw [List.getElem?_map, Option.map_eq_some_iff] at hB
  obtain ⟨u, hu, rfl⟩ := hB
  have : caps[i]? = some u := by simpa using hu
  simp [eqv, Array.getD_eq_getD_getElem?, this]
theorem zq4 {f : FuncId} : Ent (eqv (.func (.func f) #[] #[])) (fnc f []) := fun r w v h => ⟨#[], h, rfl, fun i A hi => by simp at hi⟩

/-- A function value that compares. -/
def fcmp (P : Program) {α : Type} (eA : α → VP) (cmp : α → α → Option Int) : VP :=
  ⟨fun ro w v => ∃ f caps, v = .func (.func f) #[] caps ∧ FnOK P f ∧ ∀ x y c, cmp x y = some c → ∀ (r : Nat → Prop) (w' : World) (vx vy : Value), (∀ b, r b → b < w'.heap.size) → (∀ b, ro b → r b) → (∀ b, ro b → w'.heap[b]? = w.heap[b]?) →
      (eA x).h r w' vx → (eA y).h r w' vy → Calls P f (#[vx, vy] ++ caps) w' (retR w' w'.heap.size r w' (fun X news => X = iv .i64 c ∧ news = [])),
   fun h1 h2 ⟨f, caps, e, hf, hh⟩ => ⟨f, caps, e, hf, fun x y c hc r w' vx vy hr hs hw => hh x y c hc r w' vx vy hr (fun b hb => hs b (h1 b hb)) (fun b hb => (hw b (h1 b hb)).trans (h2 b hb))⟩⟩
theorem zea {P : Program} {α : Type} {eA : α → VP} {cmp : α → α → Option Int} {f : FuncId} {Xs : List VP} (hf : FnOK P f)
    (h : ∀ x y c, cmp x y = some c → z0z P f ([eA x, eA y] ++ Xs) (fun X news => X = iv .i64 c ∧ news = [])) : Ent (fnc f Xs) (fcmp P eA cmp) := by
  rintro r w v ⟨caps, rfl, hl, hh⟩
  refine ⟨f, caps, rfl, hf, fun x y c hc r' w' vx vy hr hsub hheap hx hy => ?_⟩
  refine h x y c hc r' w' (#[vx, vy] ++ caps) hr (by simp [hl]; omega) fun i A hi => ?_
  match i, hi with
  | 0, hi =>
    have e : (#[vx, vy] ++ caps).getD 0 undef = vx := by simp [Array.getD_eq_getD_getElem?, Array.getElem?_append]
    rw [e]; simp at hi; subst hi; exact hx
  | 1, hi =>
    have e : (#[vx, vy] ++ caps).getD 1 undef = vy := by simp [Array.getD_eq_getD_getElem?, Array.getElem?_append]
    rw [e]; simp at hi; subst hi; exact hy
  | i + 2, hi =>
    have hi' : Xs[i]? = some A := by simpa using hi
    have := hh i A hi'
    have e : (#[vx, vy] ++ caps).getD (i + 2) undef = caps.getD i undef := by
      rw [Array.getD_eq_getD_getElem?, Array.getD_eq_getD_getElem?, Array.getElem?_append_right (by simp)]
      rfl
    rw [e]
    exact A.mono hsub hheap this

section loud
variable {P : Program} {C : Cx P} {s : St} {K : VP → List HP → Prop} {tab : Tab} {o : Oper}
theorem zj9.gn {ζ : Type} [Inhabited ζ] (X : ζ → VP) (N : ζ → List HP) (p : Prop) [Decidable p] {j : Nat} {want : Bool} {t : Nat} (hg : o.guard = some (j, want)) (htj : tab.dst j = some t)
    (hs : (∃ g, s.slots t = some (bv g) ∧ p = (g = want)) ∨ (∃ c g, s.slots t = some (cnd c (bv g)) ∧ p = (c ∧ g = want))) (hq : p → OpT C o s fun x objs => ∃ z, x = X z ∧ objs = s.objs ++ N z)
    (h : ∀ z, K (cnd p (X z)) (s.objs ++ (N z).map fun H => when p H)) : zj9 C tab o s K := by
  unfold zj9
  rw [hg]
  refine ⟨p, t, htj, hs, fun hp => ?_, fun hp => ?_⟩
  · intro a w r S Q hd hn hw hsl
    refine Oper.wp_mono ?_ (hq hp a w r S Q hd hn hw hsl)
    rintro a' w' ⟨v, r', S', x, objs', rfl, hev, hw', hx, z, rfl, rfl⟩
    have e1 : (N z).map (fun H => when p H) = N z := by
      rw [List.map_congr_left (g := id) (fun H _ => by simp [when, hp]), List.map_id]
    refine ⟨v, r', S', cnd p (X z), _, rfl, hev, ?_, ⟨fun _ => hx, fun h => absurd hp h⟩, h z⟩
    rw [e1]; exact hw'
  · refine ⟨cnd p (X default), _, fun r w => ⟨fun h => absurd h hp, fun _ => rfl⟩, fun r S w hw => ⟨S, hw.empS _ ?_⟩, h default⟩
    intro H hH
    obtain ⟨H', _, rfl⟩ := List.mem_map.1 hH
    simp [when, hp]
theorem zj9.gnb {ζ : Type} [Inhabited ζ] (X : ζ → VP) (N : ζ → List HP) (g : Bool) {j : Nat} {want : Bool} {t : Nat} (hg : o.guard = some (j, want)) (htj : tab.dst j = some t) (ht : s.slots t = some (bv g)) (hq : g = want → OpT C o s fun x objs => ∃ z, x = X z ∧ objs = s.objs ++ N z)
    (h : ∀ z, K (cnd (g = want) (X z)) (s.objs ++ (N z).map fun H => when (g = want) H)) : zj9 C tab o s K := .gn X N _ hg htj (.inl ⟨g, ht, rfl⟩) hq h
end loud
theorem z5m (x : Int) : zbj (eI64 x) := ⟨z5, trivial⟩
section ops
variable {P : Program} {C : Cx P} {s : St} {dst : Option Tmp} {ty : TypeId} {pos : String} {after : Array Edge} {guard : Option (Nat × Bool)} {K : VP → List HP → Prop}
/-- A call of a comparing function value. -/
theorem zaz {α : Type} {eA : α → VP} {cmp : α → α → Option Int} {fo a b : Operand} {ts : Array TypeId} {x y : α} {c : Int} (hfo : Ev s fo (fcmp P eA cmp)) (ha : Ev s a (eA x)) (hb : Ev s b (eA y)) (hc : cmp x y = some c) :
    OpQ C ⟨dst, .call { callee := .value fo, args := #[a, b], argTypes := ts }, ty, pos, after, guard⟩ s (iv .i64 c) := by
  intro t w r S Q hd hn hw hs
  obtain ⟨f, caps, hv, ⟨fn, h1, h2, h3⟩, hcall⟩ := hfo t r w hs
  unfold Oper.wp
  have hrun : (execOp t.eval ⟨dst, .call { callee := .value fo, args := #[a, b], argTypes := ts }, ty, pos, after, guard⟩).run P w = .ok (.enter f (#[t.eval a, t.eval b] ++ caps)) w := by
    simp [execOp, resolve, hv, Deferred.ofValue, invoke, zbf h1 h2 h3]
  rw [hrun, Oper.upon_enter]
  refine (hcall x y c hc r w _ _ hw.old (fun _ h => h) (fun _ _ => rfl) (ha t r w hs) (hb t r w hs)).mono ?_
  rintro e w' ⟨v, X, news, r', S', rfl, he, hw', hx, rfl, rfl⟩
  have hx' : v = .int .i64 c := hx
  refine ⟨v, r, _, _, _, rfl, ⟨fun _ h => h, fun b hb => he.2.1 b hb, fun _ h => .inl h⟩, hw.join hw' r (fun _ h => h) (fun b hb => .inl hb) (fun i H hi => by simp at hi), hx', rfl, by simp⟩

/-- A function that changes a slice that it is given. -/
def MutT (P : Program) (f : FuncId) (args : List VP) {α : Type} (E : TypeId) (e : α → List VP) (sz : Nat) (l : List α) (sv : Value) (K : VP → List α → Prop) : Prop :=
  ∀ w0 base, zau P w0 base f args [row E e sz l sv] fun x objs => ∃ l', objs = [row E e sz l' sv] ∧ K x l'
theorem z3r {α : Type} {E : TypeId} {e : α → List VP} {sz : Nat} {l : List α} {sv : Value} {f : FuncId} {as : Array Operand} {ts : Array TypeId} {args : List VP} {K' : VP → List α → Prop} (i : Nat) (ho : s.objs[i]? = some (row E e sz l sv))
    (hfl : ∀ x, ∀ A ∈ e x, A.flat) (hf : FnOK P f) (ha : Args s as.toList args) (h : MutT P f args E e sz l sv K') (k : ∀ x l', K' x l' → x.flat ∧ K x (s.objs.set i (row E e sz l' sv))) :
    OpT C ⟨dst, .call { callee := .value (.func f), args := as, argTypes := ts }, ty, pos, after, guard⟩ s K :=
  .calls hf (Ev.func f) fun a r S w hd hw hs => by
    have hi : i < s.objs.length := (List.getElem?_eq_some_iff.1 ho).1
    obtain ⟨h1, h2⟩ := ha.ok hs
    let O : Nat → Prop := fun b => ∃ j, j ≠ i ∧ S j b
    let r' : Nat → Prop := fun b => r b ∨ O b
    have hrr : ∀ b, r b → r' b := fun b hb => .inl hb
    have hO : ∀ b, O b → ¬ r b := fun b ⟨j, _, hb⟩ => (hw.own j b hb).2.2.2
    have hwi : WInv C.w0 C.base [row E e sz l sv] r' (fun j b => j = 0 ∧ S i b) w := by
      refine ⟨hw.below, hw.size, ?_, ?_, ?_, ?_⟩
      · intro j B hj
        match j, hj with
        | 0, hj =>
          simp at hj; subst hj
          have : (fun b => (0 : Nat) = 0 ∧ S i b) = S i := by funext b; simp
          rw [this]
          exact HP.mono _ hrr (fun _ _ => rfl) (fun _ _ => rfl) (hw.obj i _ ho)
        | j + 1, hj => simp at hj
      · rintro j b ⟨rfl, hb⟩
        obtain ⟨_, b2, b3, b4⟩ := hw.own i b hb
        refine ⟨by simp, b2, b3, ?_⟩
        rintro (q | ⟨j, hj, q⟩)
        · exact b4 q
        · exact hj (hw.apart j i b q hb)
      · rintro j k b ⟨rfl, _⟩ ⟨rfl, _⟩; rfl
      · rintro b (q | ⟨j, _, q⟩)
        · exact hw.old b q
        · exact (hw.own j b q).2.2.1
    refine (h C.w0 C.base r' _ w _ hwi (by simp at h1; simp [h1]) fun j A hj => ?_).mono ?_
    · have := h2 j A hj
      have hlt : j < as.size := by have := (List.getElem?_eq_some_iff.1 hj).1; simp at h1; omega
      exact A.mono hrr (fun _ _ => rfl) (by simpa [List.getElem?_map, hlt] using this)
    · rintro e' w' ⟨v, x, objs', r2, S2, rfl, he, hw', hx, l', rfl, hk⟩
      obtain ⟨kf, kk⟩ := k _ _ hk
      refine ⟨v, x, _, fun b => r2 b ∧ ¬ O b, fun j b => if j = i then S2 0 b else S j b, rfl, ⟨fun b hb => ⟨he.1 b (.inl hb), fun q => hO b q hb⟩, fun b hb => he.2.1 b (.inl hb), fun b hb => ?_⟩, ⟨hw'.below, hw'.size, ?_, ?_, ?_, ?_⟩, kf _ _ _ _ _ hx, kk⟩
      · rcases he.2.2 b hb.1 with (q | q) | q
        · exact .inl q
        · exact absurd q hb.2
        · exact .inr q
      · intro j B hj
        rw [List.getElem?_set] at hj
        split at hj
        · rename_i eij; subst eij
          have hj' : row E e sz l' sv = B := by simpa [hi] using hj
          subst hj'
          simp only [if_true]
          exact znu hfl _ _ _ _ (hw'.obj 0 _ rfl)
        · rename_i eij
          have eji : ¬ j = i := fun q => eij q.symm
          simp only [eji, if_false]
          refine B.mono (w := w) (fun b hb => ⟨he.1 b (.inl hb), fun q => hO b q hb⟩) (fun b hb => he.2.1 b (.inl hb)) (fun b hb => he.2.1 b (.inr ⟨j, eji, hb⟩)) (hw.obj j B hj)
      · intro j b hb
        by_cases eji : j = i
        · subst eji
          simp only [if_true] at hb
          obtain ⟨_, b2, b3, b4⟩ := hw'.own 0 b hb
          exact ⟨by simpa using hi, b2, b3, fun q => b4 q.1⟩
        · simp only [eji, if_false] at hb
          obtain ⟨b1, b2, b3, b4⟩ := hw.own j b hb
          exact ⟨by simpa using b1, b2, hw'.old b (he.1 b (.inr ⟨j, eji, hb⟩)), fun q => q.2 ⟨j, eji, hb⟩⟩
      · intro j k' b hb hb'
        by_cases ej : j = i <;> by_cases ek : k' = i
        · rw [ej, ek]
        · simp only [ej, if_true] at hb
          simp only [ek, if_false] at hb'
          exact absurd (he.1 b (.inr ⟨k', ek, hb'⟩)) (hw'.own 0 b hb).2.2.2
        · simp only [ek, if_true] at hb'
          simp only [ej, if_false] at hb
          exact absurd (he.1 b (.inr ⟨j, ej, hb⟩)) (hw'.own 0 b hb').2.2.2
        · simp only [ej, ek, if_false] at hb hb'
          exact hw.apart j k' b hb hb'
      · exact fun b hb => hw'.old b hb.1
theorem MutT.of_code {α : Type} {E : TypeId} {e : α → List VP} {sz : Nat} {l : List α} {sv : Value} {f : FuncId} {fn : Func} {c : Code} {args : List VP} {K' : VP → List α → Prop} (n : Nat) (hf : P.funcs[f]? = some fn) (hb : fn.body = some c) (hn : fn.ntmps = n) (hl : args.length ≤ n)
    (h : ∀ w0 base r0 wI, z2 (⟨w0, base, r0, wI, n⟩ : Cx P) c ⟨zeo args, [row E e sz l sv]⟩ (retQ (⟨w0, base, r0, wI, n⟩ : Cx P) fn (fun x objs => ∃ l', objs = [row E e sz l' sv] ∧ K' x l'))) : MutT P f args E e sz l sv K' := by
  subst hn
  exact fun w0 base => zau.of_code hf hb hl (h w0 base)
end ops
/-- A variable of the call's own is not written any more. -/
theorem Sat.freezeB {P : Program} {C : Cx P} {s : St} {a : Act} {w : World} {b : Nat} {T : TypeId} {cs : List VP} (i : Nat) (ho : s.objs[i]? = some (box b T cs))
    (L : List (Nat × VP)) (O : List HP) (hL : zcv (.pointer (some ⟨b, 0, none⟩)) (rop cs) s.slots L) (hO : ze2 (.pointer (some ⟨b, 0, none⟩)) (rop cs) (s.objs.set i emp) O) (h : Sat C s a w) : Sat C ⟨ovr s.slots L, O⟩ a w := by
  obtain ⟨hd, hn, r, S, hw, hev, hs⟩ := h
  have hi : i < s.objs.length := (List.getElem?_eq_some_iff.1 ho).1
  let r' : Nat → Prop := fun b => r b ∨ S i b
  have hrr : ∀ b, r b → r' b := fun b hb => .inl hb
  have hx : (rop cs).h r' w (.pointer (some ⟨b, 0, none⟩)) := by
    obtain ⟨hS, cur, hc, hh⟩ := hw.obj i _ ho
    exact ⟨b, 0, rfl, .inr hS, (hh.mono hrr (fun _ _ => rfl)).rd hc⟩
  have hs' : z2h s.slots a r' w := fun t A ht => A.mono hrr (fun _ _ => rfl) (hs t A ht)
  have hlen := hO.at.1
  rw [List.length_set] at hlen
  refine ⟨hd, hn, r', fun j b => j ≠ i ∧ S j b, ⟨hw.below, hw.size, ?_, ?_, ?_, ?_⟩, ?_, hL.ok hx hs' hs'⟩
  · intro j B hj
    obtain ⟨A, hA, hf⟩ := hO.at.2 j B hj
    refine hf _ _ _ hx ?_
    rw [List.getElem?_set] at hA
    split at hA
    · rename_i e; subst e
      simp only [hi, if_true, Option.some.injEq] at hA; subst hA; trivial
    · rename_i e
      have : (fun b => j ≠ i ∧ S j b) = S j := by
        funext b; exact propext ⟨fun h => h.2, fun h => ⟨fun h => e h.symm, h⟩⟩
      rw [this]
      exact A.mono hrr (fun _ _ => rfl) (fun _ _ => rfl) (hw.obj j A hA)
  · rintro j b ⟨hne, hb⟩
    obtain ⟨h1, h2, h3, h4⟩ := hw.own j b hb
    refine ⟨hlen ▸ h1, h2, h3, ?_⟩
    rintro (q | q)
    · exact h4 q
    · exact hne (hw.apart j i b hb q)
  · rintro j k b ⟨_, hb⟩ ⟨_, hb'⟩
    exact hw.apart j k b hb hb'
  · rintro b (q | q)
    · exact hw.old b q
    · exact (hw.own i b q).2.2.1
  · refine ⟨fun b hb => .inl (hev.1 b hb), hev.2.1, ?_⟩
    rintro b (q | q)
    · exact hev.2.2 b q
    · exact .inr (hw.own i b q).2.1
section fzb
variable {P : Program} {C : Cx P} {s : St} {Q : Exit → Act → World → Prop} {c : Code} {e : Exit} {ops : Array Oper} {l : List Nat} {b : Nat} {T : TypeId} {cs : List VP}
theorem ze.freezeB (i : Nat) (L : List (Nat × VP)) (O : List HP) (ho : s.objs[i]? = some (box b T cs)) (hL : zcv (.pointer (some ⟨b, 0, none⟩)) (rop cs) s.slots L) (hO : ze2 (.pointer (some ⟨b, 0, none⟩)) (rop cs) (s.objs.set i emp) O)
    (h : ze C ops l ⟨ovr s.slots L, O⟩ Q) : ze C ops l s Q := fun a w hs => h a w (hs.freezeB i ho L O hL hO)
end fzb
end Px
end
section
namespace Px
open Go Go.RowKit
set_option linter.unusedVariables false
set_option linter.unusedSimpArgs false
/-- A part of an aggregate. -/
def zr2 (P : Program) (t : TypeId) (vs : Array Value) (off : Nat) : Option Value := match z4i P t with
  | some (true, n) => some (.agg (vs.extract off (off + n)))
  | some (false, 1) => vs[off]?
  | _ => none
theorem zlm {P : Program} {t : TypeId} {vs : Array Value} {off : Nat} {u : Value} (w : World) (h : zr2 P t vs off = some u) : (part t vs off).run P w = .ok u w := by
  unfold zr2 at h
  split at h
  · rename_i n ht
    cases h
    exact zlb w ht
  · rename_i ht
    exact zlp w ht h
  · cases h
def eqL (g : Field → Option Bool) : List Field → Option Bool
  | [] => some true
  | f :: fs => match g f, eqL g fs with
    | some a, some b => some (a && b)
    | _, _ => none
def zsd : Option TypeDesc → Value → Value → Option Bool
  | some (.int _), .int k a, .int k' b => if k == k' then some (a == b) else none
  | some .bool, .bool a, .bool b => some (a == b)
  | some .string, .string a, .string b => some (a == b)
  | _, _, _ => none
/-- What a comparison answers, for values of nested structs of numbers, truth values and strings. -/
def eqN (P : Program) : Nat → TypeId → Value → Value → Option Bool
  | 0, _, _, _ => none
  | n + 1, t, u, v => match P.underlying t, u, v with
    | some (.struct fs), .agg xs, .agg ys => if P.stoodInHeld t then none else eqL (fun f => if f.name == "_" then none else match zr2 P f.type xs f.offset, zr2 P f.type ys f.offset with | some a, some b => eqN P n f.type a b | _, _ => none) fs.toList
    | d, u, v => zsd d u v
theorem zuh {P : Program} (w : World) : ∀ (n d : Nat) (t : TypeId) (u v : Value) (g : Bool), eqN P n t u v = some g → (Op.equalIn (d + n) t u v).run P w = .ok g w := by
  intro n
  induction n with
  | zero => intro d t u v g h; cases h
  | succ n ih =>
    intro d t u v g h
    rw [← Nat.add_assoc]
    unfold eqN at h
    split at h
    · rename_i fs xs ys hu
      split at h
      · cases h
      rename_i hs
      have hf : P.fieldsOf t = fs := by simp [Program.fieldsOf, hu]
      rw [run_equalIn_struct w (d + n) t xs ys (by rw [hf, hu]) (by simpa using hs), hf]
      generalize fs.toList = l at h
      induction l generalizing g with
      | nil =>
        simp only [eqL, Option.some.injEq] at h; subst h
        simp [Op.eqFields]
      | cons f l ihl =>
        unfold eqL at h
        split at h
        · rename_i a b ha hb
          cases h
          split at ha
          · cases ha
          rename_i hn
          split at ha
          · rename_i p q hp hq
            have e1 := ih d f.type p q a ha
            have e2 := ihl b hb
            simp only [beq_iff_eq] at hn
            simp only [Op.eqFields, ne_eq, hn, not_false_eq_true, if_true, Sem.run_bind, zlm w hp, zlm w hq, Result.andThen_ok, e1]
            cases a with
            | false => simp
            | true => simpa using e2
          · cases ha
        · cases h
    · rename_i dd u' v' hne
      unfold zsd at h
      split at h
      · rename_i k k1 a k2 b hu
        split at h
        · rename_i hk
          cases h
          simp only [beq_iff_eq] at hk
          subst hk
          exact run_equalIn_int w (d + n) t _ _ _ _ hu
        · cases h
      · rename_i a b hu
        cases h
        exact run_equalIn_bool' w (d + n) t _ _ hu
      · rename_i a b hu
        cases h
        rw [run_equalIn_string w (d + n) t _ _ hu, ← beq_toListBytes]
      · cases h
theorem zjk {P : Program} {t : TypeId} {u v : Value} {g : Bool} (w : World) (h : eqN P 8 t u v = some g) : (Op.equal t u v).run P w = .ok g w :=
  zuh w 8 9992 t u v g h

section strs
variable {P : Program} {C : Cx P} {s : St} {dst : Option Tmp} {ty : TypeId} {pos : String} {after : Array Edge} {guard : Option (Nat × Bool)} {K : VP → List HP → Prop}
theorem zwh {t : TypeId} {x : Operand} {b : ByteArray} (ht : P.underlying t = some .string) (h : Ev s x (eqv (.string b))) :
    OpQ C ⟨dst, .call { callee := .builtin .len, args := #[x], argTypes := #[t] }, ty, pos, after, guard⟩ s (iv .i64 (b.size : Int)) :=
  .val fun a r w hs => by
    have hv := h a r w hs
    simp only [eqv] at hv
    exact ⟨_, zds (by rw [hv]; simp [Builtin.len_, run_underlying ht, goInt]), rfl⟩
theorem ztq {t t' : TypeId} {x y : Operand} {m n : ByteArray} (ht : P.underlying t = some .string) (hx : Ev s x (eqv (.string m))) (hy : Ev s y (eqv (.string n))) :
    OpQ C ⟨dst, .binOp .eql t x y t', ty, pos, after, guard⟩ s (bv (m == n)) :=
  .val fun a ro w hs => by
    have h1 := hx a ro w hs
    have h2 := hy a ro w hs
    simp only [eqv] at h1 h2
    refine ⟨_, ?_, rfl⟩
    simp [execOp, h1, h2, eqGuard, binOp, Op.stringOp, beq_toListBytes]
end strs
end Px
end
section
namespace Px
open Go Go.RowKit
set_option linter.unusedVariables false
set_option linter.unusedSimpArgs false
set_option linter.unusedSectionVars false
def setB (w : World) (b : Nat) (o : Obj) : World := { w with heap := w.heap.setIfInBounds b o }

def mget {κ ν : Type} [BEq κ] : List (κ × ν) → κ → Option ν
  | [], _ => none
  | (a, b) :: m, k => bif k == a then some b else mget m k
def mset {κ ν : Type} [BEq κ] : List (κ × ν) → κ → ν → List (κ × ν)
  | [], k, v => [(k, v)]
  | (a, b) :: m, k, v => bif k == a then (k, v) :: m else (a, b) :: mset m k v
/-- A map of the call's own, in block b. -/
def mapo {κ ν : Type} (b : Nat) (eK : κ → Value) (eV : ν → Value) (m : List (κ × ν)) : HP :=
  ⟨fun S r w => S b ∧ ∃ es clock, w.heap[b]? = some (.map es clock) ∧ es.toList.map (fun e => (e.key, e.val)) = m.map (fun p => (eK p.1, eV p.2)),
   fun h1 h2 h3 ⟨hS, es, c, hc, h⟩ => ⟨hS, es, c, (h3 _ hS).trans hc, h⟩⟩
def fnd {κ : Type} [BEq κ] (k : κ) : List κ → List MapEntry → Nat → Option (Nat × Value)
  | a :: ks, e :: es, i => bif k == a then some (i, e.val) else fnd k ks es (i + 1)
  | _, _, _ => none
/-- How keys of a type are found. -/
structure zte (P : Program) (kt : TypeId) {κ : Type} [BEq κ] (eK : κ → Value) : Prop where
  check : ∀ w e k, (Instr.checkKey e 10000 kt (eK k)).run P w = .ok () w
  find : ∀ w k (es : List MapEntry) (ks : List κ), es.map (·.key) = ks.map eK → (Instr.findKey kt (eK k) es).run P w = .ok (fnd k ks es 0) w
  stays : ∀ w k k', (k == k') = true → (Instr.keyThatStays (eK k') (eK k)).run P w = .ok (eK k) w
theorem zi6 {d : TypeDesc} {q : IntKind} (hd : d = .int q) (k : Int) : ∀ (es : List MapEntry) (ks : List Int) (i : Nat), es.map (·.key) = ks.map (Value.int q) → Instr.findNow d (.int q k) es i = some (fnd k ks es i)
  | [], [], i, _ => rfl
  | e :: es, a :: ks, i, h => by
    subst hd
    simp only [List.map_cons, List.cons.injEq] at h
    unfold Instr.findNow fnd
    rw [h.1]
    simp only [Instr.sameNow, if_true]
    cases hk : k == a with
    | true => rfl
    | false => exact zi6 rfl k es ks (i + 1) h.2
  | [], _ :: _, _, h => by simp at h
  | _ :: _, [], _, h => by simp at h
theorem keyI {P : Program} {kt : TypeId} {q : IntKind} (ht : P.underlying kt = some (.int q)) : zte P kt (κ := Int) (Value.int q) where
  check w e k := by
    show (Instr.checkKey e (9999 + 1) kt (.int q k)).run P w = _
    rw [Instr.checkKey]
    simp [run_underlying ht]
  find w k es ks h := by simp [Instr.findKey, run_underlying ht, zi6 rfl k es ks 0 h]
  stays w k k' h := by
    have : k = k' := by simpa using h
    subst this
    simp [Instr.keyThatStays, Instr.sameBits]
/-- The zero value of a type. -/
def tz1 (P : Program) (t : TypeId) : Option Value := (P.info? t).bind (·.zero)
theorem zts {P : Program} {t : TypeId} {z : Value} (h : tz1 P t = some z) (w : World) : (zeroValue t).run P w = .ok z w := by
  unfold tz1 at h
  cases hi : P.info? t with
  | none => rw [hi] at h; simp at h
  | some i =>
    rw [hi] at h
    have hz : i.zero = some z := h
    simp [zeroValue, typeInfo, hi, hz]
/-- An array out of a list. -/
def ofL {α : Type} [Inhabited α] (l : List α) : Nat → α := fun j => l.getD j default
section ptrs
variable {P : Program} {C : Cx P} {s : St} {dst : Option Tmp} {ty : TypeId} {pos : String} {after : Array Edge} {guard : Option (Nat × Bool)}
theorem zrj {t E : TypeId} {n b o : Nat} {x i : Operand} {k : IntKind} {m : Int} {l : List VP} (ht : tarr P t = some (n, E)) (hE : z4i P E = some (false, 1)) (h : Ev s x (agg l)) (hi : Ev s i (iv k m))
    (hl : l = (List.range n).map fun j => eqv (.pointer (some ⟨b, o + j, none⟩))) (h0 : 0 ≤ m) (h1 : m < n) : OpQ C ⟨dst, .index t x i, ty, pos, after, guard⟩ s (eqv (.pointer (some ⟨b, o + m.toNat, none⟩))) :=
  .val fun a r w hs => by
    have h2 := hi a r w hs
    simp only [iv, eqv] at h2
    obtain ⟨vs, hx, hh⟩ := h a r w hs
    have hj : l[m.toNat * 1]? = some (eqv (.pointer (some ⟨b, o + m.toNat, none⟩))) := by
      have hlt : m.toNat < n := by omega
      rw [hl, Nat.mul_one]
      simp [hlt]
    obtain ⟨u, hu, hAu, _⟩ := hh.2 _ _ hj
    have hp := zlp (vs := vs) (off := m.toNat * 1) (u := u) w hE (by simpa using hu)
    exact ⟨u, by simp only [execOp, Instr.index, hx, h2, Sem.run_bind, asIntOf, Sem.run_pure, Result.andThen_ok, run_underlying (zjs ht), if_pos (And.intro h0 h1), zbm w hE, hp], hAu⟩
theorem Pt.seg (i : Nat) {b o : Nat} {T : TypeId} {cells : List VP} {l : List Int} {m : Int} {x : Operand} (hx : Ev s x (eqv (.pointer (some ⟨b, o + m.toNat, none⟩)))) (ho : s.objs[i]? = some (Px.box b T cells))
    (hseg : (cells.drop o).take l.length = l.map (iv .i64)) (h0 : 0 ≤ m) (h1 : m < l.length) : Pt C s x [iv .i64 (gt l m)] := by
  intro a r S w hw hs
  obtain ⟨hS, cur, hc, hh⟩ := hw.obj i _ ho
  refine ⟨b, o + m.toNat, hx a r w hs, fun j A hj => ?_⟩
  cases j with
  | succ j => simp at hj
  | zero =>
    simp at hj
    subst hj
    have hlt : m.toNat < l.length := by omega
    have e : cells[o + m.toNat]? = some (iv .i64 (gt l m)) := by
      have e1 : ((cells.drop o).take l.length)[m.toNat]? = some (iv .i64 (gt l m)) := by
        rw [hseg, List.getElem?_map, z8 ⟨h0, h1⟩]; rfl
      rw [List.getElem?_take, if_pos hlt, List.getElem?_drop] at e1
      exact e1
    have := hh.rd hc (o + m.toNat) _ e
    simpa using this
end ptrs
section map
variable {κ ν : Type} [BEq κ] {eK : κ → Value} {eV : ν → Value}
theorem zjz {k : κ} : ∀ {m : List (κ × ν)} {es : List MapEntry} {i : Nat}, es.map (fun e => (e.key, e.val)) = m.map (fun p => (eK p.1, eV p.2)) → fnd k (m.map (·.1)) es i = none → mget m k = none
  | [], [], i, _, _ => rfl
  | (a, b) :: m, e :: es, i, h, hf => by
    simp only [List.map_cons, List.cons.injEq] at h
    simp only [List.map_cons, fnd] at hf
    unfold mget
    cases hk : k == a with
    | true => rw [hk] at hf; cases hf
    | false => rw [hk] at hf; exact zjz h.2 hf
  | [], _ :: _, _, h, _ => by simp at h
  | _ :: _, [], _, h, _ => by simp at h
theorem zkr {k : κ} : ∀ {m : List (κ × ν)} {es : List MapEntry} {i j : Nat} {u : Value}, es.map (fun e => (e.key, e.val)) = m.map (fun p => (eK p.1, eV p.2)) → fnd k (m.map (·.1)) es i = some (j, u) →
    i ≤ j ∧ (∃ v, mget m k = some v ∧ u = eV v) ∧ (∃ k', (k == k') = true ∧ ∃ e, es[j - i]? = some e ∧ e.key = eK k') ∧ ∀ v', (es.modify (j - i) fun e => { e with key := eK k, val := eV v' }).map (fun e => (e.key, e.val)) = (mset m k v').map (fun p => (eK p.1, eV p.2))
  | [], [], i, j, u, _, hf => by simp [fnd] at hf
  | (a, b) :: m, e :: es, i, j, u, h, hf => by
    simp only [List.map_cons, List.cons.injEq, Prod.mk.injEq] at h
    simp only [List.map_cons, fnd] at hf
    unfold mget mset
    cases hk : k == a with
    | true =>
      rw [hk] at hf
      simp only [cond_true, Option.some.injEq, Prod.mk.injEq] at hf
      obtain ⟨rfl, rfl⟩ := hf
      refine ⟨Nat.le_refl _, ⟨b, rfl, h.1.2⟩, ⟨a, hk, e, by simp, h.1.1⟩, fun v' => ?_⟩
      simp [h.2]
    | false =>
      rw [hk] at hf
      obtain ⟨h1, h2, ⟨k', hk', e', he', hke⟩, h4⟩ := zkr h.2 hf
      have e1 : j - i = (j - (i + 1)) + 1 := by omega
      refine ⟨by omega, h2, ⟨k', hk', e', by rw [e1]; simpa using he', hke⟩, fun v' => ?_⟩
      rw [e1]
      simp [h4 v', h.1.1, h.1.2]
  | [], _ :: _, _, _, _, h, _ => by simp at h
  | _ :: _, [], _, _, _, h, _ => by simp at h
theorem zlg {k : κ} {v : ν} : ∀ {m : List (κ × ν)}, mget m k = none → mset m k v = m ++ [(k, v)]
  | [], _ => rfl
  | (a, b) :: m, h => by
    unfold mget at h
    unfold mset
    cases hk : k == a with
    | true => rw [hk] at h; cases h
    | false => rw [hk] at h; simp [zlg h]
variable {P : Program} {C : Cx P} {s : St} {dst : Option Tmp} {ty : TypeId} {pos : String} {after : Array Edge} {guard : Option (Nat × Bool)} {K : VP → List HP → Prop}
theorem zln {t : TypeId} (k : ∀ b, K (eqv (.map (some b))) (s.objs ++ [mapo b eK eV []])) : OpT C ⟨dst, .makeMap t none, ty, pos, after, guard⟩ s K :=
  .push (fun b => mapo b eK eV []) (fun b => eqv (.map (some b))) (fun a r S w hw hs => by
    refine ⟨.map #[] 0, _, ?_, rfl, rfl, #[], 0, heap_alloc_new w _, rfl⟩
    simp [execOp, run_makeMap]) k
theorem znf {t kt et : TypeId} {x i : Operand} {b : Nat} {m : List (κ × ν)} {k : κ} {d : ν} (j : Nat) (hk : zte P kt eK) (ht : P.underlying t = some (.map kt et)) (hz : tz1 P et = some (eV d)) (ho : s.objs[j]? = some (mapo b eK eV m))
    (hx : Ev s x (eqv (.map (some b)))) (hi : Ev s i (eqv (eK k))) : OpQ C ⟨dst, .lookup t x i false, ty, pos, after, guard⟩ s (eqv (eV ((mget m k).getD d))) :=
  .valO fun a r S w hw hs => by
    have h1 := hx a r w hs
    have h2 := hi a r w hs
    simp only [eqv] at h1 h2
    obtain ⟨hS, es, clock, hc, hh⟩ := hw.obj j _ ho
    have hkeys : es.toList.map (·.key) = (m.map (·.1)).map eK := by
      have := congrArg (List.map Prod.fst) hh
      simpa [List.map_map, Function.comp_def] using this
    have hzr := zts hz w
    have hf := hk.find w k es.toList _ hkeys
    cases hfd : fnd k (m.map (·.1)) es.toList 0 with
    | none =>
      rw [hfd] at hf
      refine ⟨eV d, ?_, ?_⟩
      · simp only [execOp, h1, h2, Instr.lookup, Sem.run_bind, run_underlying ht, Result.andThen_ok, MapKept.run_getObj_map hc, Sem.run_pure, hk.check, hf, hzr]
        simp
      · rw [zjz hh hfd]; rfl
    | some p =>
      obtain ⟨j', u⟩ := p
      rw [hfd] at hf
      obtain ⟨_, ⟨v, hv, rfl⟩, _⟩ := zkr hh hfd
      refine ⟨eV v, ?_, ?_⟩
      · simp only [execOp, h1, h2, Instr.lookup, Sem.run_bind, run_underlying ht, Result.andThen_ok, MapKept.run_getObj_map hc, Sem.run_pure, hk.check, hf]
        simp
      · rw [hv]; rfl
theorem zhj (w : World) (b b' : Nat) (o : Obj) (h : b' ≠ b) : (setB w b o).heap[b']? = w.heap[b']? := by
  unfold setB
  simp only
  rw [Array.getElem?_setIfInBounds_ne (fun e => h e.symm)]
theorem zgj (w : World) (b : Nat) (o : Obj) (h : b < w.heap.size) : (setB w b o).heap[b]? = some o := by
  unfold setB
  simp [h]
theorem OpT.storeB {o : Oper} (hdst : o.dst = none) (i : Nat) (H : HP) (hi : i < s.objs.length)
    (hr : ∀ a r S w, WInv C.w0 C.base s.objs r S w → z2h s.slots a r w → ∃ b ob, S i b ∧ (execOp a.eval o).run P w = .ok .skip (setB w b ob) ∧ H.h (S i) r (setB w b ob))
    (k : K topv (s.objs.set i H)) : OpT C o s K := by
  intro a w r S Q hd hn hw hs
  obtain ⟨b, ob, hS, hrun, hH⟩ := hr a r S w hw hs
  unfold Oper.wp
  rw [hrun, Oper.upon_skip]
  have hblk : ∀ b', b' < w.heap.size → ¬ S i b' → (setB w b ob).heap[b']? = w.heap[b']? := fun b' _ hb' => zhj w b b' ob (fun e => hb' (e ▸ hS))
  exact ⟨undef, r, _, topv, _, rfl, hw.evo_repl i hblk, hw.repl i H (S i) hi rfl rfl rfl (by simp [setB]) hblk (fun b' hb' => by
    obtain ⟨h1, h2, h3, h4⟩ := hw.own i b' hb'
    exact ⟨h2, by simpa [setB] using h3, h4, fun j hj hS' => hj (hw.apart j i b' hS' hb')⟩) hH, trivial, k⟩
theorem zem {t kt et : TypeId} {x i y : Operand} {b : Nat} {m : List (κ × ν)} {k : κ} {v : ν} (j : Nat) (hk : zte P kt eK) (ht : P.underlying t = some (.map kt et)) (ho : s.objs[j]? = some (mapo b eK eV m))
    (hx : Ev s x (eqv (.map (some b)))) (hi : Ev s i (eqv (eK k))) (hy : Ev s y (eqv (eV v))) (kk : K topv (s.objs.set j (mapo b eK eV (mset m k v)))) : OpT C ⟨none, .mapUpdate t x i y, ty, pos, after, guard⟩ s K :=
  .storeB rfl j _ (List.getElem?_eq_some_iff.1 ho).1 (fun a r S w hw hs => by
    have h1 := hx a r w hs
    have h2 := hi a r w hs
    have h3 := hy a r w hs
    simp only [eqv] at h1 h2 h3
    obtain ⟨hS, es, clock, hc, hh⟩ := hw.obj j _ ho
    have hlt := (hw.own j b hS).2.2.1
    have hkeys : es.toList.map (·.key) = (m.map (·.1)).map eK := by
      have := congrArg (List.map Prod.fst) hh
      simpa [List.map_map, Function.comp_def] using this
    have hf := hk.find w k es.toList _ hkeys
    cases hfd : fnd k (m.map (·.1)) es.toList 0 with
    | none =>
      rw [hfd] at hf
      refine ⟨b, .map (es.push { key := eK k, val := eV v, born := clock }) (clock + 1), hS, ?_, hS, _, _, zgj w b _ hlt, ?_⟩
      · simp only [execOp, h1, h2, h3, Instr.mapUpdate, Sem.run_bind, run_underlying ht, Result.andThen_ok, MapKept.run_getObj_map hc, hk.check, hf, MapKept.run_setObj_map _ hc]
        rfl
      · rw [zlg (zjz hh hfd)]
        simp [hh]
    | some p =>
      obtain ⟨j', u⟩ := p
      rw [hfd] at hf
      obtain ⟨_, _, ⟨k', hk', e, he, hke⟩, h4⟩ := zkr hh hfd
      rw [Nat.sub_zero] at he h4
      have he' : es[j']? = some e := by simpa using he
      refine ⟨b, .map (es.modify j' fun e => { e with key := eK k, val := eV v }) clock, hS, ?_, hS, _, _, zgj w b _ hlt, ?_⟩
      · simp only [execOp, h1, h2, h3, Instr.mapUpdate, Sem.run_bind, run_underlying ht, Result.andThen_ok, MapKept.run_getObj_map hc, hk.check, hf, he', Option.map_some, Option.getD_some, hke, hk.stays w k k' hk', MapKept.run_setObj_map _ hc]
        rfl
      · rw [Array.toList_modify]; exact h4 v) kk
end map
end Px
end
section
namespace Px
open Go Go.RowKit
set_option linter.unusedVariables false
set_option linter.unusedSimpArgs false
set_option linter.unusedSectionVars false
/-- A list of values that holds nil slices holds empty slices. -/
def Ents : List VP → List VP → Prop
  | [], [] => True
  | A :: As, B :: Bs => Ent A B ∧ Ents As Bs
  | _, _ => False
theorem Ents.ok : ∀ {As Bs : List VP}, Ents As Bs → As.length = Bs.length ∧ ∀ (j : Nat) (B : VP), Bs[j]? = some B → ∃ A, As[j]? = some A ∧ Ent A B
  | [], [], _ => ⟨rfl, fun j B h => by simp at h⟩
  | A :: As, B :: Bs, ⟨h, hr⟩ => by
    obtain ⟨h1, h2⟩ := Ents.ok hr
    refine ⟨by simp [h1], fun j D hj => ?_⟩
    cases j with
    | zero => simp at hj; subst hj; exact ⟨A, rfl, h⟩
    | succ j => simpa using h2 j D (by simpa using hj)
  | [], _ :: _, h => h.elim
  | _ :: _, [], h => h.elim
theorem Ent.nil {α : Type} {e : α → List VP} {sz : Nat} : Ent (eqv (.slice none 0 0)) (ro e sz []) := fun r w v h => .inl ⟨⟨none, 0, h⟩, rfl⟩
theorem Ent.agg {cs ds : List VP} (h : Ents cs ds) : Ent (agg cs) (agg ds) := by
  rintro r w v ⟨vs, rfl, hh⟩
  obtain ⟨h1, h2⟩ := h.ok
  refine ⟨vs, rfl, by rw [← h1]; exact hh.1, fun j B hj => ?_⟩
  obtain ⟨A, hA, hAB⟩ := h2 j B hj
  obtain ⟨u, hu, hA', ho⟩ := hh.2 j A hA
  exact ⟨u, hu, hAB _ _ _ hA', ho⟩
theorem EntH.box {b : Nat} {T : TypeId} {cs ds : List VP} (h : Ents cs ds) : EntH (box b T cs) (box b T ds) := by
  rintro S r w ⟨hS, cur, hc, hh⟩
  obtain ⟨h1, h2⟩ := h.ok
  refine ⟨hS, cur, hc, by rw [← h1]; exact hh.1, fun j B hj => ?_⟩
  obtain ⟨A, hA, hAB⟩ := h2 j B hj
  obtain ⟨u, hu, hA', ho⟩ := hh.2 j A hA
  exact ⟨u, hu, hAB _ _ _ hA', ho⟩
section ops
variable {P : Program} {C : Cx P} {s : St} {dst : Option Tmp} {ty : TypeId} {pos : String} {after : Array Edge} {guard : Option (Nat × Bool)} {K : VP → List HP → Prop}
theorem zo7 {t : TypeId} (h : isSl P t = true) : ∃ e, P.underlying t = some (.slice e) := by
  unfold isSl at h
  split at h
  · rename_i e hu; exact ⟨e, hu⟩
  · cases h
theorem zno {t : TypeId} {x : Operand} (ht : isSl P t = true) (h : Ev s x (eqv (.slice none 0 0))) :
    OpQ C ⟨dst, .call { callee := .builtin .cap, args := #[x], argTypes := #[t] }, ty, pos, after, guard⟩ s (iv .i64 0) :=
  .val fun a r w hs => by
    have h3 := h a r w hs
    simp only [eqv] at h3
    obtain ⟨e, hu⟩ := zo7 ht
    exact ⟨_, by simp [execOp, resolve, invoke, builtin, Builtin.cap_, run_underlying hu, goInt, h3], rfl⟩
theorem zr1 {t : TypeId} {x : Operand} (ht : isSl P t = true) (h : Ev s x (eqv (.slice none 0 0))) :
    OpQ C ⟨dst, .call { callee := .builtin .len, args := #[x], argTypes := #[t] }, ty, pos, after, guard⟩ s (iv .i64 0) :=
  .val fun a r w hs => by
    have h3 := h a r w hs
    simp only [eqv] at h3
    exact ⟨_, zds (by rw [h3]; exact zdd w ht), rfl⟩
theorem zo0 {t : TypeId} {x h : Operand} {E : TypeId} {sz by' : Nat} {k : IntKind} (ht : tsl P t = some (E, sz, by')) (hx : Ev s x (eqv (.slice none 0 0))) (hh : Ev s h (iv k 0)) :
    OpQ C ⟨dst, .slice t x none (some h) none, ty, pos, after, guard⟩ s (eqv (.slice none 0 0)) :=
  .val fun a r w hs => by
    have h1 := hx a r w hs
    have h2 := hh a r w hs
    simp only [eqv, iv] at h1 h2
    obtain ⟨i, z, hu, hi, hz, rfl, rfl, hzs, hpos⟩ := zc6 ht
    have hu' : P.underlying t = some (.slice (P.elem t)) := by simp [Program.elem, hu]
    have he : P.elem t = E := by simp [Program.elem, hu]
    exact ⟨_, by
      simp only [execOp, Option.map_some, Option.map_none, h1, h2, Sem.run_bind, run_sliceAt_slice w t _ _ _ _ hu', run_slice_h w t none 0 0 hu' k 0 (by decide) (by decide)]
      simp [Go.sizeOf, typeInfo, he, hi, sliced], rfl⟩
theorem zty {α : Type} (i : Nat) {t E : TypeId} {e : α → List VP} {sz by' : Nat} {l : List α} {sv : Value} {x h : Operand} {k : IntKind} {n : Int} (ht : tsl P t = some (E, sz, by')) (he : ∀ x, (e x).length = sz)
    (hx : Ev s x (eqv sv)) (ho : s.objs[i]? = some (row E e sz l sv)) (hh : Ev s h (iv k n)) (h0 : 0 ≤ n) (h1 : n ≤ (l.length : Int))
    (kk : ∀ v', K (eqv v') (s.objs.set i (row E e sz (l.take n.toNat) v'))) : OpT C ⟨dst, .slice t x none (some h) none, ty, pos, after, guard⟩ s K := by
  intro a w r S Q hd hn hw hs
  have hx' := hx a r w hs
  have hh' := hh a r w hs
  simp only [eqv, iv] at hx' hh'
  have hi := (List.getElem?_eq_some_iff.1 ho).1
  obtain ⟨inf, z, hu, hinf, hz, rfl, rfl, hzs, hpos⟩ := zc6 ht
  have hu' : P.underlying t = some (.slice (P.elem t)) := by simp [Program.elem, hu]
  have hel : P.elem t = E := by simp [Program.elem, hu]
  have hlen : (l.take n.toNat).length = n.toNat := by rw [List.length_take]; omega
  have key : ∃ v', (execOp a.eval ⟨dst, .slice t x none (some h) none, ty, pos, after, guard⟩).run P w = .ok (.value v') w ∧ (row E e inf.size (l.take n.toNat) v').h (S i) r w := by
    rcases hw.obj i _ ho with ⟨rfl, rfl⟩ | ⟨g, cap, cur, rfl, hS, hcur, hl, hm, hsz, hc⟩
    · have hn0 : n = 0 := by simp at h1; omega
      subst hn0
      refine ⟨.slice none 0 0, ?_, .inl ⟨rfl, rfl⟩⟩
      simp only [execOp, Option.map_some, Option.map_none, hx', hh', Sem.run_bind, run_sliceAt_slice w t _ _ _ _ hu', run_slice_h w t none 0 0 hu' k 0 (by decide) (by decide)]
      simp [Go.sizeOf, typeInfo, hel, hinf, sliced]
    · refine ⟨.slice (some ⟨g, 0, none⟩) (l.take n.toNat).length cap, ?_, .inr ⟨g, cap, cur, rfl, hS, hcur, ?_, hm, hsz, ?_⟩⟩
      · simp only [execOp, Option.map_some, Option.map_none, hx', hh', Sem.run_bind, run_sliceAt_slice w t _ _ _ _ hu', run_slice_h w t _ _ cap hu' k n h0 (by omega)]
        simp [Go.sizeOf, typeInfo, hel, hinf, sliced, Addr.add_lit, hlen]
      · omega
      · rw [hlen]
        have e2 : (l.take n.toNat).flatMap e = (l.flatMap e).take (n.toNat * inf.size) := by
          conv => rhs; rw [← List.take_append_drop n.toNat l, List.flatMap_append]
          rw [List.take_left']
          rw [z7q he, hlen]
        have e3 : cur.toList.take (n.toNat * inf.size) = (cur.toList.take (l.length * inf.size)).take (n.toNat * inf.size) := by
          rw [List.take_take, Nat.min_eq_left (Nat.mul_le_mul_right _ (by omega))]
        rw [e2, e3]
        refine ⟨by rw [List.length_take, List.length_take, hc.1], fun j A hj => ?_⟩
        rw [List.getElem?_take] at hj
        split at hj
        · rename_i hlt
          obtain ⟨u, hu2, hA⟩ := hc.2 j A hj
          exact ⟨u, by rw [List.getElem?_take, if_pos hlt]; exact hu2, hA⟩
        · cases hj
  obtain ⟨v', hr, hrow⟩ := key
  unfold Oper.wp
  rw [hr, Oper.upon_value]
  refine ⟨v', r, _, _, _, rfl, hw.evo_repl i (fun _ _ _ => rfl), hw.repl i _ (S i) hi rfl rfl rfl (Nat.le_refl _) (fun _ _ _ => rfl) (fun b hb => ?_) hrow, rfl, kk v'⟩
  obtain ⟨q1, q2, q3, q4⟩ := hw.own i b hb
  exact ⟨q2, q3, q4, fun j hj hSj => hj (hw.apart j i b hSj hb)⟩
theorem zk1 {zs : Array Value} {n j : Nat} (hj : j < n * zs.size) : (Builtin.zeroCells zs n).toList[j]? = some (zs[j % zs.size]!) := by
  simp [Builtin.zeroCells, hj]
/-- append(nil, make([]T, n)...). -/
theorem zqe {α : Type} (i : Nat) {t tn E : TypeId} {e : α → List VP} {sz by' : Nat} {x y : Operand} {kn k : IntKind} {n : Int} (z : α) (zs : List Value) (ht : tsl P t = some (E, sz, by')) (htn : P.underlying tn = some (.int kn)) (he : ∀ x, (e x).length = sz)
    (hz : z8z P E = some zs) (hz1 : zs.all (·.oneCell') = true) (hze : e z = zs.map eqv) (hx : Ev s x (eqv (.slice none 0 0))) (ho : s.objs[i]? = some (row E e sz ([] : List α) (.slice none 0 0))) (hy : Ev s y (iv k n))
    (h0 : 0 < n) (hby : n.toNat * by' ≤ 140737488355328) (hmax : n.toNat ≤ maxLen)
    (kk : ∀ v', K (eqv v') (s.objs.set i (row E e sz (List.replicate n.toNat z) v'))) : OpT C ⟨dst, .call { callee := .builtin .append, args := #[x, y], argTypes := #[t, tn] }, ty, pos, after, guard⟩ s K := by
  intro a w r S Q hd hn hw hs
  have hx' := hx a r w hs
  have hy' := hy a r w hs
  simp only [eqv, iv] at hx' hy'
  have hi := (List.getElem?_eq_some_iff.1 ho).1
  obtain ⟨inf, zv, hu, hinf, hzv, rfl, rfl, hzs, hpos⟩ := zc6 ht
  have hzv' : zv.cells.toList = zs := by
    unfold z8z at hz
    simp [hinf, hzv] at hz
    exact hz
  obtain ⟨m, rfl⟩ : ∃ m : Nat, n = m := ⟨n.toNat, by omega⟩
  simp only [Int.toNat_natCast] at hby hmax kk
  have hr := Lib.run_append_nil_zeros w t tn ty E inf zv k kn hu htn hinf hzv m (by omega) hpos (by simp [maxLen] at hmax; omega) (by omega)
  have hge := grownCap_ge w m 0 E
  have hcm := grownCap_le_maxLen w m 0 E hmax
  have hblk : ∀ b, b < w.heap.size → ¬ S i b → (w.drew.alloc (.cells (Builtin.zeroCells zv.cells m ++ Builtin.zeroCells zv.cells (grownCap w m 0 E - m)) E)).heap[b]? = w.heap[b]? := fun b hb _ => Below.heap_alloc w.drew _ b hb
  unfold Oper.wp
  rw [show (execOp a.eval ⟨dst, .call { callee := .builtin .append, args := #[x, y], argTypes := #[t, tn] }, ty, pos, after, guard⟩).run P w = .ok (.value _) _ from by
    simp [execOp, resolve, invoke, builtin, hx', hy', hr]; exact ⟨rfl, rfl⟩, Oper.upon_value]
  refine ⟨_, r, _, _, _, rfl, hw.evo_repl i hblk, hw.repl i (row E e inf.size (List.replicate m z) _) (fun b => b = w.heap.size) hi rfl rfl rfl (by simp) hblk (fun b hb => ?_) ?_, rfl, kk _⟩
  · subst hb
    exact ⟨hw.size, by simp, fun hb' => Nat.lt_irrefl _ (hw.old _ hb'), fun j hj hSj => Nat.lt_irrefl _ (hw.own j _ hSj).2.2.1⟩
  · refine .inr ⟨w.heap.size, grownCap w m 0 E, _, by simp, rfl, heap_alloc_new w.drew _, by simpa using hge, hcm, ?_, ?_⟩
    · simp only [Array.size_append, size_zeroCells, hzs, ← Nat.add_mul]
      congr 1
      omega
    · have hfl := z7q he (List.replicate m z)
      rw [List.length_replicate] at hfl ⊢
      have hzl : (Builtin.zeroCells zv.cells m).toList.length = m * inf.size := by simp [size_zeroCells, hzs]
      have e1 : (Builtin.zeroCells zv.cells m ++ Builtin.zeroCells zv.cells (grownCap w m 0 E - m)).toList.take (m * inf.size) = (Builtin.zeroCells zv.cells m).toList := by
        rw [Array.toList_append]
        exact List.take_left' hzl
      rw [e1]
      refine ⟨by rw [hfl, hzl], fun j A hj => ?_⟩
      have hlt : j < m * inf.size := by
        have := (List.getElem?_eq_some_iff.1 hj).1
        rwa [hfl] at this
      obtain ⟨y, hy2, hA⟩ := zdl he hpos _ j A hj
      rw [List.getElem?_replicate] at hy2
      split at hy2
      · simp at hy2
        subst hy2
        rw [hze, List.getElem?_map, Option.map_eq_some_iff] at hA
        obtain ⟨u, hu', rfl⟩ := hA
        refine ⟨u, ?_, rfl, by simpa using List.all_eq_true.1 hz1 u (List.mem_of_getElem? hu')⟩
        rw [zk1 (by rw [hzs]; exact hlt), hzs]
        have hml : j % inf.size < zv.cells.size := by rw [hzs]; exact Nat.mod_lt _ hpos
        rw [← hzv'] at hu'
        simp [hml] at hu' ⊢
        exact hu'
      · cases hy2
end ops
section freeze
variable {P : Program} {C : Cx P} {s : St} {Q : Exit → Act → World → Prop} {ops : Array Oper} {tab : Tab} {D : List Nat} {QR : List (Nat × VP)}
theorem zlh {a : Act} {w : World} {α : Type} {E : TypeId} {en : α → List VP} {sz : Nat} {l : List α} {sv : Value} (i : Nat) (ho : s.objs[i]? = some (row E en sz l sv)) (he : ∀ x, (en x).length = sz)
    (L : List (Nat × VP)) (O : List HP) (hL : zcv sv (ro en sz l) s.slots L) (hO : ze2 sv (ro en sz l) (s.objs.set i emp) O) {r : Nat → Prop} {S : Nat → Nat → Prop} (hw : WInv C.w0 C.base s.objs r S w) (hev : Evo C.base C.r0 C.wI r w) (hs : z2h s.slots a r w) :
    ∃ (r' : Nat → Prop) (S' : Nat → Nat → Prop), (∀ b, r b → r' b) ∧ WInv C.w0 C.base O r' S' w ∧ Evo C.base C.r0 C.wI r' w ∧ z2h (ovr s.slots L) a r' w := by
  have hi : i < s.objs.length := (List.getElem?_eq_some_iff.1 ho).1
  let r' : Nat → Prop := fun b => r b ∨ S i b
  have hrr : ∀ b, r b → r' b := fun b hb => .inl hb
  have hx : (ro en sz l).h r' w sv := by
    rcases hw.obj i _ ho with ⟨rfl, rfl⟩ | ⟨g, cap, cur, rfl, hS, hcur, hl, hm, hsz, hh⟩
    · exact .inl ⟨⟨none, 0, rfl⟩, rfl⟩
    · refine .inr ⟨g, 0, cap, rfl, fun k x hk => ⟨.inr hS, fun j A hj => ?_⟩⟩
      obtain ⟨u, hu, hA, h1⟩ := hh.2 _ A (z9a he l k x hk j A hj)
      refine ⟨u, ?_, A.mono hrr (fun _ _ => rfl) hA, h1⟩
      rw [Nat.zero_add, cell_of_row w g _ cur E (0, 0) hcur]
      rw [List.getElem?_take] at hu
      split at hu
      · simpa using hu
      · cases hu
  have hs' : z2h s.slots a r' w := fun t A ht => A.mono hrr (fun _ _ => rfl) (hs t A ht)
  have hlen := hO.at.1
  rw [List.length_set] at hlen
  refine ⟨r', fun j b => j ≠ i ∧ S j b, hrr, ⟨hw.below, hw.size, ?_, ?_, ?_, ?_⟩, ?_, hL.ok hx hs' hs'⟩
  · intro j B hj
    obtain ⟨A, hA, hf⟩ := hO.at.2 j B hj
    refine hf _ _ _ hx ?_
    rw [List.getElem?_set] at hA
    split at hA
    · rename_i e; subst e
      simp only [hi, if_true, Option.some.injEq] at hA; subst hA; trivial
    · rename_i e
      have : (fun b => j ≠ i ∧ S j b) = S j := by
        funext b; exact propext ⟨fun h => h.2, fun h => ⟨fun h => e h.symm, h⟩⟩
      rw [this]
      exact A.mono hrr (fun _ _ => rfl) (fun _ _ => rfl) (hw.obj j A hA)
  · rintro j b ⟨hne, hb⟩
    obtain ⟨h1, h2, h3, h4⟩ := hw.own j b hb
    refine ⟨hlen ▸ h1, h2, h3, ?_⟩
    rintro (q | q)
    · exact h4 q
    · exact hne (hw.apart j i b hb q)
  · rintro j k b ⟨_, hb⟩ ⟨_, hb'⟩
    exact hw.apart j k b hb hb'
  · rintro b (q | q)
    · exact hw.old b q
    · exact (hw.own i b q).2.2.1
  · refine ⟨fun b hb => .inl (hev.1 b hb), hev.2.1, ?_⟩
    rintro b (q | q)
    · exact hev.2.2 b q
    · exact .inr (hw.own i b q).2.1
theorem Reg.freeze {α : Type} {E : TypeId} {en : α → List VP} {sz : Nat} {xs : List α} {sv : Value} (i : Nat) (L : List (Nat × VP)) (O : List HP) (ho : s.objs[i]? = some (row E en sz xs sv)) (he : ∀ x, (en x).length = sz)
    (hL : zcv sv (ro en sz xs) s.slots L) (hO : ze2 sv (ro en sz xs) (s.objs.set i emp) O) (h : Reg C ops tab Q D ⟨ovr s.slots L, O⟩ QR) : Reg C ops tab Q D s QR := by
  intro fuel listed a w E r S hN hd hn hw hev hs hf
  obtain ⟨r', S', hrr, hw', hev', hs'⟩ := zlh i ho he L O hL hO hw hev hs
  exact h fuel listed a w E r' S' hN hd hn hw' hev' hs' fun q x t h1 h2 h3 => x.mono hrr (fun _ _ => rfl) (hf q x t h1 h2 h3)
end freeze
end Px
end
section
namespace Px
open Go Go.RowKit
set_option linter.unusedVariables false
theorem nf {p : Prop} : true = false → p := fun h => nomatch h
theorem ft {p : Prop} : false = true → p := fun h => nomatch h
def zmt (s : zd) : List Nat → Bool
  | [] => true
  | t :: l => (s t).isNone && zmt s l
theorem an {s : zd} : ∀ {l : List Nat}, zmt s l = true → zee s l
  | [], _ => trivial
  | t :: l, h => by
    simp only [zmt, Bool.and_eq_true, Option.isNone_iff_eq_none] at h
    exact ⟨h.1, an h.2⟩
theorem qr {α : Type} {x : Option α} {G : α → Prop} {p : Prop} {o : α} (h1 : x = some o) (h : G o) : p → ∃ o, x = some o ∧ G o := fun _ => ⟨o, h1, h⟩
section
variable {P : Program} {C : Cx P} {ops : Array Oper} {i : Nat} {rest : List Nat} {s : St} {Q : Exit → Act → World → Prop} {o : Oper}
/-- A cell of a variable of the call's own. -/
theorem lb {dst : Option Tmp} {ty : TypeId} {pos : String} {after : Array Edge} {guard : Option (Nat × Bool)} {t : TypeId} {x : Operand} {n : Nat} {A : VP} {b off : Nat} {T : TypeId} {cells : List VP}
    (ht : z4i P t = some (false, n)) (i : Nat) (h : Ev s x (eqv (.pointer (some ⟨b, off, none⟩)))) (ho : s.objs[i]? = some (box b T cells)) (hc : cells[off]? = some A) : OpQ C ⟨dst, .load t x, ty, pos, after, guard⟩ s A := by
  refine z2g (cs := cells.drop (off + 1)) ht (Pt.box i h ho ?_)
  have hl := (List.getElem?_eq_some_iff.1 hc)
  obtain ⟨h1, h2⟩ := hl
  rw [← h2, List.getElem_cons_drop]
/-- The same, read only. -/
theorem lr {dst : Option Tmp} {ty : TypeId} {pos : String} {after : Array Edge} {guard : Option (Nat × Bool)} {t : TypeId} {x : Operand} {n : Nat} {A : VP} {cs : List VP}
    (ht : z4i P t = some (false, n)) (h : Ev s x (rop (A :: cs))) : OpQ C ⟨dst, .load t x, ty, pos, after, guard⟩ s A := z2g ht (Pt.rop h)
abbrev ef {As : VP} {x : Operand} (h : Ev s x As) : EvF C s x As := EvF.of h FEnt.refl
/-- A list of cells with others laid over it from a place on, in plain form. -/
def splN : List VP → Nat → List VP → Option (List VP)
  | l, _, [] => some l
  | [], _, _ :: _ => none
  | _ :: l, 0, a :: as => match splN l 0 as with | some r => some (a :: r) | none => none
  | c :: l, n + 1, a :: as => match splN l n (a :: as) with | some r => some (c :: r) | none => none
theorem zlz : ∀ {l : List VP} {n : Nat} {as out : List VP}, splN l n as = some out → as = [] ∧ out = l ∨ n + as.length ≤ l.length ∧ l.take n ++ as ++ l.drop (n + as.length) = out
  | l, n, [], out, h => by
    simp only [splN, Option.some.injEq] at h; exact .inl ⟨rfl, h.symm⟩
  | [], n, a :: as, out, h => by simp [splN] at h
  | c :: l, 0, a :: as, out, h => by
    simp only [splN] at h
    split at h
    · rename_i r hr
      simp only [Option.some.injEq] at h; subst h
      right
      rcases zlz hr with ⟨rfl, rfl⟩ | ⟨h1, h2⟩
      · simp
      · simp at h1 h2 ⊢; exact ⟨by omega, h2⟩
    · cases h
  | c :: l, n + 1, a :: as, out, h => by
    simp only [splN] at h
    split at h
    · rename_i r hr
      simp only [Option.some.injEq] at h; subst h
      right
      rcases zlz hr with ⟨h0, _⟩ | ⟨h1, h2⟩
      · cases h0
      · simp only [List.length_cons] at h1 h2 ⊢
        refine ⟨by omega, ?_⟩
        have e : n + 1 + (as.length + 1) = (n + (as.length + 1)) + 1 := by omega
        rw [e, List.take_succ_cons, List.drop_succ_cons, ← h2]; rfl
    · cases h
/-- A store into a variable of the call's own. -/
theorem sto (i : Nat) {ty : TypeId} {pos : String} {after : Array Edge} {guard : Option (Nat × Bool)} {t T : TypeId} {g : Bool} {n b off : Nat} {x y : Operand} {cells cs out : List VP} {K : VP → List HP → Prop}
    (ht : z4i P t = some (g, n)) (hx : Ev s x (eqv (.pointer (some ⟨b, off, none⟩)))) (hy : Ce s y cs) (ho : s.objs[i]? = some (box b T cells)) (hl : cs.length = n)
    (hn : Nat.ble 1 n = true) (hout : splN cells off cs = some out) (k : K topv (s.objs.set i (box b T out))) : OpT C ⟨none, .store t x y, ty, pos, after, guard⟩ s K := by
  have hn' : 1 ≤ n := Nat.le_of_ble_eq_true hn
  rcases zlz hout with ⟨rfl, _⟩ | ⟨h1, h2⟩
  · simp at hl; omega
  · exact zck i ht hx hy ho hl (by omega) (by rw [← hl]; exact h2) k
/-- The operation i of a region, if it has no guard and yields into the frame. -/
def sel1 (C : Cx P) (ops : Array Oper) (i : Nat) : Option Oper := match ops[i]? with
  | some o => match o.guard with
    | none => bif z7a C o then some o else none
    | some _ => none
  | none => none
theorem zg2 {C : Cx P} (h : sel1 C ops i = some o) : ops[i]? = some o ∧ o.guard = none ∧ z7a C o = true := by
  unfold sel1 at h
  split at h
  · rename_i p hp
    split at h
    · rename_i hg
      cases hr : z7a C p with
      | false => rw [hr] at h; cases h
      | true => rw [hr] at h; cases h; exact ⟨hp, hg, hr⟩
    · cases h
  · cases h
/-- The same for one with a guard: what it waits for, and the slot of that. -/
def sel2 (C : Cx P) (ops : Array Oper) (i : Nat) : Option (Oper × Bool × Nat) := match ops[i]? with
  | some o => match o.guard with
    | some g => match (ops[g.1]?).bind (·.dst) with
      | some t => bif z7a C o then some (o, g.2, t) else none
      | none => none
    | none => none
  | none => none
theorem zfk {C : Cx P} {want : Bool} {t : Nat} (h : sel2 C ops i = some (o, want, t)) : ops[i]? = some o ∧ (∃ j, o.guard = some (j, want) ∧ (ops[j]?).bind (·.dst) = some t) ∧ z7a C o = true := by
  unfold sel2 at h
  split at h
  · rename_i p hp
    split at h
    · rename_i g hg
      split at h
      · rename_i t' ht
        cases hr : z7a C p with
        | false => rw [hr] at h; cases h
        | true => rw [hr] at h; cases h; exact ⟨hp, ⟨g.1, hg, ht⟩, hr⟩
      · cases h
    · cases h
  · cases h
theorem q1 {x : VP} (hs : sel1 C ops i = some o) (hq : OpQ C o s x) (h : ze C ops rest ⟨s.slots.set o.dst x, s.objs⟩ Q) : ze C ops (i :: rest) s Q :=
  ze.cons_q x (zg2 hs).1 (zg2 hs).2.1 (zg2 hs).2.2 hq h
theorem n1 (hs : sel1 C ops i = some o) (h : OpT C o s fun x objs => ze C ops rest ⟨s.slots.set o.dst x, objs⟩ Q) : ze C ops (i :: rest) s Q :=
  ze.cons (zg2 hs).1 (zg2 hs).2.1 (zg2 hs).2.2 h
theorem g1 {x : VP} {g want : Bool} {t : Nat} (hs : sel2 C ops i = some (o, want, t)) (ht : s.slots t = some (bv g)) (hq : g = want → OpQ C o s x)
    (h : ze C ops rest ⟨s.slots.set o.dst (cnd (g = want) x), s.objs⟩ Q) : ze C ops (i :: rest) s Q :=
  let ⟨_, h1, h2⟩ := (zfk hs).2.1
  ze.cons_g x g (zfk hs).1 h1 (zfk hs).2.2 h2 ht hq h
theorem zq8 {C : Cx P} {x : VP} {want : Bool} {t : Nat} {p : Prop} (hs : sel2 C ops i = some (o, want, t))
    (hy : ∀ j a ro w, (ops[j]?).bind (·.dst) = some t → z2h s.slots a ro w → (p → yielded ops a.tmps j = some want) ∧ (¬ p → yielded ops a.tmps j ≠ some want)) (hq : p → OpQ C o s x)
    (h : ze C ops rest ⟨s.slots.set o.dst (cnd p x), s.objs⟩ Q) : ze C ops (i :: rest) s Q :=
  let ⟨j, h1, h2⟩ := (zfk hs).2.1
  ze.cons_g' x p (zfk hs).1 h1 (zfk hs).2.2 (fun a ro w hsl => hy j a ro w h2 hsl) hq h
theorem gc {x : VP} {c : Prop} {g want : Bool} {t : Nat} (hs : sel2 C ops i = some (o, want, t)) (ht : s.slots t = some (cnd c (bv g))) (hq : c ∧ g = want → OpQ C o s x)
    (h : ze C ops rest ⟨s.slots.set o.dst (cnd (c ∧ g = want) x), s.objs⟩ Q) : ze C ops (i :: rest) s Q :=
  zq8 hs (fun _ _ _ _ h2 hsl => zmi h2 ht hsl) hq h
theorem ln {ty : TypeId} {pos : String} {after : Array Edge} {guard : Option (Nat × Bool)} {dst : Option Tmp} {t : TypeId} {x : Operand} {n : Nat} {cs : List VP} (ht : z4i P t = some (true, n)) (h : Pt C s x cs) (hl : cs.length = n) :
    OpQ C ⟨dst, .load t x, ty, pos, after, guard⟩ s (agg cs) := z8f (by rw [hl]; exact ht) h
theorem ct {v : Value} : Ev s (.const v) (eqv v) := Ev.const v
theorem mc {t : Nat} {c : Prop} {A : VP} (h : s.slots t = some (cnd c A)) (hc : c) : Ev s (.tmp t) A := Ev.cnd (Ev.tmp h) hc
/-- A branch, with what the text says of it. -/
theorem cI {x y : Code} {ρ : Type} {g : Bool} {A B : Option ρ} {r : ρ} {t : Nat} (h : (if g = true then A else B) = some r) (hs : s.slots t = some (bv g)) (ht : g = true → A = some r → z2 C x s Q) (hf : g = false → B = some r → z2 C y s Q) :
    z2 C (.cond (.tmp t) x y) s Q := z2.cond g (zwy (Ev.tmp hs)) (fun e => ht e (by rw [if_pos e] at h; exact h)) (fun e => hf e (by rw [if_neg (zr8 e)] at h; exact h))
section calls
variable {ty : TypeId} {pos : String} {after : Array Edge} {guard : Option (Nat × Bool)} {dst : Option Tmp}
theorem oQ {f : FuncId} {as : Array Operand} {ts : Array TypeId} {args : List VP} {x : VP} (hf : FnOK P f) (h : z0z P f args fun y news => y = x ∧ news = []) (hx : x.flat) (ha : zle C s as.toList args) :
    OpQ C ⟨dst, .call { callee := .value (.func f), args := as, argTypes := ts }, ty, pos, after, guard⟩ s x := zqk hf ha h hx
theorem oF {f : FuncId} {as : Array Operand} {ts : Array TypeId} {args : List VP} {K : VP → List HP → Prop} {K' : VP → List HP → Prop} (hf : FnOK P f) (h : z0z P f args K') (ha : zle C s as.toList args)
    (k : ∀ x news, K' x news → x.flat ∧ (∀ H ∈ news, H.flat) ∧ K x (s.objs ++ news)) : OpT C ⟨dst, .call { callee := .value (.func f), args := as, argTypes := ts }, ty, pos, after, guard⟩ s K := zml hf ha h k
theorem oP {f : FuncId} {as : Array Operand} {ts : Array TypeId} {args : List VP} {K : VP → List HP → Prop} {K' : VP → List HP → Prop} (hf : FnOK P f) (h : z0z P f args K') (ha : Args s as.toList args)
    (k : ∀ x news, K' x news → K x (s.objs ++ news)) : OpT C ⟨dst, .call { callee := .value (.func f), args := as, argTypes := ts }, ty, pos, after, guard⟩ s K := zt1 hf ha h k
end calls
end
end Px
end
section
namespace Px
open Go Go.RowKit
set_option linter.unusedVariables false
variable {P : Program} {C : Cx P} {tab : Tab} {s : St} {o : Oper} {t j : Nat} {want : Bool} {x0 : VP}
theorem gqa {g : Bool} (hg : o.guard = some (j, want)) (ht : tab.dst j = some t) (hs : s.slots t = some (bv g)) (h : g = want → OpQ C o s x0) : GQ C tab o s (cnd (g = want) x0) := by
  unfold GQ
  rw [hg]
  exact ⟨_, _, t, ht, rfl, h, .inl ⟨g, hs, rfl⟩⟩
theorem gqb {c : Prop} {g : Bool} (hg : o.guard = some (j, want)) (ht : tab.dst j = some t) (hs : s.slots t = some (cnd c (bv g))) (h : c ∧ g = want → OpQ C o s x0) : GQ C tab o s (cnd (c ∧ g = want) x0) := by
  unfold GQ
  rw [hg]
  exact ⟨_, _, t, ht, rfl, h, .inr ⟨c, g, hs, rfl⟩⟩
/-- A cell of a slice of the call's own. -/
theorem lw {dst : Option Tmp} {ty : TypeId} {pos : String} {after : Array Edge} {guard : Option (Nat × Bool)} {t : TypeId} {x : Operand} {n : Nat} {A : VP} {α : Type} {E : TypeId} {e : α → List VP} {sz : Nat} {l : List α} {sv : Value} {off k fo : Nat} {y : α}
    (ht : z4i P t = some (false, n)) (i : Nat) (he : ∀ x, (e x).length = sz) (h : Ev s x (rowp sv off)) (ho : s.objs[i]? = some (row E e sz l sv)) (hy : l[k]? = some y) (hoff : off = k * sz + fo) (hc : (e y)[fo]? = some A) : OpQ C ⟨dst, .load t x, ty, pos, after, guard⟩ s A := by
  refine z2g (cs := (e y).drop (fo + 1)) ht (Pt.row C i he h ho hoff hy ?_)
  obtain ⟨h1, h2⟩ := List.getElem?_eq_some_iff.1 hc
  rw [← h2, List.getElem_cons_drop]
theorem lw0 {dst : Option Tmp} {ty : TypeId} {pos : String} {after : Array Edge} {guard : Option (Nat × Bool)} {t : TypeId} {x : Operand} {n : Nat} {A : VP} {α : Type} {E : TypeId} {e : α → List VP} {sz : Nat} {l : List α} {sv : Value} {off k : Nat} {y : α}
    (ht : z4i P t = some (false, n)) (i : Nat) (he : ∀ x, (e x).length = sz) (h : Ev s x (rowp sv off)) (ho : s.objs[i]? = some (row E e sz l sv)) (hy : l[k]? = some y) (hoff : off = k * sz) (hc : (e y)[0]? = some A) : OpQ C ⟨dst, .load t x, ty, pos, after, guard⟩ s A :=
  lw ht i he h ho hy (fo := 0) hoff hc
end Px
end
section
set_option linter.unusedVariables false
set_option linter.unusedSimpArgs false
set_option maxHeartbeats 4000000
set_option maxRecDepth 100000
namespace Px
open Go Go.RowKit
def ze1 : ByteArray := ⟨#[0, 1, 2, 2, 3, 3, 3, 3, 4, 4, 4, 4, 4, 4, 4, 4, 5, 5, 5, 5, 5, 5, 5, 5, 5, 5, 5, 5, 5, 5, 5, 5, 6, 6, 6, 6, 6, 6, 6, 6, 6, 6, 6, 6, 6, 6, 6, 6, 6, 6, 6, 6, 6, 6, 6, 6, 6, 6, 6, 6, 6, 6, 6, 6, 7, 7, 7, 7, 7, 7, 7, 7, 7, 7, 7, 7, 7, 7, 7, 7, 7, 7, 7, 7, 7, 7, 7, 7, 7, 7, 7, 7, 7, 7, 7, 7, 7, 7, 7, 7, 7, 7, 7, 7, 7, 7, 7, 7, 7, 7, 7, 7, 7, 7, 7, 7, 7, 7, 7, 7, 7, 7, 7, 7, 7, 7, 7, 7, 8, 8, 8, 8, 8, 8, 8, 8, 8, 8, 8, 8, 8, 8, 8, 8, 8, 8, 8, 8, 8, 8, 8, 8, 8, 8, 8, 8, 8, 8, 8, 8, 8, 8, 8, 8, 8, 8, 8, 8, 8, 8, 8, 8, 8, 8, 8, 8, 8, 8, 8, 8, 8, 8, 8, 8, 8, 8, 8, 8, 8, 8, 8, 8, 8, 8, 8, 8, 8, 8, 8, 8, 8, 8, 8, 8, 8, 8, 8, 8, 8, 8, 8, 8, 8, 8, 8, 8, 8, 8, 8, 8, 8, 8, 8, 8, 8, 8, 8, 8, 8, 8, 8, 8, 8, 8, 8, 8, 8, 8, 8, 8, 8, 8, 8, 8, 8, 8, 8, 8, 8, 8, 8, 8, 8, 8, 8, 8]⟩
def zhc : ByteArray := ⟨#[]⟩
structure z8g where
  fKind : Int
  fRailway : Int
  fOther : Int
instance : Inhabited z8g := ⟨⟨default, default, default⟩⟩
def z4m (x : z8g) : List VP := [(iv .i64 x.fKind), (iv .i64 x.fRailway), (iv .i64 x.fOther)]
theorem zsu (x : z8g) : (z4m x).length = 3 := rfl

structure Edge where
  fA : Int
  fB : Int
  fRailway : Int
  fMinutes : Int
  fKm : Int
instance : Inhabited Edge := ⟨⟨default, default, default, default, default⟩⟩
def zbr (x : Edge) : List VP := [(iv .i64 x.fA), (iv .i64 x.fB), (iv .i64 x.fRailway), (iv .i64 x.fMinutes), (iv .i64 x.fKm)]
structure z7s where
  fPlaces : (List z8g)
  fEdges : (List Edge)
instance : Inhabited z7s := ⟨⟨default, default⟩⟩
def zam (x : z7s) : List VP := [(ro z4m 3 x.fPlaces), (ro zbr 5 x.fEdges)]
structure z6c where
  fLoad : Int
  fTare : Int
  fLength : Int
  fGauge : Int
  fBrake : Int
  fClasses : Int
  fLife : Int
  fFloor : Int
instance : Inhabited z6c := ⟨⟨default, default, default, default, default, default, default, default⟩⟩
def z1a (x : z6c) : List VP := [(iv .i64 x.fLoad), (iv .i64 x.fTare), (iv .i64 x.fLength), (iv .i64 x.fGauge), (iv .i64 x.fBrake), (iv .u64 x.fClasses), (iv .i64 x.fLife), (iv .i64 x.fFloor)]
theorem zjt (x : z6c) : (z1a x).length = 8 := rfl

structure zd8 where
  fType : Int
  fOwner : Int
  fHome : Int
  fBuilt : Int
  fWorth : Int
instance : Inhabited zd8 := ⟨⟨default, default, default, default, default⟩⟩
def z6s (x : zd8) : List VP := [(iv .i64 x.fType), (iv .i64 x.fOwner), (iv .i64 x.fHome), (iv .i64 x.fBuilt), (iv .i64 x.fWorth)]
theorem zs7 (x : zd8) : (z6s x).length = 5 := rfl

structure Swap where
  fWanted : Int
  fGiven : Int
  fCost : Int
instance : Inhabited Swap := ⟨⟨default, default, default⟩⟩
def zbs (x : Swap) : List VP := [(iv .i64 x.fWanted), (iv .i64 x.fGiven), (iv .i64 x.fCost)]
structure Wash where
  fFrom : Int
  fTo : Int
  fMinutes : Int
instance : Inhabited Wash := ⟨⟨default, default, default⟩⟩
def z9o (x : Wash) : List VP := [(iv .i64 x.fFrom), (iv .i64 x.fTo), (iv .i64 x.fMinutes)]
structure z8p where
  fTypes : (List z6c)
  fWagons : (List zd8)
  fSwaps : (List Swap)
  fWashes : (List Wash)
instance : Inhabited z8p := ⟨⟨default, default, default, default⟩⟩
def z78 (x : z8p) : List VP := [(ro z1a 8 x.fTypes), (ro z6s 5 x.fWagons), (ro zbs 3 x.fSwaps), (ro z9o 3 x.fWashes)]
structure zev where
  fPlace : Int
  fLow : Int
  fHigh : Int
instance : Inhabited zev := ⟨⟨default, default, default⟩⟩
def z8b (x : zev) : List VP := [(iv .i64 x.fPlace), (iv .i64 x.fLow), (iv .i64 x.fHigh)]
structure zcn where
  fPlace : Int
instance : Inhabited zcn := ⟨⟨default⟩⟩
def z3k (x : zcn) : List VP := [(iv .i64 x.fPlace)]
structure Span where
  fFrom : Int
  fTo : Int
instance : Inhabited Span := ⟨⟨default, default⟩⟩
def zko (x : Span) : List VP := [(iv .i64 x.fFrom), (iv .i64 x.fTo)]
theorem znz (x : Span) : (zko x).length = 2 := rfl

structure z2w where
  fOpen : (Nat → Span)
  fHolidays : (List Int)
instance : Inhabited z2w := ⟨⟨(fun _ => default), default⟩⟩
def z72 (x : z2w) : List VP := ([] ++ arr 7 zko x.fOpen ++ [(ro eI64 1 x.fHolidays)])
structure z2p where
  fKey : Int
  fCalendar : z2w
instance : Inhabited z2p := ⟨⟨default, default⟩⟩
def z1f (x : z2p) : List VP := ([(iv .u64 x.fKey)] ++ arr 7 zko x.fCalendar.fOpen ++ [(ro eI64 1 x.fCalendar.fHolidays)])
theorem zge (x : z2p) : (z1f x).length = 16 := rfl

structure Pool where
  fNetwork : z7s
  fFleet : z8p
  fReaders : (List zev)
  fShippers : (List zcn)
  fRailways : (List z2p)
instance : Inhabited Pool := ⟨⟨default, default, default, default, default⟩⟩
def z2i (x : Pool) : List VP := [(ro z4m 3 x.fNetwork.fPlaces), (ro zbr 5 x.fNetwork.fEdges), (ro z1a 8 x.fFleet.fTypes), (ro z6s 5 x.fFleet.fWagons), (ro zbs 3 x.fFleet.fSwaps), (ro z9o 3 x.fFleet.fWashes), (ro z8b 3 x.fReaders), (ro z3k 1 x.fShippers), (ro z1f 16 x.fRailways)]
structure Ref where
  fRailway : Int
  fNo : Int
instance : Inhabited Ref := ⟨⟨default, default⟩⟩
def eRef (x : Ref) : List VP := [(iv .i64 x.fRailway), (iv .i64 x.fNo)]
theorem lRef (x : Ref) : (eRef x).length = 2 := rfl

structure Part where
  fKind : Int
  fSerial : Int
  fFitted : Bool
instance : Inhabited Part := ⟨⟨default, default, default⟩⟩
def zbg (x : Part) : List VP := [(iv .i64 x.fKind), (iv .i64 x.fSerial), (bv x.fFitted)]
structure Item where
  fKind : Int
  fRef : Ref
  fWagon : Int
  fPlace : Int
  fOther : Int
  fNumber : Int
  fFrom : Int
  fTo : Int
  fCode : Int
  fDest : Int
  fClass : Int
  fWeight : Int
  fAmount : Int
  fText : ByteArray
  fParts : (List Part)
instance : Inhabited Item := ⟨⟨default, default, default, default, default, default, default, default, default, default, default, default, default, ⟨#[]⟩, default⟩⟩
def zcm (x : Item) : List VP := [(iv .i64 x.fKind), (iv .i64 x.fRef.fRailway), (iv .i64 x.fRef.fNo), (iv .i64 x.fWagon), (iv .i64 x.fPlace), (iv .i64 x.fOther), (iv .i64 x.fNumber), (iv .i64 x.fFrom), (iv .i64 x.fTo), (iv .i64 x.fCode), (iv .i64 x.fDest), (iv .i64 x.fClass), (iv .i64 x.fWeight), (iv .i64 x.fAmount), (eqv (.string x.fText)), (ro zbg 3 x.fParts)]
structure zo where
  fRef : Ref
  fBy : Ref
  fTime : Int
  fItem : Item
instance : Inhabited zo := ⟨⟨default, default, default, default⟩⟩
def zm (x : zo) : List VP := [(iv .i64 x.fRef.fRailway), (iv .i64 x.fRef.fNo), (iv .i64 x.fBy.fRailway), (iv .i64 x.fBy.fNo), (iv .i64 x.fTime), (iv .i64 x.fItem.fKind), (iv .i64 x.fItem.fRef.fRailway), (iv .i64 x.fItem.fRef.fNo), (iv .i64 x.fItem.fWagon), (iv .i64 x.fItem.fPlace), (iv .i64 x.fItem.fOther), (iv .i64 x.fItem.fNumber), (iv .i64 x.fItem.fFrom), (iv .i64 x.fItem.fTo), (iv .i64 x.fItem.fCode), (iv .i64 x.fItem.fDest), (iv .i64 x.fItem.fClass), (iv .i64 x.fItem.fWeight), (iv .i64 x.fItem.fAmount), (eqv (.string x.fItem.fText)), (ro zbg 3 x.fItem.fParts)]
theorem zbi (x : zo) : (zm x).length = 21 := rfl

def z5s (x : (Nat → Int)) : List VP := arr 2 eI64 x
theorem zn0 (x : (Nat → Int)) : (z5s x).length = 2 := rfl

structure z4 where
  fWagon : Int
  fPlace : Int
  fFrom : Int
  fTo : Int
  fAt : Int
  fCode : Int
  fDeliver : Ref
  fReceive : Ref
instance : Inhabited z4 := ⟨⟨default, default, default, default, default, default, default, default⟩⟩
def z6 (x : z4) : List VP := [(iv .i64 x.fWagon), (iv .i64 x.fPlace), (iv .i64 x.fFrom), (iv .i64 x.fTo), (iv .i64 x.fAt), (iv .i64 x.fCode), (iv .i64 x.fDeliver.fRailway), (iv .i64 x.fDeliver.fNo), (iv .i64 x.fReceive.fRailway), (iv .i64 x.fReceive.fNo)]
theorem z0o (x : z4) : (z6 x).length = 10 := rfl

structure z05 where
  fRailway : Int
  fSpan : Span
  fRef : Ref
instance : Inhabited z05 := ⟨⟨default, default, default⟩⟩
def z2v (x : z05) : List VP := [(iv .i64 x.fRailway), (iv .i64 x.fSpan.fFrom), (iv .i64 x.fSpan.fTo), (iv .i64 x.fRef.fRailway), (iv .i64 x.fRef.fNo)]
theorem z97 (x : z05) : (z2v x).length = 5 := rfl

def ze7 (x : (List Int)) : List VP := [ro eI64 1 x]
theorem zpu (x : (List Int)) : (ze7 x).length = 1 := rfl

def zdi (x y : Ref) : Bool := (x.fRailway == y.fRailway) && ((x.fNo == y.fNo) && true)
def zha (x y : z4) : Bool := ((x.fWagon == y.fWagon) && ((x.fPlace == y.fPlace) && ((x.fFrom == y.fFrom) && ((x.fTo == y.fTo) && ((x.fAt == y.fAt) && ((x.fCode == y.fCode) && (((x.fDeliver.fRailway == y.fDeliver.fRailway) && ((x.fDeliver.fNo == y.fDeliver.fNo) && true)) && (((x.fReceive.fRailway == y.fReceive.fRailway) && ((x.fReceive.fNo == y.fReceive.fNo) && true)) && true))))))))
def zjg (x y : z05) : Bool := ((x.fRailway == y.fRailway) && (((x.fSpan.fFrom == y.fSpan.fFrom) && ((x.fSpan.fTo == y.fSpan.fTo) && true)) && (((x.fRef.fRailway == y.fRef.fRailway) && ((x.fRef.fNo == y.fRef.fNo) && true)) && true)))
theorem z68 (x : z4) : zbj (z6 x) := ⟨z5, z5, z5, z5, z5, z5, z5, z5, z5, z5, trivial⟩
theorem zs9 (x : (Nat → Int)) : zbj (z5s x) := ⟨z5, z5, trivial⟩
theorem zh6 (x : z05) : zbj (z2v x) := ⟨z5, z5, z5, z5, z5, trivial⟩
theorem fRef (x : Ref) : zbj (eRef x) := ⟨z5, z5, trivial⟩
def zcs (φ : Nat)  : Option (Pool) := (some (Pool.mk (z7s.mk [(z8g.mk 2 0 (-1)), (z8g.mk 2 1 (-1)), (z8g.mk 3 0 1)] ([] : List Edge)) (z8p.mk [(z6c.mk 0 0 0 0 0 0 1 0)] [(zd8.mk 0 0 0 0 0)] ([] : List Swap) ([] : List Wash)) ([] : List zev) ([] : List zcn) [(z2p.mk 4 (z2w.mk (fun _ => (Span.mk 0 0)) ([] : List Int))), (z2p.mk 16 (z2w.mk (fun _ => (Span.mk 0 0)) ([] : List Int)))]))
def z90 (φ : Nat) (v1 : Int) (v2 : Int) (v3 : Int) : Option (zo) := (some (zo.mk (Ref.mk 0 v1) (Ref.mk 0 0) 0 (Item.mk 3 (Ref.mk 0 0) 0 2 1 0 v2 0 v3 0 0 0 0 (⟨#[]⟩) ([] : List Part))))
def z91 (φ : Nat) (v1 : Int) (v2 : Int) (v3 : Int) : Option (zo) := (some (zo.mk (Ref.mk 1 v1) (Ref.mk 0 0) 0 (Item.mk 4 (Ref.mk 0 0) 0 2 0 0 v2 0 v3 0 0 0 0 (⟨#[]⟩) ([] : List Part))))
def z9u (φ : Nat) (v1 : z8g) : Option (Bool) := (if (((decide (v1.fKind < 1) || decide (5 < v1.fKind)) || decide (v1.fRailway < 0)) || decide (16 ≤ v1.fRailway)) = true then (some false) else (if (v1.fKind != 3) = true then (some (v1.fOther == (-1))) else (some ((decide (0 ≤ v1.fOther) && decide (v1.fOther < 16)) && (v1.fOther != v1.fRailway)))))
def z4x (φ : Nat) : Option (Int) := (some 0)
def z4y (φ : Nat) (v1 : z7s) (k10 : (Option (Int))) : Nat → Int → Option (Int)
  | 0, _ => none
  | n12 + 1, v11 => (if (decide (v11 < (v1.fEdges.length : Int))) = true then ck ((0 : Int) ≤ v11 ∧ v11 < (v1.fEdges.length : Int)) ((if ((((((decide ((min2 (min2 (min2 ((gt v1.fEdges v11).fA) ((gt v1.fEdges v11).fB)) ((gt v1.fEdges v11).fRailway)) ((gt v1.fEdges v11).fKm)) < 0) || decide ((v1.fPlaces.length : Int) ≤ (max2 ((gt v1.fEdges v11).fA) ((gt v1.fEdges v11).fB)))) || ((gt v1.fEdges v11).fA == (gt v1.fEdges v11).fB)) || decide (16 ≤ (gt v1.fEdges v11).fRailway)) || decide ((gt v1.fEdges v11).fMinutes < 1)) || decide (100000 < (gt v1.fEdges v11).fMinutes)) || decide (10000 < (gt v1.fEdges v11).fKm)) = true then (some 1) else ((z4y φ v1 k10 n12) (W (v11 + 1))))) else k10)
def z4q (φ : Nat) (v1 : z7s) : Option (Int) := (z4y φ v1 (z4x φ) φ 0)
def z50 (φ : Nat) (v1 : z7s) (k9 : (Option (Int))) : Nat → Int → Option (Int)
  | 0, _ => none
  | n48 + 1, v47 => (if (decide (v47 < (v1.fPlaces.length : Int))) = true then ck ((0 : Int) ≤ v47 ∧ v47 < (v1.fPlaces.length : Int)) ((z9u φ (gt v1.fPlaces v47)).bind fun y52 => ((if (!y52) = true then (some 1) else ((z50 φ v1 k9 n48) (W (v47 + 1)))))) else k9)
def za5 (φ : Nat) (v1 : z7s) : Option (Int) := (if (decide (512 < (v1.fPlaces.length : Int)) || decide (2048 < (v1.fEdges.length : Int))) = true then (some 2) else (z50 φ v1 (z4q φ v1) φ 0))
def z2k (φ : Nat) (v1 : Int) (v2 : Int) (v3 : Int) : Option (Bool) := (some (decide (v2 ≤ v1) && decide (v1 ≤ v3)))
def z3b (φ : Nat) (v27 : Int) : Option (Int) := (some v27)
def z4l (φ : Nat) (v29 : Int) (k32 : (Int → Int → (Nat → Bool) → Option (Int))) (v55 : Int) (v56 : (Nat → Bool)) : Option (Int) := (k32 (W (v29 + 1)) v55 v56)
def z82 (φ : Nat) (v1 : z8p) (v29 : Int) (v31 : (Nat → Bool)) (k57 : (Int → (Nat → Bool) → Option (Int))) (v62 : Int) : Option (Int) := (k57 v62 (upd v31 (((gt v1.fWashes v29).fFrom : Int).toNat * 64 + ((gt v1.fWashes v29).fTo : Int).toNat) true))
def z71 (φ : Nat) (v1 : z8p) (v29 : Int) (v31 : (Nat → Bool)) (k32 : (Int → Int → (Nat → Bool) → Option (Int))) (y36 : (Bool)) (y40 : (Bool)) (y51 : (Bool)) (v53 : Int) : Option (Int) := (if (((y36 && y40) && ((gt v1.fWashes v29).fFrom != (gt v1.fWashes v29).fTo)) && y51) = true then ck ((0 : Int) ≤ (gt v1.fWashes v29).fFrom ∧ (gt v1.fWashes v29).fFrom < 64) (ck ((0 : Int) ≤ (gt v1.fWashes v29).fTo ∧ (gt v1.fWashes v29).fTo < 64) ((if (!(!(v31 (((gt v1.fWashes v29).fFrom : Int).toNat * 64 + ((gt v1.fWashes v29).fTo : Int).toNat)))) = true then ((z82 φ v1 v29 v31 (z4l φ v29 k32)) 1) else ((z82 φ v1 v29 v31 (z4l φ v29 k32)) v53)))) else ((z4l φ v29 k32) v53 v31))
def z1x (φ : Nat) (v1 : z8p) (k28 : (Int → Option (Int))) : Nat → Int → Int → (Nat → Bool) → Option (Int)
  | 0, _, _, _ => none
  | n32 + 1, v29, v30, v31 => (if (decide (v29 < (v1.fWashes.length : Int))) = true then ck ((0 : Int) ≤ v29 ∧ v29 < (v1.fWashes.length : Int)) ((z2k φ ((gt v1.fWashes v29).fFrom) 0 63).bind fun y36 => ((z3d (y36 = true) (z2k φ ((gt v1.fWashes v29).fTo) 0 63)).bind fun y40 => ((z3d (((y36 && y40) && ((gt v1.fWashes v29).fFrom != (gt v1.fWashes v29).fTo)) = true) (z2k φ ((gt v1.fWashes v29).fMinutes) 0 100000)).bind fun y51 => ((if (!(((y36 && y40) && ((gt v1.fWashes v29).fFrom != (gt v1.fWashes v29).fTo)) && y51)) = true then ((z71 φ v1 v29 v31 (z1x φ v1 k28 n32) y36 y40 y51) 1) else ((z71 φ v1 v29 v31 (z1x φ v1 k28 n32) y36 y40 y51) v30)))))) else (k28 v30))
def z5f (φ : Nat) (v1 : z8p) (v24 : Int) : Option (Int) := (z1x φ v1 (z3b φ) φ 0 v24 (fun _ => false))
def z7x (φ : Nat) (v67 : Int) (k69 : (Int → Int → Option (Int))) (v94 : Int) : Option (Int) := (k69 (W (v67 + 1)) v94)
def z40 (φ : Nat) (v1 : z8p) (k25 : (Int → Option (Int))) : Nat → Int → Int → Option (Int)
  | 0, _, _ => none
  | n69 + 1, v67, v68 => (if (decide (v67 < (v1.fSwaps.length : Int))) = true then ck ((0 : Int) ≤ v67 ∧ v67 < (v1.fSwaps.length : Int)) ((z2k φ ((gt v1.fSwaps v67).fWanted) 0 (W ((v1.fTypes.length : Int) - 1))).bind fun y73 => ((z3d (y73 = true) (z2k φ ((gt v1.fSwaps v67).fGiven) 0 (W ((v1.fTypes.length : Int) - 1)))).bind fun y81 => ((z3d (((y73 && y81) && ((gt v1.fSwaps v67).fWanted != (gt v1.fSwaps v67).fGiven)) = true) (z2k φ ((gt v1.fSwaps v67).fCost) 0 1000000000)).bind fun y92 => ((if (!(((y73 && y81) && ((gt v1.fSwaps v67).fWanted != (gt v1.fSwaps v67).fGiven)) && y92)) = true then ((z7x φ v67 (z40 φ v1 k25 n69)) 1) else ((z7x φ v67 (z40 φ v1 k25 n69)) v68)))))) else (k25 v68))
def z3w (φ : Nat) (v1 : z8p) (v22 : Int) : Option (Int) := (z40 φ v1 (z5f φ v1) φ 0 v22)
def z7e (φ : Nat) (v97 : Int) (k99 : (Int → Int → Option (Int))) (v122 : Int) : Option (Int) := (k99 (W (v97 + 1)) v122)
def z7c (φ : Nat) (v1 : z8p) (v97 : Int) (k99 : (Int → Int → Option (Int))) (v114 : Int) : Option (Int) := (z2k φ ((gt v1.fWagons v97).fBuilt) 0 1073741824).bind fun y116 => ((z3d (y116 = true) (z2k φ ((gt v1.fWagons v97).fWorth) 0 1099511627776)).bind fun y120 => ((if (!(y116 && y120)) = true then ((z7e φ v97 k99) 1) else ((z7e φ v97 k99) v114))))
def z3a (φ : Nat) (v1 : z8p) (k23 : (Int → Option (Int))) : Nat → Int → Int → Option (Int)
  | 0, _, _ => none
  | n99 + 1, v97, v98 => (if (decide (v97 < (v1.fWagons.length : Int))) = true then ck ((0 : Int) ≤ v97 ∧ v97 < (v1.fWagons.length : Int)) ((z2k φ ((gt v1.fWagons v97).fType) 0 (W ((v1.fTypes.length : Int) - 1))).bind fun y103 => ((z3d (y103 = true) (z2k φ ((gt v1.fWagons v97).fOwner) 0 63)).bind fun y107 => ((z3d ((y103 && y107) = true) (z2k φ ((gt v1.fWagons v97).fHome) 0 511)).bind fun y112 => ((if (!((y103 && y107) && y112)) = true then ((z7c φ v1 v97 (z3a φ v1 k23 n99)) 1) else ((z7c φ v1 v97 (z3a φ v1 k23 n99)) v98)))))) else (k23 v98))
def z2e (φ : Nat) (v1 : z8p) (v20 : Int) : Option (Int) := (z3a φ v1 (z3w φ v1) φ 0 v20)
def z2y (φ : Nat) (v126 : Int) (k128 : (Int → Int → Option (Int))) (v130 : Int) : Option (Int) := (k128 (W (v126 + 1)) v130)
def z7g (φ : Nat) (k131 : (Int → Option (Int))) (v148 : Int) : Option (Int) := (k131 v148)
def z4r (φ : Nat) (v1 : z8p) (v126 : Int) (k131 : (Int → Option (Int))) (v135 : Int) : Option (Int) := (z2k φ ((gt v1.fTypes v126).fGauge) 0 7).bind fun y137 => ((z3d (y137 = true) (z2k φ ((gt v1.fTypes v126).fLife) 1 1073741824)).bind fun y141 => ((z3d ((y137 && y141) = true) (z2k φ ((gt v1.fTypes v126).fFloor) 0 100)).bind fun y146 => ((if (!((y137 && y141) && y146)) = true then ((z7g φ k131) 1) else ((z7g φ k131) v135)))))
def z7f (φ : Nat) (v151 : Int) (k153 : (Int → Int → Option (Int))) (v157 : Int) : Option (Int) := (k153 (W (v151 + 1)) v157)
def z37 (φ : Nat) (v1 : z8p) (v126 : Int) (k136 : (Int → Option (Int))) : Nat → Int → Int → Option (Int)
  | 0, _, _ => none
  | n153 + 1, v151, v152 => (if (decide (v151 < ([(gt v1.fTypes v126).fLoad, (gt v1.fTypes v126).fTare, (gt v1.fTypes v126).fLength, (gt v1.fTypes v126).fBrake].length : Int))) = true then ck ((0 : Int) ≤ v151 ∧ v151 < ([(gt v1.fTypes v126).fLoad, (gt v1.fTypes v126).fTare, (gt v1.fTypes v126).fLength, (gt v1.fTypes v126).fBrake].length : Int)) ((z2k φ (gt [(gt v1.fTypes v126).fLoad, (gt v1.fTypes v126).fTare, (gt v1.fTypes v126).fLength, (gt v1.fTypes v126).fBrake] v151) 0 1000000).bind fun y156 => ((if (!y156) = true then ((z7f φ v151 (z37 φ v1 v126 k136 n153)) 1) else ((z7f φ v151 (z37 φ v1 v126 k136 n153)) v152)))) else (k136 v152))
def z1m (φ : Nat) (v1 : z8p) (k21 : (Int → Option (Int))) : Nat → Int → Int → Option (Int)
  | 0, _, _ => none
  | n128 + 1, v126, v127 => (if (decide (v126 < (v1.fTypes.length : Int))) = true then ck ((0 : Int) ≤ v126 ∧ v126 < (v1.fTypes.length : Int)) ((z37 φ v1 v126 (z4r φ v1 v126 (z2y φ v126 (z1m φ v1 k21 n128))) φ 0 v127)) else (k21 v127))
def zbe (φ : Nat) (v1 : z8p) : Option (Int) := (if (((decide (32 < (v1.fTypes.length : Int)) || decide (4096 < (v1.fWagons.length : Int))) || decide (1024 < (v1.fSwaps.length : Int))) || decide (4096 < (v1.fWashes.length : Int))) = true then (some 2) else (z1m φ v1 (z2e φ v1) φ 0 0))
def z5q (φ : Nat) : Option (Int) := (some 0)
def z51 (φ : Nat) (v1 : z2w) (k4 : (Option (Int))) : Nat → Int → Int → Option (Int)
  | 0, _, _ => none
  | n7 + 1, v5, v6 => (if (decide (v6 < (v1.fHolidays.length : Int))) = true then ck ((0 : Int) ≤ v6 ∧ v6 < (v1.fHolidays.length : Int)) ((if (decide ((gt v1.fHolidays v6) ≤ v5) || decide (745654 < (gt v1.fHolidays v6))) = true then (some 1) else ((z51 φ v1 k4 n7) (gt v1.fHolidays v6) (W (v6 + 1))))) else k4)
def z4z (φ : Nat) (v1 : z2w) : Option (Int) := (z51 φ v1 (z5q φ) φ (-1) 0)
def z4g (φ : Nat) (v1 : z2w) (k3 : (Option (Int))) : Nat → Int → Option (Int)
  | 0, _ => none
  | n15 + 1, v14 => (if (decide (v14 < 7)) = true then ck ((0 : Int) ≤ v14 ∧ v14 < 7) ((if ((decide ((v1.fOpen (v14 : Int).toNat).fFrom < 0) || decide ((v1.fOpen (v14 : Int).toNat).fTo < (v1.fOpen (v14 : Int).toNat).fFrom)) || decide (1440 < (v1.fOpen (v14 : Int).toNat).fTo)) = true then (some 1) else ((z4g φ v1 k3 n15) (W (v14 + 1))))) else k3)
def z9d (φ : Nat) (v1 : z2w) : Option (Int) := (z4g φ v1 (z4z φ v1) φ 0)
def za9 (φ : Nat) (v1 : Int) (v2 : Int) : Option (Int × Int) := (some ((U ((U ((U ((v1.fdiv 4294967296) * (v2.fdiv 4294967296))) + ((U ((U ((v1.fdiv 4294967296) * (U ((BitVec.ofInt (IntKind.bits .u64) v2 &&& BitVec.ofInt (IntKind.bits .u64) 4294967295).toNat)))) + ((U ((U ((BitVec.ofInt (IntKind.bits .u64) v1 &&& BitVec.ofInt (IntKind.bits .u64) 4294967295).toNat)) * (U ((BitVec.ofInt (IntKind.bits .u64) v2 &&& BitVec.ofInt (IntKind.bits .u64) 4294967295).toNat)))).fdiv 4294967296))).fdiv 4294967296))) + ((U ((U ((BitVec.ofInt (IntKind.bits .u64) (U ((U ((v1.fdiv 4294967296) * (U ((BitVec.ofInt (IntKind.bits .u64) v2 &&& BitVec.ofInt (IntKind.bits .u64) 4294967295).toNat)))) + ((U ((U ((BitVec.ofInt (IntKind.bits .u64) v1 &&& BitVec.ofInt (IntKind.bits .u64) 4294967295).toNat)) * (U ((BitVec.ofInt (IntKind.bits .u64) v2 &&& BitVec.ofInt (IntKind.bits .u64) 4294967295).toNat)))).fdiv 4294967296))) &&& BitVec.ofInt (IntKind.bits .u64) 4294967295).toNat)) + (U ((U ((BitVec.ofInt (IntKind.bits .u64) v1 &&& BitVec.ofInt (IntKind.bits .u64) 4294967295).toNat)) * (v2.fdiv 4294967296))))).fdiv 4294967296))), (U (v1 * v2))))
def z7v (φ : Nat) (v8 : Int) (v9 : Int) : Option (Int) := ck ((0 : Int) ≤ (IntKind.wrap .u8 (v8)) ∧ (IntKind.wrap .u8 (v8)) < 256) ((some (W (v9 + (W ((zca ze1 (IntKind.wrap .u8 (v8)))))))))
def z8c (φ : Nat) (v5 : Int) (v6 : Int) : Option (Int) := (if (decide (256 ≤ v5)) = true then ((z7v φ) (v5.fdiv 256) (W (v6 + 8))) else ((z7v φ) v5 v6))
def z8d (φ : Nat) (v2 : Int) (v3 : Int) : Option (Int) := (if (decide (65536 ≤ v2)) = true then ((z8c φ) (v2.fdiv 65536) (W (v3 + 16))) else ((z8c φ) v2 v3))
def zac (φ : Nat) (v1 : Int) : Option (Int) := (if (decide (4294967296 ≤ v1)) = true then ((z8d φ) (v1.fdiv 4294967296) 32) else ((z8d φ) v1 0))
def z73 (φ : Nat) (v1 : Int) : Option (Int) := (zac φ v1).bind fun y2 => ((some (W (64 - y2))))
def z7r (φ : Nat) (v1 : Int) (v2 : Int) (v3 : Int) (y8 : (Int)) (v12 : Int) (v15 : Int) : Option (Int × Int) := ck (0 ≤ (U (y8))) ((some ((U ((U (v12 * 4294967296)) + v15)), ((U ((U ((U ((U ((U ((U ((U ((BitVec.ofInt (IntKind.bits .u64) (U (v1 * 2 ^ (min ((U (y8)) : Int).toNat (IntKind.bits .u64)))) ||| BitVec.ofInt (IntKind.bits .u64) (v2.fdiv (2 ^ (min ((U (64 - (U (y8)))) : Int).toNat (IntKind.bits .u64))))).toNat)) * 4294967296)) + ((U (v2 * 2 ^ (min ((U (y8)) : Int).toNat (IntKind.bits .u64)))).fdiv 4294967296))) - (U (v12 * (U (v3 * 2 ^ (min ((U (y8)) : Int).toNat (IntKind.bits .u64)))))))) * 4294967296)) + (U ((BitVec.ofInt (IntKind.bits .u64) (U (v2 * 2 ^ (min ((U (y8)) : Int).toNat (IntKind.bits .u64)))) &&& BitVec.ofInt (IntKind.bits .u64) 4294967295).toNat)))) - (U (v15 * (U (v3 * 2 ^ (min ((U (y8)) : Int).toNat (IntKind.bits .u64)))))))).fdiv (2 ^ (min ((U (y8)) : Int).toNat (IntKind.bits .u64)))))))
def z63 (φ : Nat) (v2 : Int) (v3 : Int) (y8 : (Int)) (k16 : (Int → Option (Int × Int))) : Nat → Int → Int → Option (Int × Int)
  | 0, _, _ => none
  | n20 + 1, v18, v19 => (if (decide (4294967296 ≤ v19) || decide ((U ((U (4294967296 * v18)) + (U ((BitVec.ofInt (IntKind.bits .u64) (U (v2 * 2 ^ (min ((U (y8)) : Int).toNat (IntKind.bits .u64)))) &&& BitVec.ofInt (IntKind.bits .u64) 4294967295).toNat)))) < (U (v19 * (U ((BitVec.ofInt (IntKind.bits .u64) (U (v3 * 2 ^ (min ((U (y8)) : Int).toNat (IntKind.bits .u64)))) &&& BitVec.ofInt (IntKind.bits .u64) 4294967295).toNat)))))) = true then (if (decide (4294967296 ≤ (U (v18 + ((U (v3 * 2 ^ (min ((U (y8)) : Int).toNat (IntKind.bits .u64)))).fdiv 4294967296))))) = true then (k16 (U (v19 - 1))) else ((z63 φ v2 v3 y8 k16 n20) (U (v18 + ((U (v3 * 2 ^ (min ((U (y8)) : Int).toNat (IntKind.bits .u64)))).fdiv 4294967296))) (U (v19 - 1)))) else (k16 v19))
def z7t (φ : Nat) (v1 : Int) (v2 : Int) (v3 : Int) (y8 : (Int)) (v12 : Int) : Option (Int × Int) := ck (((U (v3 * 2 ^ (min ((U (y8)) : Int).toNat (IntKind.bits .u64)))).fdiv 4294967296) ≠ 0) ((z63 φ v2 v3 y8 (z7r φ v1 v2 v3 y8 v12) φ (U ((U ((U ((U ((U ((BitVec.ofInt (IntKind.bits .u64) (U (v1 * 2 ^ (min ((U (y8)) : Int).toNat (IntKind.bits .u64)))) ||| BitVec.ofInt (IntKind.bits .u64) (v2.fdiv (2 ^ (min ((U (64 - (U (y8)))) : Int).toNat (IntKind.bits .u64))))).toNat)) * 4294967296)) + ((U (v2 * 2 ^ (min ((U (y8)) : Int).toNat (IntKind.bits .u64)))).fdiv 4294967296))) - (U (v12 * (U (v3 * 2 ^ (min ((U (y8)) : Int).toNat (IntKind.bits .u64)))))))) - (U ((U ((U ((U ((U ((U ((BitVec.ofInt (IntKind.bits .u64) (U (v1 * 2 ^ (min ((U (y8)) : Int).toNat (IntKind.bits .u64)))) ||| BitVec.ofInt (IntKind.bits .u64) (v2.fdiv (2 ^ (min ((U (64 - (U (y8)))) : Int).toNat (IntKind.bits .u64))))).toNat)) * 4294967296)) + ((U (v2 * 2 ^ (min ((U (y8)) : Int).toNat (IntKind.bits .u64)))).fdiv 4294967296))) - (U (v12 * (U (v3 * 2 ^ (min ((U (y8)) : Int).toNat (IntKind.bits .u64)))))))).tdiv ((U (v3 * 2 ^ (min ((U (y8)) : Int).toNat (IntKind.bits .u64)))).fdiv 4294967296))) * ((U (v3 * 2 ^ (min ((U (y8)) : Int).toNat (IntKind.bits .u64)))).fdiv 4294967296))))) (U ((U ((U ((U ((U ((BitVec.ofInt (IntKind.bits .u64) (U (v1 * 2 ^ (min ((U (y8)) : Int).toNat (IntKind.bits .u64)))) ||| BitVec.ofInt (IntKind.bits .u64) (v2.fdiv (2 ^ (min ((U (64 - (U (y8)))) : Int).toNat (IntKind.bits .u64))))).toNat)) * 4294967296)) + ((U (v2 * 2 ^ (min ((U (y8)) : Int).toNat (IntKind.bits .u64)))).fdiv 4294967296))) - (U (v12 * (U (v3 * 2 ^ (min ((U (y8)) : Int).toNat (IntKind.bits .u64)))))))).tdiv ((U (v3 * 2 ^ (min ((U (y8)) : Int).toNat (IntKind.bits .u64)))).fdiv 4294967296)))))
def z5y (φ : Nat) (v2 : Int) (v3 : Int) (y8 : (Int)) (k13 : (Int → Option (Int × Int))) : Nat → Int → Int → Option (Int × Int)
  | 0, _, _ => none
  | n34 + 1, v32, v33 => (if (decide (4294967296 ≤ v32) || decide ((U ((U (4294967296 * v33)) + ((U (v2 * 2 ^ (min ((U (y8)) : Int).toNat (IntKind.bits .u64)))).fdiv 4294967296))) < (U (v32 * (U ((BitVec.ofInt (IntKind.bits .u64) (U (v3 * 2 ^ (min ((U (y8)) : Int).toNat (IntKind.bits .u64)))) &&& BitVec.ofInt (IntKind.bits .u64) 4294967295).toNat)))))) = true then (if (decide (4294967296 ≤ (U (v33 + ((U (v3 * 2 ^ (min ((U (y8)) : Int).toNat (IntKind.bits .u64)))).fdiv 4294967296))))) = true then (k13 (U (v32 - 1))) else ((z5y φ v2 v3 y8 k13 n34) (U (v32 - 1)) (U (v33 + ((U (v3 * 2 ^ (min ((U (y8)) : Int).toNat (IntKind.bits .u64)))).fdiv 4294967296))))) else (k13 v32))
def z96 (φ : Nat) (v1 : Int) (v2 : Int) (v3 : Int) : Option (Int × Int) := (if (v3 == 0) = true then none else (if (decide (v3 ≤ v1)) = true then none else (if (v1 == 0) = true then ck (v3 ≠ 0) ((some ((U (v2.tdiv v3)), (v2.tmod v3)))) else (z73 φ v3).bind fun y8 => (ck (0 ≤ (U (y8))) (ck (0 ≤ (U (64 - (U (y8))))) (ck (((U (v3 * 2 ^ (min ((U (y8)) : Int).toNat (IntKind.bits .u64)))).fdiv 4294967296) ≠ 0) ((z5y φ v2 v3 y8 (z7t φ v1 v2 v3 y8) φ (U ((U ((BitVec.ofInt (IntKind.bits .u64) (U (v1 * 2 ^ (min ((U (y8)) : Int).toNat (IntKind.bits .u64)))) ||| BitVec.ofInt (IntKind.bits .u64) (v2.fdiv (2 ^ (min ((U (64 - (U (y8)))) : Int).toNat (IntKind.bits .u64))))).toNat)).tdiv ((U (v3 * 2 ^ (min ((U (y8)) : Int).toNat (IntKind.bits .u64)))).fdiv 4294967296))) (U ((U ((BitVec.ofInt (IntKind.bits .u64) (U (v1 * 2 ^ (min ((U (y8)) : Int).toNat (IntKind.bits .u64)))) ||| BitVec.ofInt (IntKind.bits .u64) (v2.fdiv (2 ^ (min ((U (64 - (U (y8)))) : Int).toNat (IntKind.bits .u64))))).toNat)) - (U ((U ((U ((BitVec.ofInt (IntKind.bits .u64) (U (v1 * 2 ^ (min ((U (y8)) : Int).toNat (IntKind.bits .u64)))) ||| BitVec.ofInt (IntKind.bits .u64) (v2.fdiv (2 ^ (min ((U (64 - (U (y8)))) : Int).toNat (IntKind.bits .u64))))).toNat)).tdiv ((U (v3 * 2 ^ (min ((U (y8)) : Int).toNat (IntKind.bits .u64)))).fdiv 4294967296))) * ((U (v3 * 2 ^ (min ((U (y8)) : Int).toNat (IntKind.bits .u64)))).fdiv 4294967296)))))))))))))
def z74 (φ : Nat) (v5 : Int) : Option (Int) := (some v5)
def z8v (φ : Nat) (v8 : Int) (k9 : (Int → Int → Option (Int))) (v15 : Int) : Option (Int) := (k9 v15 (W (v8 + 1)))
def z6k (φ : Nat) (v1 : Int) (v2 : Int) (y4 : (Int)) (k6 : (Int → Option (Int))) : Nat → Int → Int → Option (Int)
  | 0, _, _ => none
  | n9 + 1, v7, v8 => (if (decide (v8 < y4)) = true then (za9 φ (v7.tmod 2305843009213690799) (v7.tmod 2305843009213690799)).bind fun y11 => ((z96 φ y11.1 y11.2 2305843009213690799).bind fun y12 => ((zac φ v2).bind fun y13 => (ck (0 ≤ (W ((W (y13 - 1)) - v8))) ((if ((U ((BitVec.ofInt (IntKind.bits .u64) (v2.fdiv (2 ^ (min ((W ((W (y13 - 1)) - v8)) : Int).toNat (IntKind.bits .u64)))) &&& BitVec.ofInt (IntKind.bits .u64) 1).toNat)) == 1) = true then (za9 φ (y12.2.tmod 2305843009213690799) (v1.tmod 2305843009213690799)).bind fun y18 => ((z96 φ y18.1 y18.2 2305843009213690799).bind fun y19 => (((z8v φ v8 (z6k φ v1 v2 y4 k6 n9)) y19.2))) else ((z8v φ v8 (z6k φ v1 v2 y4 k6 n9)) y12.2)))))) else (k6 v7))
def zf0 (φ : Nat) (v1 : Int) (v2 : Int) : Option (Int) := (zac φ v2).bind fun y4 => ((z6k φ v1 v2 y4 (z74 φ) φ 1 0))
def zci (φ : Nat) (v1 : Int) : Option (Bool) := (z3d ((decide (2 ≤ v1) && decide (v1 < 2305843009213690799)) = true) (zf0 φ v1 1152921504606845399)).bind fun y7 => ((some ((decide (2 ≤ v1) && decide (v1 < 2305843009213690799)) && (y7 == 1))))
def z35 (φ : Nat) (v28 : Bool) : Option (Int) := (if v28 = true then (some 1) else (some 0))
def z3u (φ : Nat) (v1 : Pool) (k29 : (Bool → Option (Int))) : Nat → Bool → Int → Option (Int)
  | 0, _, _ => none
  | n33 + 1, v31, v32 => (if (decide (v32 < (v1.fRailways.length : Int))) = true then ck ((0 : Int) ≤ v32 ∧ v32 < (v1.fRailways.length : Int)) ((z3d (v31 = false) (z9d φ ((gt v1.fRailways v32).fCalendar))).bind fun y40 => ((z3d ((v31 || (y40 != 0)) = false) (zci φ ((gt v1.fRailways v32).fKey))).bind fun y46 => (((z3u φ v1 k29 n33) ((v31 || (y40 != 0)) || (!y46)) (W (v32 + 1)))))) else (k29 v31))
def z3f (φ : Nat) (v1 : Pool) (v26 : Bool) : Option (Int) := (z3u φ v1 (z35 φ) φ v26 0)
def z3v (φ : Nat) (v1 : Pool) (k27 : (Bool → Option (Int))) : Nat → Bool → Int → Option (Int)
  | 0, _, _ => none
  | n51 + 1, v49, v50 => (if (decide (v50 < (v1.fNetwork.fEdges.length : Int))) = true then ck ((0 : Int) ≤ v50 ∧ v50 < (v1.fNetwork.fEdges.length : Int)) (((z3v φ v1 k27 n51) (v49 || decide ((v1.fRailways.length : Int) ≤ (gt v1.fNetwork.fEdges v50).fRailway)) (W (v50 + 1)))) else (k27 v49))
def z3i (φ : Nat) (v1 : Pool) (v24 : Bool) : Option (Int) := (z3v φ v1 (z3f φ v1) φ v24 0)
def z3t (φ : Nat) (v1 : Pool) (k25 : (Bool → Option (Int))) : Nat → Bool → Int → Option (Int)
  | 0, _, _ => none
  | n62 + 1, v60, v61 => (if (decide (v61 < (v1.fNetwork.fPlaces.length : Int))) = true then ck ((0 : Int) ≤ v61 ∧ v61 < (v1.fNetwork.fPlaces.length : Int)) (((z3t φ v1 k25 n62) ((v60 || decide ((v1.fRailways.length : Int) ≤ (gt v1.fNetwork.fPlaces v61).fRailway)) || decide ((v1.fRailways.length : Int) ≤ (gt v1.fNetwork.fPlaces v61).fOther)) (W (v61 + 1)))) else (k25 v60))
def z3l (φ : Nat) (v1 : Pool) (v22 : Bool) : Option (Int) := (z3t φ v1 (z3i φ v1) φ v22 0)
def z41 (φ : Nat) (v1 : Pool) (k23 : (Bool → Option (Int))) : Nat → Bool → Int → Option (Int)
  | 0, _, _ => none
  | n78 + 1, v76, v77 => (if (decide (v77 < (v1.fFleet.fWagons.length : Int))) = true then ck ((0 : Int) ≤ v77 ∧ v77 < (v1.fFleet.fWagons.length : Int)) (((z41 φ v1 k23 n78) (v76 || decide ((v1.fNetwork.fPlaces.length : Int) ≤ (gt v1.fFleet.fWagons v77).fHome)) (W (v77 + 1)))) else (k23 v76))
def z3h (φ : Nat) (v1 : Pool) (v20 : Bool) : Option (Int) := (z41 φ v1 (z3l φ v1) φ v20 0)
def z3x (φ : Nat) (v1 : Pool) (k21 : (Bool → Option (Int))) : Nat → Bool → Int → Option (Int)
  | 0, _, _ => none
  | n90 + 1, v88, v89 => (if (decide (v89 < (v1.fShippers.length : Int))) = true then ck ((0 : Int) ≤ v89 ∧ v89 < (v1.fShippers.length : Int)) ((z3d (v88 = false) (z2k φ ((gt v1.fShippers v89).fPlace) 0 (W ((v1.fNetwork.fPlaces.length : Int) - 1)))).bind fun y100 => (ck (((v88 || (!y100)) = false) → ((0 : Int) ≤ (gt v1.fShippers v89).fPlace ∧ (gt v1.fShippers v89).fPlace < (v1.fNetwork.fPlaces.length : Int))) (((z3x φ v1 k21 n90) ((v88 || (!y100)) || ((gt v1.fNetwork.fPlaces ((gt v1.fShippers v89).fPlace)).fKind != 4)) (W (v89 + 1)))))) else (k21 v88))
def z3j (φ : Nat) (v1 : Pool) (v18 : Bool) : Option (Int) := (z3x φ v1 (z3h φ v1) φ v18 0)
def z3m (φ : Nat) (v1 : Pool) (k19 : (Bool → Option (Int))) : Nat → Bool → Int → Option (Int)
  | 0, _, _ => none
  | n114 + 1, v112, v113 => (if (decide (v113 < (v1.fReaders.length : Int))) = true then ck ((0 : Int) ≤ v113 ∧ v113 < (v1.fReaders.length : Int)) ((z3d (v112 = false) (z2k φ ((gt v1.fReaders v113).fPlace) 0 (W ((v1.fNetwork.fPlaces.length : Int) - 1)))).bind fun y124 => (((z3m φ v1 k19 n114) ((((v112 || (!y124)) || decide ((gt v1.fReaders v113).fLow < (-1000))) || decide ((gt v1.fReaders v113).fHigh < (gt v1.fReaders v113).fLow)) || decide (1000 < (gt v1.fReaders v113).fHigh)) (W (v113 + 1))))) else (k19 v112))
def z5g (φ : Nat) (v1 : Pool) : Option (Int) := (za5 φ v1.fNetwork).bind fun y3 => ((if (y3 != 0) = true then (some y3) else (zbe φ v1.fFleet).bind fun y5 => ((if (y5 != 0) = true then (some y5) else (if ((decide (256 < (v1.fReaders.length : Int)) || decide (256 < (v1.fShippers.length : Int))) || decide (16 < (v1.fRailways.length : Int))) = true then (some 2) else (z3m φ v1 (z3j φ v1) φ ((v1.fRailways.length : Int) == 0) 0))))))
def z9v (φ : Nat) (v1 : Item) : Option (Bool) := (if (zdi v1.fRef (Ref.mk 0 0)) = true then (some (v1.fKind != 14)) else (some (((decide (0 ≤ v1.fRef.fRailway) && decide (v1.fRef.fRailway < 16)) && decide (1 ≤ v1.fRef.fNo)) && decide (v1.fRef.fNo ≤ 4096))))
def z67 (φ : Nat) (v2 : Item) (v105 : Bool) : Option (Bool) := (some ((v105 && (v2.fText == zhc)) && ((v2.fParts.length : Int) == 0)))
def z59 (φ : Nat) (v2 : Item) (k106 : (Bool → Option (Bool))) : Nat → Int → Bool → Option (Bool)
  | 0, _, _ => none
  | n120 + 1, v118, v119 => (if (decide (v118 < 11)) = true then ck ((0 : Int) ≤ v118 ∧ v118 < 11) (((z59 φ v2 k106 n120) (W (v118 + 1)) (v119 && ((gt [0, 0, 0, v2.fNumber, 0, v2.fTo, 0, v2.fDest, v2.fClass, v2.fWeight, v2.fAmount] v118) == 0)))) else (k106 v119))
def z8i (φ : Nat) (v1 : Pool) (v2 : Item) (v41 : Int) (v42 : Int) (v43 : Int) : Option (Bool) := (z59 φ v2 (z67 φ v2) φ 0 (((((((((true && decide (0 ≤ v2.fWagon)) && decide (v2.fWagon ≤ (W ((v1.fFleet.fWagons.length : Int) - 1)))) && (v41 != 0)) && ((3 == 0) || (v41 == 3))) && ((v2.fOther == v42) || (v2.fOther == v43))) && decide (0 ≤ v2.fFrom)) && decide (v2.fFrom ≤ 1073741824)) && decide (0 ≤ v2.fCode)) && decide (v2.fCode ≤ 8)))
def z7p (φ : Nat) (v1 : Pool) (v2 : Item) (v23 : Bool) : Option (Bool) := (if v23 = true then (if (decide (0 ≤ v2.fPlace) && decide (v2.fPlace < (v1.fNetwork.fPlaces.length : Int))) = true then ck ((0 : Int) ≤ v2.fPlace ∧ v2.fPlace < (v1.fNetwork.fPlaces.length : Int)) (((z8i φ v1 v2) ((gt v1.fNetwork.fPlaces v2.fPlace).fKind) ((gt v1.fNetwork.fPlaces v2.fPlace).fRailway) ((gt v1.fNetwork.fPlaces v2.fPlace).fOther))) else ((z8i φ v1 v2) 0 0 0)) else none)
def zb6 (φ : Nat) (v1 : Pool) (v2 : Item) : Option (Bool) := (if (decide (v2.fKind ≤ 7)) = true then (if (decide (v2.fKind < 1)) = true then none else (if (v2.fKind == 1) = true then none else (if (v2.fKind == 2) = true then none else (if (v2.fKind == 3) = true then ((z7p φ v1 v2) (v2.fKind == 3)) else ((z7p φ v1 v2) (v2.fKind == 4)))))) else none)
def z8x (φ : Nat) (v1 : Pool) (v2 : Item) : Option (Int) := (z5g φ v1).bind fun y5 => ((if (y5 != 0) = true then (some y5) else (z9v φ v2).bind fun y7 => ((z3d ((!y7) = false) (zb6 φ v1 v2)).bind fun y11 => ((if ((!y7) || (!y11)) = true then (some 110) else (some 0))))))
def z5x (φ : Nat) (v5 : (List Int)) : Option ((List Int)) := (some v5)
def z7z (φ : Nat) (v8 : Int) (k11 : (Int → (List Int) → Option ((List Int)))) (v22 : (List Int)) : Option ((List Int)) := (k11 (W (v8 + 1)) v22)
def z3y (φ : Nat) (v1 : Pool) (v2 : (List zo)) (v3 : Int) (k7 : ((List Int) → Option ((List Int)))) : Nat → Int → (List Int) → Option ((List Int))
  | 0, _, _ => none
  | n11 + 1, v8, v9 => (if (decide (v8 < (v2.length : Int))) = true then ck ((0 : Int) ≤ v8 ∧ v8 < (v2.length : Int)) ((z3d (((gt v2 v8).fItem.fKind == v3) = true) (z8x φ v1 ((gt v2 v8).fItem))).bind fun y19 => ((if (((gt v2 v8).fItem.fKind == v3) && (y19 == 0)) = true then ck (fits (v9.length + [v8].length) 8) (((z7z φ v8 (z3y φ v1 v2 v3 k7 n11)) (v9 ++ [v8]))) else ((z7z φ v8 (z3y φ v1 v2 v3 k7 n11)) v9)))) else (k7 v9))
def z8t (φ : Nat) (v1 : Pool) (v2 : (List zo)) (v3 : Int) : Option ((List Int)) := (z3y φ v1 v2 v3 (z5x φ) φ 0 ([] : List Int))
def zk5 (r : ((List Int))) (x : VP) (news : List HP) : Prop := ∃ sv0, x = eqv sv0 ∧ news = [row 3 eI64 1 r sv0]
def zdf (φ : Nat) (v1 : Int) : Option (Bool) := (some (v1 != v1))
def z6z (φ : Nat) (v1 : Int) (v2 : Int) : Option (Int) := (zdf φ v1).bind fun y3 => ((zdf φ v2).bind fun y4 => ((if y3 = true then (if y4 = true then (some 0) else (some (-1))) else (if y4 = true then (some 1) else (if (decide (v1 < v2)) = true then (some (-1)) else (if (decide (v2 < v1)) = true then (some 1) else (some 0)))))))
def zbp (φ : Nat) : Option (Int) := (some 0)
def zbc (φ : Nat) (v1 : (List Int)) (k2 : (Option (Int))) : Nat → Int → Option (Int)
  | 0, _ => none
  | n4 + 1, v3 => (if (decide (v3 < (v1.length : Int))) = true then ck ((0 : Int) ≤ v3 ∧ v3 < (v1.length : Int)) ((if ((gt v1 v3) != 0) = true then (some (gt v1 v3)) else ((zbc φ v1 k2 n4) (W (v3 + 1))))) else k2)
def zf2 (φ : Nat) (v1 : (List Int)) : Option (Int) := (zbc φ v1 (zbp φ) φ 0)
def z43 (φ : Nat) (v1 : Ref) (v2 : Ref) : Option (Int) := (z6z φ v1.fRailway v2.fRailway).bind fun y5 => ((z6z φ v1.fNo v2.fNo).bind fun y6 => ((zf2 φ [y5, y6]).bind fun y10 => ((some y10))))
def z0i (φ : Nat) (v6 : Int) (k8 : (Int → (List Int) → Option (List Int))) (v10 : (List Int)) : Option (List Int) := (k8 (W (v6 + 1)) v10)
def z0l (φ : Nat) (v3 : Int) (y5 : (Int → Int → Option Int)) (k11 : ((List Int) → Option (List Int))) : Nat → Int → (List Int) → Option (List Int)
  | 0, _, _ => none
  | n14 + 1, v12, v13 => ck ((decide (v3 < v12) = true) → ((0 : Int) ≤ v12 ∧ v12 < (v13.length : Int))) (ck ((decide (v3 < v12) = true) → ((0 : Int) ≤ (W (v12 - 1)) ∧ (W (v12 - 1)) < (v13.length : Int))) ((z3d (decide (v3 < v12) = true) (y5 (gt v13 v12) (gt v13 (W (v12 - 1))))).bind fun y28 => ((if (decide (v3 < v12) && decide (y28 < 0)) = true then ck ((0 : Int) ≤ (W (v12 - 1)) ∧ (W (v12 - 1)) < (v13.length : Int)) (ck ((0 : Int) ≤ v12 ∧ v12 < (v13.length : Int)) (ck ((0 : Int) ≤ (W (v12 - 1)) ∧ (W (v12 - 1)) < ((z2o v13 v12 (gt v13 (W (v12 - 1)))).length : Int)) (((z0l φ v3 y5 k11 n14) (W (v12 - 1)) (z2o (z2o v13 v12 (gt v13 (W (v12 - 1)))) (W (v12 - 1)) (gt v13 v12)))))) else (k11 v13)))))
def zh (φ : Nat) (v3 : Int) (v4 : Int) (y5 : (Int → Int → Option Int)) : Nat → Int → (List Int) → Option (List Int)
  | 0, _, _ => none
  | n8 + 1, v6, v7 => (if (decide (v6 < v4)) = true then (z0l φ v3 y5 (z0i φ v6 (zh φ v3 v4 y5 n8)) φ v6 v7) else (some v7))
def z1v (φ : Nat) (v1 : (List Int)) (v3 : Int) (v4 : Int) (y5 : (Int → Int → Option Int)) : Option (List Int) := (zh φ v3 v4 y5 φ (W (v3 + 1)) v1)
def z1i (φ : Nat) (v3 : Int) (v4 : Int) (v5 : Int) : Nat → Int → (List Int) → Option (List Int)
  | 0, _, _ => none
  | n9 + 1, v7, v8 => (if (decide (v7 < v5)) = true then ck ((0 : Int) ≤ (W (v4 + v7)) ∧ (W (v4 + v7)) < (v8.length : Int)) (ck ((0 : Int) ≤ (W (v3 + v7)) ∧ (W (v3 + v7)) < (v8.length : Int)) (ck ((0 : Int) ≤ (W (v4 + v7)) ∧ (W (v4 + v7)) < ((z2o v8 (W (v3 + v7)) (gt v8 (W (v4 + v7)))).length : Int)) (((z1i φ v3 v4 v5 n9) (W (v7 + 1)) (z2o (z2o v8 (W (v3 + v7)) (gt v8 (W (v4 + v7)))) (W (v4 + v7)) (gt v8 (W (v3 + v7)))))))) else (some v8))
def z2r (φ : Nat) (v1 : (List Int)) (v3 : Int) (v4 : Int) (v5 : Int) (y6 : (Int → Int → Option Int)) : Option (List Int) := (z1i φ v3 v4 v5 φ 0 v1)
def z1z (φ : Nat) (v4 : Int) (y6 : (Int → Int → Option Int)) (v7 : Int) (v8 : (List Int)) : Option (List Int) := (z2r φ v8 (W (v4 - v7)) v4 v7 y6).bind fun y10 => ((some y10))
def z1t (φ : Nat) (v4 : Int) (y6 : (Int → Int → Option Int)) (k9 : (Int → (List Int) → Option (List Int))) : Nat → Int → Int → (List Int) → Option (List Int)
  | 0, _, _, _ => none
  | n17 + 1, v14, v15, v16 => (if (v14 != v15) = true then (if (decide (v15 < v14)) = true then (z2r φ v16 (W (v4 - v14)) v4 v15 y6).bind fun y20 => (((z1t φ v4 y6 k9 n17) (W (v14 - v15)) v15 y20)) else (z2r φ v16 (W (v4 - v14)) (W ((W (v4 + v15)) - v14)) v14 y6).bind fun y24 => (((z1t φ v4 y6 k9 n17) v14 (W (v15 - v14)) y24))) else (k9 v14 v16))
def z4p (φ : Nat) (v1 : (List Int)) (v3 : Int) (v4 : Int) (v5 : Int) (y6 : (Int → Int → Option Int)) : Option (List Int) := (z1t φ v4 y6 (z1z φ v4 y6) φ (W (v4 - v3)) (W (v5 - v4)) v1)
def z26 (φ : Nat) (v11 : (List Int)) : Option (List Int) := (some v11)
def z24 (φ : Nat) (v9 : Int) (k12 : ((List Int) → Option (List Int))) : Nat → Int → (List Int) → Option (List Int)
  | 0, _, _ => none
  | n15 + 1, v13, v14 => (if (decide (v13 < (W (v9 - 1)))) = true then ck ((0 : Int) ≤ (W (v13 + 1)) ∧ (W (v13 + 1)) < (v14.length : Int)) (ck ((0 : Int) ≤ v13 ∧ v13 < (v14.length : Int)) (ck ((0 : Int) ≤ (W (v13 + 1)) ∧ (W (v13 + 1)) < ((z2o v14 v13 (gt v14 (W (v13 + 1)))).length : Int)) (((z24 φ v9 k12 n15) (W (v13 + 1)) (z2o (z2o v14 v13 (gt v14 (W (v13 + 1)))) (W (v13 + 1)) (gt v14 v13)))))) else (k12 v14))
def z0c (φ : Nat) (v1 : (List Int)) (v3 : Int) (v9 : Int) : Option (List Int) := (z24 φ v9 (z26 φ) φ v3 v1)
def z0d (φ : Nat) (v1 : (List Int)) (v3 : Int) (y6 : (Int → Int → Option Int)) (k10 : (Int → Option (List Int))) : Nat → Int → Int → Option (List Int)
  | 0, _, _ => none
  | n24 + 1, v22, v23 => (if (decide (v22 < v23)) = true then ck ((0 : Int) ≤ (W (((U ((W (v22 + v23)))).fdiv 2))) ∧ (W (((U ((W (v22 + v23)))).fdiv 2))) < (v1.length : Int)) (ck ((0 : Int) ≤ v3 ∧ v3 < (v1.length : Int)) ((y6 (gt v1 (W (((U ((W (v22 + v23)))).fdiv 2)))) (gt v1 v3)).bind fun y28 => ((if (decide (y28 < 0)) = true then ((z0d φ v1 v3 y6 k10 n24) (W ((W (((U ((W (v22 + v23)))).fdiv 2))) + 1)) v23) else ((z0d φ v1 v3 y6 k10 n24) v22 (W (((U ((W (v22 + v23)))).fdiv 2)))))))) else (k10 v22))
def z23 (φ : Nat) (v33 : (List Int)) : Option (List Int) := (some v33)
def z25 (φ : Nat) (v31 : Int) (k34 : ((List Int) → Option (List Int))) : Nat → Int → (List Int) → Option (List Int)
  | 0, _, _ => none
  | n37 + 1, v35, v36 => (if (decide (v31 < v35)) = true then ck ((0 : Int) ≤ (W (v35 - 1)) ∧ (W (v35 - 1)) < (v36.length : Int)) (ck ((0 : Int) ≤ v35 ∧ v35 < (v36.length : Int)) (ck ((0 : Int) ≤ (W (v35 - 1)) ∧ (W (v35 - 1)) < ((z2o v36 v35 (gt v36 (W (v35 - 1)))).length : Int)) (((z25 φ v31 k34 n37) (W (v35 - 1)) (z2o (z2o v36 v35 (gt v36 (W (v35 - 1)))) (W (v35 - 1)) (gt v36 v35)))))) else (k34 v36))
def z06 (φ : Nat) (v1 : (List Int)) (v4 : Int) (v31 : Int) : Option (List Int) := (z25 φ v31 (z23 φ) φ v4 v1)
def z0a (φ : Nat) (v1 : (List Int)) (v4 : Int) (y6 : (Int → Int → Option Int)) (k32 : (Int → Option (List Int))) : Nat → Int → Int → Option (List Int)
  | 0, _, _ => none
  | n46 + 1, v44, v45 => (if (decide (v44 < v45)) = true then ck ((0 : Int) ≤ v4 ∧ v4 < (v1.length : Int)) (ck ((0 : Int) ≤ (W (((U ((W (v44 + v45)))).fdiv 2))) ∧ (W (((U ((W (v44 + v45)))).fdiv 2))) < (v1.length : Int)) ((y6 (gt v1 v4) (gt v1 (W (((U ((W (v44 + v45)))).fdiv 2))))).bind fun y50 => ((if (!(decide (y50 < 0))) = true then ((z0a φ v1 v4 y6 k32 n46) (W ((W (((U ((W (v44 + v45)))).fdiv 2))) + 1)) v45) else ((z0a φ v1 v4 y6 k32 n46) v44 (W (((U ((W (v44 + v45)))).fdiv 2)))))))) else (k32 v44))
def z1h (φ : Nat) (v3 : Int) (v4 : Int) (v5 : Int) (y6 : (Int → Int → Option Int)) (y7 : ((List Int) → Int → Int → Int → (Int → Int → Option Int) → Option (List Int))) (v55 : Int) (v67 : (List Int)) : Option (List Int) := (if (decide ((W (((U ((W (v3 + v5)))).fdiv 2))) < (W ((W ((W (((U ((W (v3 + v5)))).fdiv 2))) + v4)) - v55))) && decide ((W ((W ((W (((U ((W (v3 + v5)))).fdiv 2))) + v4)) - v55)) < v5)) = true then (y7 v67 (W (((U ((W (v3 + v5)))).fdiv 2))) (W ((W ((W (((U ((W (v3 + v5)))).fdiv 2))) + v4)) - v55)) v5 y6).bind fun y74 => ((some y74)) else (some v67))
def z1k (φ : Nat) (v3 : Int) (v4 : Int) (v5 : Int) (y6 : (Int → Int → Option Int)) (y7 : ((List Int) → Int → Int → Int → (Int → Int → Option Int) → Option (List Int))) (v55 : Int) (v61 : (List Int)) : Option (List Int) := (if (decide (v3 < v55) && decide (v55 < (W (((U ((W (v3 + v5)))).fdiv 2))))) = true then (y7 v61 v3 v55 (W (((U ((W (v3 + v5)))).fdiv 2))) y6).bind fun y79 => (((z1h φ v3 v4 v5 y6 y7 v55) y79)) else ((z1h φ v3 v4 v5 y6 y7 v55) v61))
def z0s (φ : Nat) (v1 : (List Int)) (v3 : Int) (v4 : Int) (v5 : Int) (y6 : (Int → Int → Option Int)) (y7 : ((List Int) → Int → Int → Int → (Int → Int → Option Int) → Option (List Int))) (v55 : Int) : Option (List Int) := (if (decide (v55 < v4) && decide (v4 < (W ((W ((W (((U ((W (v3 + v5)))).fdiv 2))) + v4)) - v55)))) = true then (z4p φ v1 v55 v4 (W ((W ((W (((U ((W (v3 + v5)))).fdiv 2))) + v4)) - v55)) y6).bind fun y84 => (((z1k φ v3 v4 v5 y6 y7 v55) y84)) else ((z1k φ v3 v4 v5 y6 y7 v55) v1))
def z08 (φ : Nat) (v1 : (List Int)) (v3 : Int) (v4 : Int) (v5 : Int) (y6 : (Int → Int → Option Int)) (k56 : (Int → Option (List Int))) : Nat → Int → Int → Option (List Int)
  | 0, _, _ => none
  | n90 + 1, v88, v89 => (if (decide (v88 < v89)) = true then ck ((0 : Int) ≤ (W ((W ((W ((W (((U ((W (v3 + v5)))).fdiv 2))) + v4)) - 1)) - (W (((U ((W (v88 + v89)))).fdiv 2))))) ∧ (W ((W ((W ((W (((U ((W (v3 + v5)))).fdiv 2))) + v4)) - 1)) - (W (((U ((W (v88 + v89)))).fdiv 2))))) < (v1.length : Int)) (ck ((0 : Int) ≤ (W (((U ((W (v88 + v89)))).fdiv 2))) ∧ (W (((U ((W (v88 + v89)))).fdiv 2))) < (v1.length : Int)) ((y6 (gt v1 (W ((W ((W ((W (((U ((W (v3 + v5)))).fdiv 2))) + v4)) - 1)) - (W (((U ((W (v88 + v89)))).fdiv 2)))))) (gt v1 (W (((U ((W (v88 + v89)))).fdiv 2))))).bind fun y94 => ((if (!(decide (y94 < 0))) = true then ((z08 φ v1 v3 v4 v5 y6 k56 n90) (W ((W (((U ((W (v88 + v89)))).fdiv 2))) + 1)) v89) else ((z08 φ v1 v3 v4 v5 y6 k56 n90) v88 (W (((U ((W (v88 + v89)))).fdiv 2)))))))) else (k56 v88))
def z0q (φ : Nat) (v1 : (List Int)) (v3 : Int) (v4 : Int) (v5 : Int) (y6 : (Int → Int → Option Int)) (y7 : ((List Int) → Int → Int → Int → (Int → Int → Option Int) → Option (List Int))) (v52 : Int) (v53 : Int) : Option (List Int) := (z08 φ v1 v3 v4 v5 y6 (z0s φ v1 v3 v4 v5 y6 y7) φ v52 v53)
def z9 : Nat → (List Int) → Int → Int → Int → (Int → Int → Option Int) → Option (List Int)
  | 0, _, _, _, _, _ => none
  | φ + 1, v1, v3, v4, v5, y6 => (if ((W (v4 - v3)) == 1) = true then (z0d φ v1 v3 y6 (z0c φ v1 v3) φ v4 v5) else (if ((W (v5 - v4)) == 1) = true then (z0a φ v1 v4 y6 (z06 φ v1 v4) φ v3 v4) else (if (decide ((W (((U ((W (v3 + v5)))).fdiv 2))) < v4)) = true then ((z0q φ v1 v3 v4 v5 y6 (z9 φ)) (W ((W ((W (((U ((W (v3 + v5)))).fdiv 2))) + v4)) - v5)) (W (((U ((W (v3 + v5)))).fdiv 2)))) else ((z0q φ v1 v3 v4 v5 y6 (z9 φ)) v3 v4))))
def z2z (φ : Nat) (v12 : Int) (k14 : (Int → (List Int) → Option (List Int))) (v19 : (List Int)) : Option (List Int) := (k14 (W (v12 * 2)) v19)
def z1u (φ : Nat) (v3 : Int) (y4 : (Int → Int → Option Int)) (v12 : Int) (k14 : (Int → (List Int) → Option (List Int))) (v16 : Int) (v17 : (List Int)) : Option (List Int) := (if (decide ((W (v16 + v12)) < v3)) = true then (z9 φ v17 v16 (W (v16 + v12)) v3 y4).bind fun y22 => (((z2z φ v12 k14) y22)) else ((z2z φ v12 k14) v17))
def z2m (φ : Nat) (v3 : Int) (y4 : (Int → Int → Option Int)) (v12 : Int) (k18 : (Int → (List Int) → Option (List Int))) : Nat → Int → Int → (List Int) → Option (List Int)
  | 0, _, _, _ => none
  | n29 + 1, v26, v27, v28 => (if (decide (v27 ≤ v3)) = true then (z9 φ v28 v26 (W (v26 + v12)) v27 y4).bind fun y31 => (((z2m φ v3 y4 v12 k18 n29) v27 (W (v27 + (W (2 * v12)))) y31)) else (k18 v26 v28))
def zl (φ : Nat) (v3 : Int) (y4 : (Int → Int → Option Int)) : Nat → Int → (List Int) → Option (List Int)
  | 0, _, _ => none
  | n14 + 1, v12, v13 => (if (decide (v12 < v3)) = true then (z2m φ v3 y4 v12 (z1u φ v3 y4 v12 (zl φ v3 y4 n14)) φ 0 (W (2 * v12)) v13) else (some v13))
def z11 (φ : Nat) (v3 : Int) (y4 : (Int → Int → Option Int)) (v5 : Int) (v6 : (List Int)) : Option (List Int) := (z1v φ v6 v5 v3 y4).bind fun y8 => ((zl φ v3 y4 φ 20 y8))
def z1q (φ : Nat) (v3 : Int) (y4 : (Int → Int → Option Int)) (k7 : (Int → (List Int) → Option (List Int))) : Nat → Int → Int → (List Int) → Option (List Int)
  | 0, _, _, _ => none
  | n38 + 1, v35, v36, v37 => (if (decide (v36 ≤ v3)) = true then (z1v φ v37 v35 v36 y4).bind fun y40 => (((z1q φ v3 y4 k7 n38) v36 (W (v36 + 20)) y40)) else (k7 v35 v37))
def z5v (φ : Nat) (v1 : (List Int)) (v3 : Int) (y4 : (Int → Int → Option Int)) : Option (List Int) := (z1q φ v3 y4 (z11 φ v3 y4) φ 0 20 v1)
def z48 (φ : Nat) (v1 : (List Int)) (y3 : (Int → Int → Option Int)) : Option (List Int) := (z5v φ v1 (v1.length : Int) y3).bind fun y4 => ((some y4))
def z8w (φ : Nat) (v1 : Pool) (v2 : zo) : Option (Bool) := ck ((0 : Int) ≤ v2.fItem.fPlace ∧ v2.fItem.fPlace < (v1.fNetwork.fPlaces.length : Int)) ((some ((v2.fRef.fRailway != v2.fItem.fOther) && ((((gt v1.fNetwork.fPlaces v2.fItem.fPlace).fRailway == v2.fRef.fRailway) && ((gt v1.fNetwork.fPlaces v2.fItem.fPlace).fOther == v2.fItem.fOther)) || (((gt v1.fNetwork.fPlaces v2.fItem.fPlace).fRailway == v2.fItem.fOther) && ((gt v1.fNetwork.fPlaces v2.fItem.fPlace).fOther == v2.fRef.fRailway))))))
def z9s (φ : Nat) (v1 : zo) (v2 : zo) : Option (Int) := (some (max2 (W (v1.fItem.fFrom - v2.fItem.fFrom)) (W (v2.fItem.fFrom - v1.fItem.fFrom))))
def z4v (φ : Nat) (v1 : Int) (v2 : Int) (v3 : (List zo)) : Option (Int) := ck ((0 : Int) ≤ v1 ∧ v1 < (v3.length : Int)) (ck ((0 : Int) ≤ v2 ∧ v2 < (v3.length : Int)) ((z6z φ ((gt v3 v1).fItem.fFrom) ((gt v3 v2).fItem.fFrom)).bind fun y6 => ((z43 φ ((gt v3 v1).fRef) ((gt v3 v2).fRef)).bind fun y7 => ((zf2 φ [y6, y7]).bind fun y11 => ((some y11))))))
def z1b (φ : Nat) (v24 : (List (Nat → Int))) : Option ((List (Nat → Int))) := (some v24)
def z20 (φ : Nat) (v27 : Int) (k31 : (Int → (List (Int × Bool)) → (List (Nat → Int)) → Option ((List (Nat → Int))))) (v33 : (List (Int × Bool))) (v34 : (List (Nat → Int))) : Option ((List (Nat → Int))) := (k31 (W (v27 + 1)) v33 v34)
def z3q (φ : Nat) (y19 : (List Int)) (v27 : Int) (v28 : (List (Int × Bool))) (v29 : (List (Nat → Int))) (k36 : ((List (Int × Bool)) → (List (Nat → Int)) → Option ((List (Nat → Int))))) (v42 : Int) : Option ((List (Nat → Int))) := (if (decide (0 ≤ v42)) = true then ck (fits (v29.length + [(ofL [(gt y19 v27), v42])].length) 16) ((k36 (mset v28 v42 true) (v29 ++ [(ofL [(gt y19 v27), v42])]))) else (k36 v28 v29))
def z5c (φ : Nat) (v49 : Int) (k50 : (Int → Int → Option ((List (Nat → Int))))) (v52 : Int) : Option ((List (Nat → Int))) := (k50 v52 (W (v49 + 1)))
def z1c (φ : Nat) (v2 : (List zo)) (y14 : ((List Int))) (y19 : (List Int)) (v27 : Int) (v28 : (List (Int × Bool))) (k43 : (Int → Option ((List (Nat → Int))))) : Nat → Int → Int → Option ((List (Nat → Int)))
  | 0, _, _ => none
  | n50 + 1, v48, v49 => (if (decide (v49 < (y14.length : Int))) = true then ck ((0 : Int) ≤ v49 ∧ v49 < (y14.length : Int)) (ck ((0 : Int) ≤ (gt y14 v49) ∧ (gt y14 v49) < (v2.length : Int)) ((z3d (((((((mget v28 (gt y14 v49)).getD false) || ((gt v2 (gt y14 v49)).fRef.fRailway != (gt v2 (gt y19 v27)).fItem.fOther)) || ((gt v2 (gt y14 v49)).fItem.fOther != (gt v2 (gt y19 v27)).fRef.fRailway)) || ((gt v2 (gt y14 v49)).fItem.fWagon != (gt v2 (gt y19 v27)).fItem.fWagon)) || ((gt v2 (gt y14 v49)).fItem.fPlace != (gt v2 (gt y19 v27)).fItem.fPlace)) = false) (z9s φ (gt v2 (gt y19 v27)) (gt v2 (gt y14 v49)))).bind fun y92 => ((if (((((((mget v28 (gt y14 v49)).getD false) || ((gt v2 (gt y14 v49)).fRef.fRailway != (gt v2 (gt y19 v27)).fItem.fOther)) || ((gt v2 (gt y14 v49)).fItem.fOther != (gt v2 (gt y19 v27)).fRef.fRailway)) || ((gt v2 (gt y14 v49)).fItem.fWagon != (gt v2 (gt y19 v27)).fItem.fWagon)) || ((gt v2 (gt y14 v49)).fItem.fPlace != (gt v2 (gt y19 v27)).fItem.fPlace)) || decide (60 < y92)) = true then ((z5c φ v49 (z1c φ v2 y14 y19 v27 v28 k43 n50)) v48) else ck ((decide (0 ≤ v48) = true) → ((0 : Int) ≤ v48 ∧ v48 < (v2.length : Int))) ((z3d (decide (0 ≤ v48) = true) (z9s φ (gt v2 (gt y19 v27)) (gt v2 v48))).bind fun y103 => ((z3d (decide (0 ≤ v48) = true) (z9s φ (gt v2 (gt y19 v27)) (gt v2 (gt y14 v49)))).bind fun y107 => ((z3d (decide (0 ≤ v48) = true) (z6z φ y103 y107)).bind fun y109 => ((z3d (decide (0 ≤ v48) = true) (z43 φ ((gt v2 v48).fRef) ((gt v2 (gt y14 v49)).fRef))).bind fun y118 => ((z3d (decide (0 ≤ v48) = true) (zf2 φ [y109, y118])).bind fun y125 => ((if (decide (0 ≤ v48) && decide (y125 ≤ 0)) = true then ((z5c φ v49 (z1c φ v2 y14 y19 v27 v28 k43 n50)) v48) else ((z5c φ v49 (z1c φ v2 y14 y19 v27 v28 k43 n50)) (gt y14 v49))))))))))))) else (k43 v48))
def z0p (φ : Nat) (v1 : Pool) (v2 : (List zo)) (y14 : ((List Int))) (y19 : (List Int)) (k26 : ((List (Nat → Int)) → Option ((List (Nat → Int))))) : Nat → Int → (List (Int × Bool)) → (List (Nat → Int)) → Option ((List (Nat → Int)))
  | 0, _, _, _ => none
  | n31 + 1, v27, v28, v29 => (if (decide (v27 < (y19.length : Int))) = true then ck ((0 : Int) ≤ v27 ∧ v27 < (y19.length : Int)) (ck ((0 : Int) ≤ (gt y19 v27) ∧ (gt y19 v27) < (v2.length : Int)) ((z8w φ v1 (gt v2 (gt y19 v27))).bind fun y40 => ((if (!y40) = true then ((z20 φ v27 (z0p φ v1 v2 y14 y19 k26 n31)) v28 v29) else (z1c φ v2 y14 y19 v27 v28 (z3q φ y19 v27 v28 v29 (z20 φ v27 (z0p φ v1 v2 y14 y19 k26 n31))) φ (-1) 0))))) else (k26 v29))
def z5t (φ : Nat) (v1 : Pool) (v2 : (List zo)) : Option ((List (Nat → Int))) := (z5g φ v1).bind fun y5 => ((if (y5 != 0) = true then (some ([] : List (Nat → Int))) else (z8t φ v1 v2 3).bind fun y8 => ((z8t φ v1 v2 4).bind fun y14 => ((z48 φ y8 (fun a b => z4v φ a b v2)).bind fun y19 => ((z0p φ v1 v2 y14 y19 (z1b φ) φ 0 ([] : List (Int × Bool)) ([] : List (Nat → Int))))))))
def zgm (r : ((List (Nat → Int)))) (x : VP) (news : List HP) : Prop := ∃ sv0, x = eqv sv0 ∧ news = [row 89 z5s 2 r sv0]
def zz (φ : Nat) (v6 : Int) (k8 : (Int → (List z4) → Option (List z4))) (v10 : (List z4)) : Option (List z4) := (k8 (W (v6 + 1)) v10)
def z00 (φ : Nat) (v3 : Int) (y5 : (z4 → z4 → Option Int)) (k11 : ((List z4) → Option (List z4))) : Nat → Int → (List z4) → Option (List z4)
  | 0, _, _ => none
  | n14 + 1, v12, v13 => ck ((decide (v3 < v12) = true) → ((0 : Int) ≤ v12 ∧ v12 < (v13.length : Int))) (ck ((decide (v3 < v12) = true) → ((0 : Int) ≤ (W (v12 - 1)) ∧ (W (v12 - 1)) < (v13.length : Int))) ((z3d (decide (v3 < v12) = true) (y5 (gt v13 v12) (gt v13 (W (v12 - 1))))).bind fun y28 => ((if (decide (v3 < v12) && decide (y28 < 0)) = true then ck ((0 : Int) ≤ (W (v12 - 1)) ∧ (W (v12 - 1)) < (v13.length : Int)) (ck ((0 : Int) ≤ v12 ∧ v12 < (v13.length : Int)) (ck ((0 : Int) ≤ (W (v12 - 1)) ∧ (W (v12 - 1)) < ((z2o v13 v12 (gt v13 (W (v12 - 1)))).length : Int)) (((z00 φ v3 y5 k11 n14) (W (v12 - 1)) (z2o (z2o v13 v12 (gt v13 (W (v12 - 1)))) (W (v12 - 1)) (gt v13 v12)))))) else (k11 v13)))))
def zc (φ : Nat) (v3 : Int) (v4 : Int) (y5 : (z4 → z4 → Option Int)) : Nat → Int → (List z4) → Option (List z4)
  | 0, _, _ => none
  | n8 + 1, v6, v7 => (if (decide (v6 < v4)) = true then (z00 φ v3 y5 (zz φ v6 (zc φ v3 v4 y5 n8)) φ v6 v7) else (some v7))
def z13 (φ : Nat) (v1 : (List z4)) (v3 : Int) (v4 : Int) (y5 : (z4 → z4 → Option Int)) : Option (List z4) := (zc φ v3 v4 y5 φ (W (v3 + 1)) v1)
def z0j (φ : Nat) (v3 : Int) (v4 : Int) (v5 : Int) : Nat → Int → (List z4) → Option (List z4)
  | 0, _, _ => none
  | n9 + 1, v7, v8 => (if (decide (v7 < v5)) = true then ck ((0 : Int) ≤ (W (v4 + v7)) ∧ (W (v4 + v7)) < (v8.length : Int)) (ck ((0 : Int) ≤ (W (v3 + v7)) ∧ (W (v3 + v7)) < (v8.length : Int)) (ck ((0 : Int) ≤ (W (v4 + v7)) ∧ (W (v4 + v7)) < ((z2o v8 (W (v3 + v7)) (gt v8 (W (v4 + v7)))).length : Int)) (((z0j φ v3 v4 v5 n9) (W (v7 + 1)) (z2o (z2o v8 (W (v3 + v7)) (gt v8 (W (v4 + v7)))) (W (v4 + v7)) (gt v8 (W (v3 + v7)))))))) else (some v8))
def z1n (φ : Nat) (v1 : (List z4)) (v3 : Int) (v4 : Int) (v5 : Int) (y6 : (z4 → z4 → Option Int)) : Option (List z4) := (z0j φ v3 v4 v5 φ 0 v1)
def z14 (φ : Nat) (v4 : Int) (y6 : (z4 → z4 → Option Int)) (v7 : Int) (v8 : (List z4)) : Option (List z4) := (z1n φ v8 (W (v4 - v7)) v4 v7 y6).bind fun y10 => ((some y10))
def z0w (φ : Nat) (v4 : Int) (y6 : (z4 → z4 → Option Int)) (k9 : (Int → (List z4) → Option (List z4))) : Nat → Int → Int → (List z4) → Option (List z4)
  | 0, _, _, _ => none
  | n17 + 1, v14, v15, v16 => (if (v14 != v15) = true then (if (decide (v15 < v14)) = true then (z1n φ v16 (W (v4 - v14)) v4 v15 y6).bind fun y20 => (((z0w φ v4 y6 k9 n17) (W (v14 - v15)) v15 y20)) else (z1n φ v16 (W (v4 - v14)) (W ((W (v4 + v15)) - v14)) v14 y6).bind fun y24 => (((z0w φ v4 y6 k9 n17) v14 (W (v15 - v14)) y24))) else (k9 v14 v16))
def z3e (φ : Nat) (v1 : (List z4)) (v3 : Int) (v4 : Int) (v5 : Int) (y6 : (z4 → z4 → Option Int)) : Option (List z4) := (z0w φ v4 y6 (z14 φ v4 y6) φ (W (v4 - v3)) (W (v5 - v4)) v1)
def z15 (φ : Nat) (v11 : (List z4)) : Option (List z4) := (some v11)
def z17 (φ : Nat) (v9 : Int) (k12 : ((List z4) → Option (List z4))) : Nat → Int → (List z4) → Option (List z4)
  | 0, _, _ => none
  | n15 + 1, v13, v14 => (if (decide (v13 < (W (v9 - 1)))) = true then ck ((0 : Int) ≤ (W (v13 + 1)) ∧ (W (v13 + 1)) < (v14.length : Int)) (ck ((0 : Int) ≤ v13 ∧ v13 < (v14.length : Int)) (ck ((0 : Int) ≤ (W (v13 + 1)) ∧ (W (v13 + 1)) < ((z2o v14 v13 (gt v14 (W (v13 + 1)))).length : Int)) (((z17 φ v9 k12 n15) (W (v13 + 1)) (z2o (z2o v14 v13 (gt v14 (W (v13 + 1)))) (W (v13 + 1)) (gt v14 v13)))))) else (k12 v14))
def zu (φ : Nat) (v1 : (List z4)) (v3 : Int) (v9 : Int) : Option (List z4) := (z17 φ v9 (z15 φ) φ v3 v1)
def zx (φ : Nat) (v1 : (List z4)) (v3 : Int) (y6 : (z4 → z4 → Option Int)) (k10 : (Int → Option (List z4))) : Nat → Int → Int → Option (List z4)
  | 0, _, _ => none
  | n24 + 1, v22, v23 => (if (decide (v22 < v23)) = true then ck ((0 : Int) ≤ (W (((U ((W (v22 + v23)))).fdiv 2))) ∧ (W (((U ((W (v22 + v23)))).fdiv 2))) < (v1.length : Int)) (ck ((0 : Int) ≤ v3 ∧ v3 < (v1.length : Int)) ((y6 (gt v1 (W (((U ((W (v22 + v23)))).fdiv 2)))) (gt v1 v3)).bind fun y28 => ((if (decide (y28 < 0)) = true then ((zx φ v1 v3 y6 k10 n24) (W ((W (((U ((W (v22 + v23)))).fdiv 2))) + 1)) v23) else ((zx φ v1 v3 y6 k10 n24) v22 (W (((U ((W (v22 + v23)))).fdiv 2)))))))) else (k10 v22))
def z18 (φ : Nat) (v33 : (List z4)) : Option (List z4) := (some v33)
def z16 (φ : Nat) (v31 : Int) (k34 : ((List z4) → Option (List z4))) : Nat → Int → (List z4) → Option (List z4)
  | 0, _, _ => none
  | n37 + 1, v35, v36 => (if (decide (v31 < v35)) = true then ck ((0 : Int) ≤ (W (v35 - 1)) ∧ (W (v35 - 1)) < (v36.length : Int)) (ck ((0 : Int) ≤ v35 ∧ v35 < (v36.length : Int)) (ck ((0 : Int) ≤ (W (v35 - 1)) ∧ (W (v35 - 1)) < ((z2o v36 v35 (gt v36 (W (v35 - 1)))).length : Int)) (((z16 φ v31 k34 n37) (W (v35 - 1)) (z2o (z2o v36 v35 (gt v36 (W (v35 - 1)))) (W (v35 - 1)) (gt v36 v35)))))) else (k34 v36))
def zw (φ : Nat) (v1 : (List z4)) (v4 : Int) (v31 : Int) : Option (List z4) := (z16 φ v31 (z18 φ) φ v4 v1)
def zr (φ : Nat) (v1 : (List z4)) (v4 : Int) (y6 : (z4 → z4 → Option Int)) (k32 : (Int → Option (List z4))) : Nat → Int → Int → Option (List z4)
  | 0, _, _ => none
  | n46 + 1, v44, v45 => (if (decide (v44 < v45)) = true then ck ((0 : Int) ≤ v4 ∧ v4 < (v1.length : Int)) (ck ((0 : Int) ≤ (W (((U ((W (v44 + v45)))).fdiv 2))) ∧ (W (((U ((W (v44 + v45)))).fdiv 2))) < (v1.length : Int)) ((y6 (gt v1 v4) (gt v1 (W (((U ((W (v44 + v45)))).fdiv 2))))).bind fun y50 => ((if (!(decide (y50 < 0))) = true then ((zr φ v1 v4 y6 k32 n46) (W ((W (((U ((W (v44 + v45)))).fdiv 2))) + 1)) v45) else ((zr φ v1 v4 y6 k32 n46) v44 (W (((U ((W (v44 + v45)))).fdiv 2)))))))) else (k32 v44))
def z0h (φ : Nat) (v3 : Int) (v4 : Int) (v5 : Int) (y6 : (z4 → z4 → Option Int)) (y7 : ((List z4) → Int → Int → Int → (z4 → z4 → Option Int) → Option (List z4))) (v55 : Int) (v67 : (List z4)) : Option (List z4) := (if (decide ((W (((U ((W (v3 + v5)))).fdiv 2))) < (W ((W ((W (((U ((W (v3 + v5)))).fdiv 2))) + v4)) - v55))) && decide ((W ((W ((W (((U ((W (v3 + v5)))).fdiv 2))) + v4)) - v55)) < v5)) = true then (y7 v67 (W (((U ((W (v3 + v5)))).fdiv 2))) (W ((W ((W (((U ((W (v3 + v5)))).fdiv 2))) + v4)) - v55)) v5 y6).bind fun y74 => ((some y74)) else (some v67))
def z0m (φ : Nat) (v3 : Int) (v4 : Int) (v5 : Int) (y6 : (z4 → z4 → Option Int)) (y7 : ((List z4) → Int → Int → Int → (z4 → z4 → Option Int) → Option (List z4))) (v55 : Int) (v61 : (List z4)) : Option (List z4) := (if (decide (v3 < v55) && decide (v55 < (W (((U ((W (v3 + v5)))).fdiv 2))))) = true then (y7 v61 v3 v55 (W (((U ((W (v3 + v5)))).fdiv 2))) y6).bind fun y79 => (((z0h φ v3 v4 v5 y6 y7 v55) y79)) else ((z0h φ v3 v4 v5 y6 y7 v55) v61))
def z04 (φ : Nat) (v1 : (List z4)) (v3 : Int) (v4 : Int) (v5 : Int) (y6 : (z4 → z4 → Option Int)) (y7 : ((List z4) → Int → Int → Int → (z4 → z4 → Option Int) → Option (List z4))) (v55 : Int) : Option (List z4) := (if (decide (v55 < v4) && decide (v4 < (W ((W ((W (((U ((W (v3 + v5)))).fdiv 2))) + v4)) - v55)))) = true then (z3e φ v1 v55 v4 (W ((W ((W (((U ((W (v3 + v5)))).fdiv 2))) + v4)) - v55)) y6).bind fun y84 => (((z0m φ v3 v4 v5 y6 y7 v55) y84)) else ((z0m φ v3 v4 v5 y6 y7 v55) v1))
def zt (φ : Nat) (v1 : (List z4)) (v3 : Int) (v4 : Int) (v5 : Int) (y6 : (z4 → z4 → Option Int)) (k56 : (Int → Option (List z4))) : Nat → Int → Int → Option (List z4)
  | 0, _, _ => none
  | n90 + 1, v88, v89 => (if (decide (v88 < v89)) = true then ck ((0 : Int) ≤ (W ((W ((W ((W (((U ((W (v3 + v5)))).fdiv 2))) + v4)) - 1)) - (W (((U ((W (v88 + v89)))).fdiv 2))))) ∧ (W ((W ((W ((W (((U ((W (v3 + v5)))).fdiv 2))) + v4)) - 1)) - (W (((U ((W (v88 + v89)))).fdiv 2))))) < (v1.length : Int)) (ck ((0 : Int) ≤ (W (((U ((W (v88 + v89)))).fdiv 2))) ∧ (W (((U ((W (v88 + v89)))).fdiv 2))) < (v1.length : Int)) ((y6 (gt v1 (W ((W ((W ((W (((U ((W (v3 + v5)))).fdiv 2))) + v4)) - 1)) - (W (((U ((W (v88 + v89)))).fdiv 2)))))) (gt v1 (W (((U ((W (v88 + v89)))).fdiv 2))))).bind fun y94 => ((if (!(decide (y94 < 0))) = true then ((zt φ v1 v3 v4 v5 y6 k56 n90) (W ((W (((U ((W (v88 + v89)))).fdiv 2))) + 1)) v89) else ((zt φ v1 v3 v4 v5 y6 k56 n90) v88 (W (((U ((W (v88 + v89)))).fdiv 2)))))))) else (k56 v88))
def z03 (φ : Nat) (v1 : (List z4)) (v3 : Int) (v4 : Int) (v5 : Int) (y6 : (z4 → z4 → Option Int)) (y7 : ((List z4) → Int → Int → Int → (z4 → z4 → Option Int) → Option (List z4))) (v52 : Int) (v53 : Int) : Option (List z4) := (zt φ v1 v3 v4 v5 y6 (z04 φ v1 v3 v4 v5 y6 y7) φ v52 v53)
def z7 : Nat → (List z4) → Int → Int → Int → (z4 → z4 → Option Int) → Option (List z4)
  | 0, _, _, _, _, _ => none
  | φ + 1, v1, v3, v4, v5, y6 => (if ((W (v4 - v3)) == 1) = true then (zx φ v1 v3 y6 (zu φ v1 v3) φ v4 v5) else (if ((W (v5 - v4)) == 1) = true then (zr φ v1 v4 y6 (zw φ v1 v4) φ v3 v4) else (if (decide ((W (((U ((W (v3 + v5)))).fdiv 2))) < v4)) = true then ((z03 φ v1 v3 v4 v5 y6 (z7 φ)) (W ((W ((W (((U ((W (v3 + v5)))).fdiv 2))) + v4)) - v5)) (W (((U ((W (v3 + v5)))).fdiv 2)))) else ((z03 φ v1 v3 v4 v5 y6 (z7 φ)) v3 v4))))
def z2b (φ : Nat) (v12 : Int) (k14 : (Int → (List z4) → Option (List z4))) (v19 : (List z4)) : Option (List z4) := (k14 (W (v12 * 2)) v19)
def z0v (φ : Nat) (v3 : Int) (y4 : (z4 → z4 → Option Int)) (v12 : Int) (k14 : (Int → (List z4) → Option (List z4))) (v16 : Int) (v17 : (List z4)) : Option (List z4) := (if (decide ((W (v16 + v12)) < v3)) = true then (z7 φ v17 v16 (W (v16 + v12)) v3 y4).bind fun y22 => (((z2b φ v12 k14) y22)) else ((z2b φ v12 k14) v17))
def z1l (φ : Nat) (v3 : Int) (y4 : (z4 → z4 → Option Int)) (v12 : Int) (k18 : (Int → (List z4) → Option (List z4))) : Nat → Int → Int → (List z4) → Option (List z4)
  | 0, _, _, _ => none
  | n29 + 1, v26, v27, v28 => (if (decide (v27 ≤ v3)) = true then (z7 φ v28 v26 (W (v26 + v12)) v27 y4).bind fun y31 => (((z1l φ v3 y4 v12 k18 n29) v27 (W (v27 + (W (2 * v12)))) y31)) else (k18 v26 v28))
def zf (φ : Nat) (v3 : Int) (y4 : (z4 → z4 → Option Int)) : Nat → Int → (List z4) → Option (List z4)
  | 0, _, _ => none
  | n14 + 1, v12, v13 => (if (decide (v12 < v3)) = true then (z1l φ v3 y4 v12 (z0v φ v3 y4 v12 (zf φ v3 y4 n14)) φ 0 (W (2 * v12)) v13) else (some v13))
def z02 (φ : Nat) (v3 : Int) (y4 : (z4 → z4 → Option Int)) (v5 : Int) (v6 : (List z4)) : Option (List z4) := (z13 φ v6 v5 v3 y4).bind fun y8 => ((zf φ v3 y4 φ 20 y8))
def z0y (φ : Nat) (v3 : Int) (y4 : (z4 → z4 → Option Int)) (k7 : (Int → (List z4) → Option (List z4))) : Nat → Int → Int → (List z4) → Option (List z4)
  | 0, _, _, _ => none
  | n38 + 1, v35, v36, v37 => (if (decide (v36 ≤ v3)) = true then (z13 φ v37 v35 v36 y4).bind fun y40 => (((z0y φ v3 y4 k7 n38) v36 (W (v36 + 20)) y40)) else (k7 v35 v37))
def z4e (φ : Nat) (v1 : (List z4)) (v3 : Int) (y4 : (z4 → z4 → Option Int)) : Option (List z4) := (z0y φ v3 y4 (z02 φ v3 y4) φ 0 20 v1)
def z39 (φ : Nat) (v1 : (List z4)) (y3 : (z4 → z4 → Option Int)) : Option (List z4) := (z4e φ v1 (v1.length : Int) y3).bind fun y4 => ((some y4))
def z54 (φ : Nat) (v1 : z4) (v2 : z4) : Option (Int) := (z6z φ v1.fAt v2.fAt).bind fun y5 => ((z6z φ v1.fWagon v2.fWagon).bind fun y6 => ((z43 φ v1.fDeliver v2.fDeliver).bind fun y7 => ((zf2 φ [y5, y6, y7]).bind fun y11 => ((some y11)))))
def z3p (φ : Nat) (v9 : (List z4)) : Option ((List z4)) := (z39 φ v9 (fun a b => z54 φ a b)).bind fun y12 => ((some y12))
def z7h (φ : Nat) (v2 : (List zo)) (y4 : ((List (Nat → Int)))) (v16 : Int) (v17 : (List z4)) (k19 : (Int → (List z4) → Option ((List z4)))) : Option ((List z4)) := ck (fits (v17.length + [(z4.mk (gt v2 ((gt y4 v16) 0)).fItem.fWagon (gt v2 ((gt y4 v16) 0)).fItem.fPlace (gt v2 ((gt y4 v16) 0)).fRef.fRailway (gt v2 ((gt y4 v16) 1)).fRef.fRailway (W ((W (((gt v2 ((gt y4 v16) 0)).fItem.fFrom) + ((gt v2 ((gt y4 v16) 1)).fItem.fFrom))).tdiv 2)) (max2 ((gt v2 ((gt y4 v16) 0)).fItem.fCode) ((gt v2 ((gt y4 v16) 1)).fItem.fCode)) (gt v2 ((gt y4 v16) 0)).fRef (gt v2 ((gt y4 v16) 1)).fRef)].length) 80) ((k19 (W (v16 + 1)) (v17 ++ [(z4.mk (gt v2 ((gt y4 v16) 0)).fItem.fWagon (gt v2 ((gt y4 v16) 0)).fItem.fPlace (gt v2 ((gt y4 v16) 0)).fRef.fRailway (gt v2 ((gt y4 v16) 1)).fRef.fRailway (W ((W (((gt v2 ((gt y4 v16) 0)).fItem.fFrom) + ((gt v2 ((gt y4 v16) 1)).fItem.fFrom))).tdiv 2)) (max2 ((gt v2 ((gt y4 v16) 0)).fItem.fCode) ((gt v2 ((gt y4 v16) 1)).fItem.fCode)) (gt v2 ((gt y4 v16) 0)).fRef (gt v2 ((gt y4 v16) 1)).fRef)])))
def z30 (φ : Nat) (v2 : (List zo)) (y4 : ((List (Nat → Int)))) (k11 : ((List z4) → Option ((List z4)))) : Nat → Int → (List z4) → Option ((List z4))
  | 0, _, _ => none
  | n19 + 1, v16, v17 => (if (decide (v16 < (y4.length : Int))) = true then ck ((0 : Int) ≤ v16 ∧ v16 < (y4.length : Int)) (ck ((0 : Int) ≤ ((gt y4 v16) 0) ∧ ((gt y4 v16) 0) < (v2.length : Int)) (ck ((0 : Int) ≤ ((gt y4 v16) 1) ∧ ((gt y4 v16) 1) < (v2.length : Int)) ((z7h φ v2 y4 v16 v17 (z30 φ v2 y4 k11 n19))))) else (k11 v17))
def z57 (φ : Nat) (v1 : Pool) (v2 : (List zo)) : Option ((List z4)) := (z5t φ v1 v2).bind fun y4 => ((z30 φ v2 y4 (z3p φ) φ 0 ([] : List z4)))
def zgt (r : ((List z4))) (x : VP) (news : List HP) : Prop := ∃ sv0, x = eqv sv0 ∧ news = [row 70 z6 10 r sv0]
def zao (φ : Nat) (v1 : Pool) (v2 : Int) (v3 : Int) : Option (Int) := (z5g φ v1).bind fun y5 => ((if (y5 != 0) = true then (some y5) else (if (((decide (v2 < 0) || decide ((v1.fFleet.fWagons.length : Int) ≤ v2)) || decide (v3 < 0)) || decide (1073741824 < v3)) = true then (some 1) else (some 0))))
def z4a (φ : Nat) (v15 : (List z05)) : Option ((List z05)) := (some v15)
def z7m (φ : Nat) (v18 : Int) (k21 : (Int → (List z05) → Option ((List z05)))) (v40 : (List z05)) : Option ((List z05)) := (k21 (W (v18 + 1)) v40)
def z4b (φ : Nat) (v3 : Int) (y10 : ((List z4))) (k17 : ((List z05) → Option ((List z05)))) : Nat → Int → (List z05) → Option ((List z05))
  | 0, _, _ => none
  | n21 + 1, v18, v19 => (if (decide (v18 < (y10.length : Int))) = true then ck ((0 : Int) ≤ v18 ∧ v18 < (y10.length : Int)) (ck ((0 : Int) ≤ (W ((v19.length : Int) - 1)) ∧ (W ((v19.length : Int) - 1)) < (v19.length : Int)) ((if ((((gt y10 v18).fWagon == v3) && ((gt y10 v18).fFrom == (gt v19 (W ((v19.length : Int) - 1))).fRailway)) && decide ((gt v19 (W ((v19.length : Int) - 1))).fSpan.fFrom < (gt y10 v18).fAt)) = true then ck (fits (v19.length + [(z05.mk (gt y10 v18).fTo (Span.mk (gt y10 v18).fAt 0) (gt y10 v18).fReceive)].length) 40) (((z7m φ v18 (z4b φ v3 y10 k17 n21)) (v19 ++ [(z05.mk (gt y10 v18).fTo (Span.mk (gt y10 v18).fAt 0) (gt y10 v18).fReceive)]))) else ((z7m φ v18 (z4b φ v3 y10 k17 n21)) v19)))) else (k17 v19))
def zah (φ : Nat) (v1 : Pool) (v2 : (List zo)) (v3 : Int) : Option ((List z05)) := ck ((0 : Int) ≤ v3 ∧ v3 < (v1.fFleet.fWagons.length : Int)) (ck ((0 : Int) ≤ (gt v1.fFleet.fWagons v3).fHome ∧ (gt v1.fFleet.fWagons v3).fHome < (v1.fNetwork.fPlaces.length : Int)) ((z57 φ v1 v2).bind fun y10 => ((z4b φ v3 y10 (z4a φ) φ 0 [(z05.mk (gt v1.fNetwork.fPlaces ((gt v1.fFleet.fWagons v3).fHome)).fRailway (Span.mk 0 0) (Ref.mk 0 0))]))))
def zgp (r : ((List z05))) (x : VP) (news : List HP) : Prop := ∃ sv0, x = eqv sv0 ∧ news = [row 64 z2v 5 r sv0]
def z4c (φ : Nat) (v13 : (List z05)) : Option ((List z05) × Int) := (some (v13, 0))
def z7j (φ : Nat) (v4 : Int) (y8 : ((List z05))) (v16 : Int) (k19 : (Int → (List z05) → Option ((List z05) × Int))) (v24 : (List z05)) : Option ((List z05) × Int) := ck (fits (v24.length + [(z05.mk (gt y8 v16).fRailway (Span.mk (gt y8 v16).fSpan.fFrom v4) (gt y8 v16).fRef)].length) 40) ((k19 (W (v16 + 1)) (v24 ++ [(z05.mk (gt y8 v16).fRailway (Span.mk (gt y8 v16).fSpan.fFrom v4) (gt y8 v16).fRef)])))
def z4h (φ : Nat) (v4 : Int) (y8 : ((List z05))) (k15 : ((List z05) → Option ((List z05) × Int))) : Nat → Int → (List z05) → Option ((List z05) × Int)
  | 0, _, _ => none
  | n19 + 1, v16, v17 => (if (decide (v16 < (y8.length : Int))) = true then ck ((0 : Int) ≤ v16 ∧ v16 < (y8.length : Int)) ((if (decide (v4 ≤ (gt y8 v16).fSpan.fFrom)) = true then (k15 v17) else (if (decide (0 < (v17.length : Int))) = true then ck ((0 : Int) ≤ (W ((v17.length : Int) - 1)) ∧ (W ((v17.length : Int) - 1)) < (v17.length : Int)) (((z7j φ v4 y8 v16 (z4h φ v4 y8 k15 n19)) (z2o v17 (W ((v17.length : Int) - 1)) (z05.mk (gt v17 (W ((v17.length : Int) - 1))).fRailway (Span.mk (gt v17 (W ((v17.length : Int) - 1))).fSpan.fFrom (gt y8 v16).fSpan.fFrom) (gt v17 (W ((v17.length : Int) - 1))).fRef)))) else ((z7j φ v4 y8 v16 (z4h φ v4 y8 k15 n19)) v17)))) else (k15 v17))
def zag (φ : Nat) (v1 : Pool) (v2 : (List zo)) (v3 : Int) (v4 : Int) : Option ((List z05) × Int) := (zao φ v1 v3 v4).bind fun y6 => ((if (y6 != 0) = true then (some (([] : List z05), y6)) else (zah φ v1 v2 v3).bind fun y8 => ((z4h φ v4 y8 (z4c φ) φ 0 ([] : List z05)))))
def zgl (r : ((List z05) × Int)) (x : VP) (news : List HP) : Prop := ∃ sv0, x = tupv [eqv sv0, (iv .i64 r.2)] ∧ news = [row 64 z2v 5 r.1 sv0]
def z7y (φ : Nat) (y8 : ((List z05))) (v13 : Int) : Option (Int × Int) := ck ((0 : Int) ≤ v13 ∧ v13 < (y8.length : Int)) ((some ((gt y8 v13).fRailway, 0)))
def z8s (φ : Nat) (v4 : Int) (y8 : ((List z05))) (k14 : (Int → Option (Int × Int))) : Nat → Int → Option (Int × Int)
  | 0, _ => none
  | n17 + 1, v16 => ck ((0 : Int) ≤ v16 ∧ v16 < (y8.length : Int)) ((if (decide (v4 < (gt y8 v16).fSpan.fFrom)) = true then ((z8s φ v4 y8 k14 n17) (W (v16 - 1))) else (k14 v16)))
def zcu (φ : Nat) (v1 : Pool) (v2 : (List zo)) (v3 : Int) (v4 : Int) : Option (Int × Int) := (zao φ v1 v3 v4).bind fun y6 => ((if (y6 != 0) = true then (some (0, y6)) else (zah φ v1 v2 v3).bind fun y8 => ((z8s φ v4 y8 (z7y φ y8) φ (W ((y8.length : Int) - 1))))))
def z4k (φ : Nat) : Option (Bool) := (some true)
def z5n (φ : Nat) (v1 : (List z4)) (v2 : (List z4)) (k4 : (Option (Bool))) : Nat → Int → Option (Bool)
  | 0, _ => none
  | n6 + 1, v5 => (if (decide (v5 < (v1.length : Int))) = true then ck ((0 : Int) ≤ v5 ∧ v5 < (v1.length : Int)) (ck ((0 : Int) ≤ v5 ∧ v5 < (v2.length : Int)) ((if (!(zha (gt v1 v5) (gt v2 v5))) = true then (some false) else ((z5n φ v1 v2 k4 n6) (W (v5 + 1)))))) else k4)
def z9m (φ : Nat) (v1 : (List z4)) (v2 : (List z4)) : Option (Bool) := (if ((v1.length : Int) != (v2.length : Int)) = true then (some false) else (z5n φ v1 v2 (z4k φ) φ 0))
def z92 (φ : Nat) : Option (Bool) := (some true)
def z9w (φ : Nat) (v1 : (List z05)) (v2 : (List z05)) (k4 : (Option (Bool))) : Nat → Int → Option (Bool)
  | 0, _ => none
  | n6 + 1, v5 => (if (decide (v5 < (v1.length : Int))) = true then ck ((0 : Int) ≤ v5 ∧ v5 < (v1.length : Int)) (ck ((0 : Int) ≤ v5 ∧ v5 < (v2.length : Int)) ((if (!(zjg (gt v1 v5) (gt v2 v5))) = true then (some false) else ((z9w φ v1 v2 k4 n6) (W (v5 + 1)))))) else k4)
def zfm (φ : Nat) (v1 : (List z05)) (v2 : (List z05)) : Option (Bool) := (if ((v1.length : Int) != (v2.length : Int)) = true then (some false) else (z9w φ v1 v2 (z92 φ) φ 0))
def z9g (φ : Nat) (v3 : (List Int)) : Option (List Int) := (some v3)
def zbk (φ : Nat) (v1 : Int) : Option (List Int) := (if (decide (v1 < 0)) = true then none else (if (decide (0 < (W (v1 - (W (0 - (([] : List Int).length : Int))))))) = true then ck (0 < (W (v1 - (W (0 - (([] : List Int).length : Int)))))) (ck (fits ((W (v1 - (W (0 - (([] : List Int).length : Int))))) : Int).toNat 8) (ck ((0 : Int) ≤ 0 ∧ 0 ≤ ((List.replicate ((W (v1 - (W (0 - (([] : List Int).length : Int))))) : Int).toNat (0 : Int)).length : Int)) (((z9g φ) ((List.replicate ((W (v1 - (W (0 - (([] : List Int).length : Int))))) : Int).toNat (0 : Int)).take (0 : Int).toNat))))) else ((z9g φ) ([] : List Int))))
def zk8 (r : (List Int)) (x : VP) (news : List HP) : Prop := ∃ sv0, x = eqv sv0 ∧ news = [row 3 eI64 1 r sv0]
def z52 (φ : Nat) (v9 : (List Int)) : Option ((List Int)) := (some v9)
def z4w (φ : Nat) (v1 : (List (List Int))) (k11 : ((List Int) → Option ((List Int)))) : Nat → Int → (List Int) → Option ((List Int))
  | 0, _, _ => none
  | n15 + 1, v12, v13 => (if (decide (v12 < (v1.length : Int))) = true then ck ((0 : Int) ≤ v12 ∧ v12 < (v1.length : Int)) (ck (fits (v13.length + (gt v1 v12).length) 8) (((z4w φ v1 k11 n15) (W (v12 + 1)) (v13 ++ (gt v1 v12))))) else (k11 v13))
def z5i (φ : Nat) (v1 : (List (List Int))) (v2 : Int) : Option ((List Int)) := (zbk φ v2).bind fun y4 => ((z4w φ v1 (z52 φ) φ 0 y4))
def z53 (φ : Nat) (v1 : (List (List Int))) (k3 : (Int → Option ((List Int)))) : Nat → Int → Int → Option ((List Int))
  | 0, _, _ => none
  | n22 + 1, v20, v21 => (if (decide (v21 < (v1.length : Int))) = true then ck ((0 : Int) ≤ v21 ∧ v21 < (v1.length : Int)) ((if (decide ((W (v20 + ((gt v1 v21).length : Int))) < 0)) = true then none else ((z53 φ v1 k3 n22) (W (v20 + ((gt v1 v21).length : Int))) (W (v21 + 1))))) else (k3 v20))
def z9y (φ : Nat) (v1 : (List (List Int))) : Option ((List Int)) := (z53 φ v1 (z5i φ v1) φ 0 0)
def zht (r : ((List Int))) (x : VP) (news : List HP) : Prop := ∃ sv0, x = eqv sv0 ∧ news = [row 3 eI64 1 r sv0]
def z0n (φ : Nat) (v6 : Int) (k8 : (Int → (List Ref) → Option (List Ref))) (v10 : (List Ref)) : Option (List Ref) := (k8 (W (v6 + 1)) v10)
def z0k (φ : Nat) (v3 : Int) (y5 : (Ref → Ref → Option Int)) (k11 : ((List Ref) → Option (List Ref))) : Nat → Int → (List Ref) → Option (List Ref)
  | 0, _, _ => none
  | n14 + 1, v12, v13 => ck ((decide (v3 < v12) = true) → ((0 : Int) ≤ v12 ∧ v12 < (v13.length : Int))) (ck ((decide (v3 < v12) = true) → ((0 : Int) ≤ (W (v12 - 1)) ∧ (W (v12 - 1)) < (v13.length : Int))) ((z3d (decide (v3 < v12) = true) (y5 (gt v13 v12) (gt v13 (W (v12 - 1))))).bind fun y28 => ((if (decide (v3 < v12) && decide (y28 < 0)) = true then ck ((0 : Int) ≤ (W (v12 - 1)) ∧ (W (v12 - 1)) < (v13.length : Int)) (ck ((0 : Int) ≤ v12 ∧ v12 < (v13.length : Int)) (ck ((0 : Int) ≤ (W (v12 - 1)) ∧ (W (v12 - 1)) < ((z2o v13 v12 (gt v13 (W (v12 - 1)))).length : Int)) (((z0k φ v3 y5 k11 n14) (W (v12 - 1)) (z2o (z2o v13 v12 (gt v13 (W (v12 - 1)))) (W (v12 - 1)) (gt v13 v12)))))) else (k11 v13)))))
def zi (φ : Nat) (v3 : Int) (v4 : Int) (y5 : (Ref → Ref → Option Int)) : Nat → Int → (List Ref) → Option (List Ref)
  | 0, _, _ => none
  | n8 + 1, v6, v7 => (if (decide (v6 < v4)) = true then (z0k φ v3 y5 (z0n φ v6 (zi φ v3 v4 y5 n8)) φ v6 v7) else (some v7))
def z1w (φ : Nat) (v1 : (List Ref)) (v3 : Int) (v4 : Int) (y5 : (Ref → Ref → Option Int)) : Option (List Ref) := (zi φ v3 v4 y5 φ (W (v3 + 1)) v1)
def z1j (φ : Nat) (v3 : Int) (v4 : Int) (v5 : Int) : Nat → Int → (List Ref) → Option (List Ref)
  | 0, _, _ => none
  | n9 + 1, v7, v8 => (if (decide (v7 < v5)) = true then ck ((0 : Int) ≤ (W (v4 + v7)) ∧ (W (v4 + v7)) < (v8.length : Int)) (ck ((0 : Int) ≤ (W (v3 + v7)) ∧ (W (v3 + v7)) < (v8.length : Int)) (ck ((0 : Int) ≤ (W (v4 + v7)) ∧ (W (v4 + v7)) < ((z2o v8 (W (v3 + v7)) (gt v8 (W (v4 + v7)))).length : Int)) (((z1j φ v3 v4 v5 n9) (W (v7 + 1)) (z2o (z2o v8 (W (v3 + v7)) (gt v8 (W (v4 + v7)))) (W (v4 + v7)) (gt v8 (W (v3 + v7)))))))) else (some v8))
def z2q (φ : Nat) (v1 : (List Ref)) (v3 : Int) (v4 : Int) (v5 : Int) (y6 : (Ref → Ref → Option Int)) : Option (List Ref) := (z1j φ v3 v4 v5 φ 0 v1)
def z21 (φ : Nat) (v4 : Int) (y6 : (Ref → Ref → Option Int)) (v7 : Int) (v8 : (List Ref)) : Option (List Ref) := (z2q φ v8 (W (v4 - v7)) v4 v7 y6).bind fun y10 => ((some y10))
def z1r (φ : Nat) (v4 : Int) (y6 : (Ref → Ref → Option Int)) (k9 : (Int → (List Ref) → Option (List Ref))) : Nat → Int → Int → (List Ref) → Option (List Ref)
  | 0, _, _, _ => none
  | n17 + 1, v14, v15, v16 => (if (v14 != v15) = true then (if (decide (v15 < v14)) = true then (z2q φ v16 (W (v4 - v14)) v4 v15 y6).bind fun y20 => (((z1r φ v4 y6 k9 n17) (W (v14 - v15)) v15 y20)) else (z2q φ v16 (W (v4 - v14)) (W ((W (v4 + v15)) - v14)) v14 y6).bind fun y24 => (((z1r φ v4 y6 k9 n17) v14 (W (v15 - v14)) y24))) else (k9 v14 v16))
def z4o (φ : Nat) (v1 : (List Ref)) (v3 : Int) (v4 : Int) (v5 : Int) (y6 : (Ref → Ref → Option Int)) : Option (List Ref) := (z1r φ v4 y6 (z21 φ v4 y6) φ (W (v4 - v3)) (W (v5 - v4)) v1)
def z27 (φ : Nat) (v11 : (List Ref)) : Option (List Ref) := (some v11)
def z28 (φ : Nat) (v9 : Int) (k12 : ((List Ref) → Option (List Ref))) : Nat → Int → (List Ref) → Option (List Ref)
  | 0, _, _ => none
  | n15 + 1, v13, v14 => (if (decide (v13 < (W (v9 - 1)))) = true then ck ((0 : Int) ≤ (W (v13 + 1)) ∧ (W (v13 + 1)) < (v14.length : Int)) (ck ((0 : Int) ≤ v13 ∧ v13 < (v14.length : Int)) (ck ((0 : Int) ≤ (W (v13 + 1)) ∧ (W (v13 + 1)) < ((z2o v14 v13 (gt v14 (W (v13 + 1)))).length : Int)) (((z28 φ v9 k12 n15) (W (v13 + 1)) (z2o (z2o v14 v13 (gt v14 (W (v13 + 1)))) (W (v13 + 1)) (gt v14 v13)))))) else (k12 v14))
def z07 (φ : Nat) (v1 : (List Ref)) (v3 : Int) (v9 : Int) : Option (List Ref) := (z28 φ v9 (z27 φ) φ v3 v1)
def z0e (φ : Nat) (v1 : (List Ref)) (v3 : Int) (y6 : (Ref → Ref → Option Int)) (k10 : (Int → Option (List Ref))) : Nat → Int → Int → Option (List Ref)
  | 0, _, _ => none
  | n24 + 1, v22, v23 => (if (decide (v22 < v23)) = true then ck ((0 : Int) ≤ (W (((U ((W (v22 + v23)))).fdiv 2))) ∧ (W (((U ((W (v22 + v23)))).fdiv 2))) < (v1.length : Int)) (ck ((0 : Int) ≤ v3 ∧ v3 < (v1.length : Int)) ((y6 (gt v1 (W (((U ((W (v22 + v23)))).fdiv 2)))) (gt v1 v3)).bind fun y28 => ((if (decide (y28 < 0)) = true then ((z0e φ v1 v3 y6 k10 n24) (W ((W (((U ((W (v22 + v23)))).fdiv 2))) + 1)) v23) else ((z0e φ v1 v3 y6 k10 n24) v22 (W (((U ((W (v22 + v23)))).fdiv 2)))))))) else (k10 v22))
def z22 (φ : Nat) (v33 : (List Ref)) : Option (List Ref) := (some v33)
def z29 (φ : Nat) (v31 : Int) (k34 : ((List Ref) → Option (List Ref))) : Nat → Int → (List Ref) → Option (List Ref)
  | 0, _, _ => none
  | n37 + 1, v35, v36 => (if (decide (v31 < v35)) = true then ck ((0 : Int) ≤ (W (v35 - 1)) ∧ (W (v35 - 1)) < (v36.length : Int)) (ck ((0 : Int) ≤ v35 ∧ v35 < (v36.length : Int)) (ck ((0 : Int) ≤ (W (v35 - 1)) ∧ (W (v35 - 1)) < ((z2o v36 v35 (gt v36 (W (v35 - 1)))).length : Int)) (((z29 φ v31 k34 n37) (W (v35 - 1)) (z2o (z2o v36 v35 (gt v36 (W (v35 - 1)))) (W (v35 - 1)) (gt v36 v35)))))) else (k34 v36))
def z0b (φ : Nat) (v1 : (List Ref)) (v4 : Int) (v31 : Int) : Option (List Ref) := (z29 φ v31 (z22 φ) φ v4 v1)
def z09 (φ : Nat) (v1 : (List Ref)) (v4 : Int) (y6 : (Ref → Ref → Option Int)) (k32 : (Int → Option (List Ref))) : Nat → Int → Int → Option (List Ref)
  | 0, _, _ => none
  | n46 + 1, v44, v45 => (if (decide (v44 < v45)) = true then ck ((0 : Int) ≤ v4 ∧ v4 < (v1.length : Int)) (ck ((0 : Int) ≤ (W (((U ((W (v44 + v45)))).fdiv 2))) ∧ (W (((U ((W (v44 + v45)))).fdiv 2))) < (v1.length : Int)) ((y6 (gt v1 v4) (gt v1 (W (((U ((W (v44 + v45)))).fdiv 2))))).bind fun y50 => ((if (!(decide (y50 < 0))) = true then ((z09 φ v1 v4 y6 k32 n46) (W ((W (((U ((W (v44 + v45)))).fdiv 2))) + 1)) v45) else ((z09 φ v1 v4 y6 k32 n46) v44 (W (((U ((W (v44 + v45)))).fdiv 2)))))))) else (k32 v44))
def z1d (φ : Nat) (v3 : Int) (v4 : Int) (v5 : Int) (y6 : (Ref → Ref → Option Int)) (y7 : ((List Ref) → Int → Int → Int → (Ref → Ref → Option Int) → Option (List Ref))) (v55 : Int) (v67 : (List Ref)) : Option (List Ref) := (if (decide ((W (((U ((W (v3 + v5)))).fdiv 2))) < (W ((W ((W (((U ((W (v3 + v5)))).fdiv 2))) + v4)) - v55))) && decide ((W ((W ((W (((U ((W (v3 + v5)))).fdiv 2))) + v4)) - v55)) < v5)) = true then (y7 v67 (W (((U ((W (v3 + v5)))).fdiv 2))) (W ((W ((W (((U ((W (v3 + v5)))).fdiv 2))) + v4)) - v55)) v5 y6).bind fun y74 => ((some y74)) else (some v67))
def z1g (φ : Nat) (v3 : Int) (v4 : Int) (v5 : Int) (y6 : (Ref → Ref → Option Int)) (y7 : ((List Ref) → Int → Int → Int → (Ref → Ref → Option Int) → Option (List Ref))) (v55 : Int) (v61 : (List Ref)) : Option (List Ref) := (if (decide (v3 < v55) && decide (v55 < (W (((U ((W (v3 + v5)))).fdiv 2))))) = true then (y7 v61 v3 v55 (W (((U ((W (v3 + v5)))).fdiv 2))) y6).bind fun y79 => (((z1d φ v3 v4 v5 y6 y7 v55) y79)) else ((z1d φ v3 v4 v5 y6 y7 v55) v61))
def z0u (φ : Nat) (v1 : (List Ref)) (v3 : Int) (v4 : Int) (v5 : Int) (y6 : (Ref → Ref → Option Int)) (y7 : ((List Ref) → Int → Int → Int → (Ref → Ref → Option Int) → Option (List Ref))) (v55 : Int) : Option (List Ref) := (if (decide (v55 < v4) && decide (v4 < (W ((W ((W (((U ((W (v3 + v5)))).fdiv 2))) + v4)) - v55)))) = true then (z4o φ v1 v55 v4 (W ((W ((W (((U ((W (v3 + v5)))).fdiv 2))) + v4)) - v55)) y6).bind fun y84 => (((z1g φ v3 v4 v5 y6 y7 v55) y84)) else ((z1g φ v3 v4 v5 y6 y7 v55) v1))
def z0f (φ : Nat) (v1 : (List Ref)) (v3 : Int) (v4 : Int) (v5 : Int) (y6 : (Ref → Ref → Option Int)) (k56 : (Int → Option (List Ref))) : Nat → Int → Int → Option (List Ref)
  | 0, _, _ => none
  | n90 + 1, v88, v89 => (if (decide (v88 < v89)) = true then ck ((0 : Int) ≤ (W ((W ((W ((W (((U ((W (v3 + v5)))).fdiv 2))) + v4)) - 1)) - (W (((U ((W (v88 + v89)))).fdiv 2))))) ∧ (W ((W ((W ((W (((U ((W (v3 + v5)))).fdiv 2))) + v4)) - 1)) - (W (((U ((W (v88 + v89)))).fdiv 2))))) < (v1.length : Int)) (ck ((0 : Int) ≤ (W (((U ((W (v88 + v89)))).fdiv 2))) ∧ (W (((U ((W (v88 + v89)))).fdiv 2))) < (v1.length : Int)) ((y6 (gt v1 (W ((W ((W ((W (((U ((W (v3 + v5)))).fdiv 2))) + v4)) - 1)) - (W (((U ((W (v88 + v89)))).fdiv 2)))))) (gt v1 (W (((U ((W (v88 + v89)))).fdiv 2))))).bind fun y94 => ((if (!(decide (y94 < 0))) = true then ((z0f φ v1 v3 v4 v5 y6 k56 n90) (W ((W (((U ((W (v88 + v89)))).fdiv 2))) + 1)) v89) else ((z0f φ v1 v3 v4 v5 y6 k56 n90) v88 (W (((U ((W (v88 + v89)))).fdiv 2)))))))) else (k56 v88))
def z0r (φ : Nat) (v1 : (List Ref)) (v3 : Int) (v4 : Int) (v5 : Int) (y6 : (Ref → Ref → Option Int)) (y7 : ((List Ref) → Int → Int → Int → (Ref → Ref → Option Int) → Option (List Ref))) (v52 : Int) (v53 : Int) : Option (List Ref) := (z0f φ v1 v3 v4 v5 y6 (z0u φ v1 v3 v4 v5 y6 y7) φ v52 v53)
def za : Nat → (List Ref) → Int → Int → Int → (Ref → Ref → Option Int) → Option (List Ref)
  | 0, _, _, _, _, _ => none
  | φ + 1, v1, v3, v4, v5, y6 => (if ((W (v4 - v3)) == 1) = true then (z0e φ v1 v3 y6 (z07 φ v1 v3) φ v4 v5) else (if ((W (v5 - v4)) == 1) = true then (z09 φ v1 v4 y6 (z0b φ v1 v4) φ v3 v4) else (if (decide ((W (((U ((W (v3 + v5)))).fdiv 2))) < v4)) = true then ((z0r φ v1 v3 v4 v5 y6 (za φ)) (W ((W ((W (((U ((W (v3 + v5)))).fdiv 2))) + v4)) - v5)) (W (((U ((W (v3 + v5)))).fdiv 2)))) else ((z0r φ v1 v3 v4 v5 y6 (za φ)) v3 v4))))
def z2x (φ : Nat) (v12 : Int) (k14 : (Int → (List Ref) → Option (List Ref))) (v19 : (List Ref)) : Option (List Ref) := (k14 (W (v12 * 2)) v19)
def z1p (φ : Nat) (v3 : Int) (y4 : (Ref → Ref → Option Int)) (v12 : Int) (k14 : (Int → (List Ref) → Option (List Ref))) (v16 : Int) (v17 : (List Ref)) : Option (List Ref) := (if (decide ((W (v16 + v12)) < v3)) = true then (za φ v17 v16 (W (v16 + v12)) v3 y4).bind fun y22 => (((z2x φ v12 k14) y22)) else ((z2x φ v12 k14) v17))
def z2n (φ : Nat) (v3 : Int) (y4 : (Ref → Ref → Option Int)) (v12 : Int) (k18 : (Int → (List Ref) → Option (List Ref))) : Nat → Int → Int → (List Ref) → Option (List Ref)
  | 0, _, _, _ => none
  | n29 + 1, v26, v27, v28 => (if (decide (v27 ≤ v3)) = true then (za φ v28 v26 (W (v26 + v12)) v27 y4).bind fun y31 => (((z2n φ v3 y4 v12 k18 n29) v27 (W (v27 + (W (2 * v12)))) y31)) else (k18 v26 v28))
def zk (φ : Nat) (v3 : Int) (y4 : (Ref → Ref → Option Int)) : Nat → Int → (List Ref) → Option (List Ref)
  | 0, _, _ => none
  | n14 + 1, v12, v13 => (if (decide (v12 < v3)) = true then (z2n φ v3 y4 v12 (z1p φ v3 y4 v12 (zk φ v3 y4 n14)) φ 0 (W (2 * v12)) v13) else (some v13))
def z12 (φ : Nat) (v3 : Int) (y4 : (Ref → Ref → Option Int)) (v5 : Int) (v6 : (List Ref)) : Option (List Ref) := (z1w φ v6 v5 v3 y4).bind fun y8 => ((zk φ v3 y4 φ 20 y8))
def z1o (φ : Nat) (v3 : Int) (y4 : (Ref → Ref → Option Int)) (k7 : (Int → (List Ref) → Option (List Ref))) : Nat → Int → Int → (List Ref) → Option (List Ref)
  | 0, _, _, _ => none
  | n38 + 1, v35, v36, v37 => (if (decide (v36 ≤ v3)) = true then (z1w φ v37 v35 v36 y4).bind fun y40 => (((z1o φ v3 y4 k7 n38) v36 (W (v36 + 20)) y40)) else (k7 v35 v37))
def z5w (φ : Nat) (v1 : (List Ref)) (v3 : Int) (y4 : (Ref → Ref → Option Int)) : Option (List Ref) := (z1o φ v3 y4 (z12 φ v3 y4) φ 0 20 v1)
def z47 (φ : Nat) (v1 : (List Ref)) (y3 : (Ref → Ref → Option Int)) : Option (List Ref) := (z5w φ v1 (v1.length : Int) y3).bind fun y4 => ((some y4))
def z2l (φ : Nat) (v35 : (List Ref)) : Option ((List Ref)) := (z47 φ v35 (fun a b => z43 φ a b)).bind fun y38 => ((some y38))
def z4j (φ : Nat) (v42 : Int) (k45 : (Int → (List Ref) → Option ((List Ref)))) (v48 : (List Ref)) : Option ((List Ref)) := (k45 (W (v42 + 1)) v48)
def z1y (φ : Nat) (v2 : (List zo)) (v12 : (List (Int × Bool))) (y30 : ((List Int))) (k37 : ((List Ref) → Option ((List Ref)))) : Nat → Int → (List Ref) → Option ((List Ref))
  | 0, _, _ => none
  | n45 + 1, v42, v43 => (if (decide (v42 < (y30.length : Int))) = true then ck ((0 : Int) ≤ v42 ∧ v42 < (y30.length : Int)) ((if (!((mget v12 (gt y30 v42)).getD false)) = true then ck ((0 : Int) ≤ (gt y30 v42) ∧ (gt y30 v42) < (v2.length : Int)) (ck (fits (v43.length + [(gt v2 (gt y30 v42)).fRef].length) 16) (((z4j φ v42 (z1y φ v2 v12 y30 k37 n45)) (v43 ++ [(gt v2 (gt y30 v42)).fRef])))) else ((z4j φ v42 (z1y φ v2 v12 y30 k37 n45)) v43))) else (k37 v43))
def z3o (φ : Nat) (v1 : Pool) (v2 : (List zo)) (v12 : (List (Int × Bool))) : Option ((List Ref)) := (z8t φ v1 v2 3).bind fun y15 => ((z8t φ v1 v2 4).bind fun y21 => ((z9y φ [y15, y21]).bind fun y30 => ((z1y φ v2 v12 y30 (z2l φ) φ 0 ([] : List Ref)))))
def z2u (φ : Nat) (y7 : ((List (Nat → Int)))) (k13 : ((List (Int × Bool)) → Option ((List Ref)))) : Nat → Int → (List (Int × Bool)) → Option ((List Ref))
  | 0, _, _ => none
  | n58 + 1, v56, v57 => (if (decide (v56 < (y7.length : Int))) = true then ck ((0 : Int) ≤ v56 ∧ v56 < (y7.length : Int)) (((z2u φ y7 k13 n58) (W (v56 + 1)) (mset (mset v57 ((gt y7 v56) 0) true) ((gt y7 v56) 1) true))) else (k13 v57))
def z6j (φ : Nat) (v1 : Pool) (v2 : (List zo)) : Option ((List Ref)) := (z5g φ v1).bind fun y4 => ((if (y4 != 0) = true then (some ([] : List Ref)) else (z5t φ v1 v2).bind fun y7 => ((z2u φ y7 (z3o φ v1 v2) φ 0 ([] : List (Int × Bool))))))
def zdt (r : ((List Ref))) (x : VP) (news : List HP) : Prop := ∃ sv0, x = eqv sv0 ∧ news = [row 43 eRef 2 r sv0]
def z6w (φ : Nat) : Option (Bool) := (some true)
def z86 (φ : Nat) (v1 : (List Ref)) (v2 : (List Ref)) (k4 : (Option (Bool))) : Nat → Int → Option (Bool)
  | 0, _ => none
  | n6 + 1, v5 => (if (decide (v5 < (v1.length : Int))) = true then ck ((0 : Int) ≤ v5 ∧ v5 < (v1.length : Int)) (ck ((0 : Int) ≤ v5 ∧ v5 < (v2.length : Int)) ((if (!(zdi (gt v1 v5) (gt v2 v5))) = true then (some false) else ((z86 φ v1 v2 k4 n6) (W (v5 + 1)))))) else k4)
def zc1 (φ : Nat) (v1 : (List Ref)) (v2 : (List Ref)) : Option (Bool) := (if ((v1.length : Int) != (v2.length : Int)) = true then (some false) else (z86 φ v1 v2 (z6w φ) φ 0))
def zdp (φ : Nat)  : Option (Bool) := (zcs φ).bind fun y1 => ((z90 φ 1 100 1).bind fun y6 => ((z91 φ 1 111 3).bind fun y10 => ((z90 φ 1 100 1).bind fun y15 => ((z91 φ 1 161 3).bind fun y19 => ((z90 φ 1 100 0).bind fun y24 => ((z90 φ 2 120 0).bind fun y28 => ((z91 φ 1 119 0).bind fun y32 => ((z91 φ 2 130 0).bind fun y36 => ((z57 φ y1 [y6, y10]).bind fun y41 => ((zag φ y1 [y6, y10] 0 500).bind fun y46 => ((zag φ y1 [y15, y19] 0 500).bind fun y51 => ((zcu φ y1 [y24, y28, y32, y36] 0 108).bind fun y56 => ((zcu φ y1 [y24, y28, y32, y36] 0 109).bind fun y57 => ((z57 φ y1 [y24, y28, y32, y36]).bind fun y58 => ((z9m φ y41 [(z4.mk 0 2 0 1 105 3 (Ref.mk 0 1) (Ref.mk 1 1))]).bind fun y64 => (ck ((((!y64) || ((y58.length : Int) != 2)) = false) → ((0 : Int) ≤ 0 ∧ 0 < (y58.length : Int))) (ck (((((!y64) || ((y58.length : Int) != 2)) || ((gt y58 0).fAt != 109)) = false) → ((0 : Int) ≤ 1 ∧ 1 < (y58.length : Int))) ((if ((((!y64) || ((y58.length : Int) != 2)) || ((gt y58 0).fAt != 109)) || ((gt y58 1).fAt != 125)) = true then (some false) else (z3d ((y46.2 == 0) = true) (zfm φ y46.1 [(z05.mk 0 (Span.mk 0 105) (Ref.mk 0 0)), (z05.mk 1 (Span.mk 105 500) (Ref.mk 1 1))])).bind fun y93 => ((z3d (((((y46.2 == 0) && y93) && (y51.2 == 0)) && ((y51.1.length : Int) == 1)) = true) (z57 φ y1 [y15, y19])).bind fun y105 => ((z3d ((((((y46.2 == 0) && y93) && (y51.2 == 0)) && ((y51.1.length : Int) == 1)) && ((y105.length : Int) == 0)) = true) (z6j φ y1 [y15, y19])).bind fun y113 => ((z3d ((((((y46.2 == 0) && y93) && (y51.2 == 0)) && ((y51.1.length : Int) == 1)) && ((y105.length : Int) == 0)) = true) (zc1 φ y113 [(Ref.mk 0 1), (Ref.mk 1 1)])).bind fun y120 => ((some ((((((((((y46.2 == 0) && y93) && (y51.2 == 0)) && ((y51.1.length : Int) == 1)) && ((y105.length : Int) == 0)) && y120) && (y56.2 == 0)) && (y56.1 == 0)) && (y57.2 == 0)) && (y57.1 == 1))))))))))))))))))))))))))
def z4t (φ : Nat) : Option (Bool) := (some true)
def z3z (φ : Nat) (v1 : Pool) (k38 : (Option (Bool))) : Nat → Int → Option (Bool)
  | 0, _ => none
  | n40 + 1, v39 => (if (decide (v39 < (v1.fRailways.length : Int))) = true then ck ((0 : Int) ≤ v39 ∧ v39 < (v1.fRailways.length : Int)) ((if (decide (100 < (((gt v1.fRailways v39).fCalendar.fHolidays).length : Int))) = true then (some false) else ((z3z φ v1 k38 n40) (W (v39 + 1))))) else k38)
def z8y (φ : Nat) (v1 : Pool) : Option (Bool) := (if ((((((decide (16 < (v1.fNetwork.fPlaces.length : Int)) || decide (40 < (v1.fNetwork.fEdges.length : Int))) || decide (8 < (v1.fFleet.fWagons.length : Int))) || decide (8 < (v1.fReaders.length : Int))) || decide (100 < (v1.fFleet.fSwaps.length : Int))) || decide (100 < (v1.fFleet.fWashes.length : Int))) || decide (17 < (v1.fRailways.length : Int))) = true then (some false) else (z3z φ v1 (z4t φ) φ 0))
def z4s (φ : Nat) : Option (Bool) := (some true)
def z42 (φ : Nat) (v1 : (List zo)) (k4 : (Option (Bool))) : Nat → Int → Option (Bool)
  | 0, _ => none
  | n6 + 1, v5 => (if (decide (v5 < (v1.length : Int))) = true then ck ((0 : Int) ≤ v5 ∧ v5 < (v1.length : Int)) ((if (decide (40 < (((gt v1 v5).fItem.fParts).length : Int)) || decide (2000 < (((gt v1 v5).fItem.fText).size : Int))) = true then (some false) else ((z42 φ v1 k4 n6) (W (v5 + 1))))) else k4)
def z7b (φ : Nat) (v1 : (List zo)) (v2 : Int) : Option (Bool) := (if (decide (v2 < (v1.length : Int))) = true then (some false) else (z42 φ v1 (z4s φ) φ 0))
def zdg (φ : Nat) (v1 : Pool) (v2 : (List zo)) : Option (Bool) := (z8y φ v1).bind fun y4 => ((z3d (y4 = true) (z7b φ v2 60)).bind fun y7 => ((some (y4 && y7))))
def z2s (φ : Nat) : Option (Bool) := (some true)
def z4d (φ : Nat) (v3 : Int) (k4 : (Int → Option (Bool))) : Option (Bool) := (k4 (W (v3 + 1)))
def z4f (φ : Nat) (v1 : (List zo)) (v3 : Int) (k6 : (Option (Bool))) : Nat → Int → Option (Bool)
  | 0, _ => none
  | n8 + 1, v7 => (if (decide (v7 < v3)) = true then ck ((0 : Int) ≤ v3 ∧ v3 < (v1.length : Int)) (ck ((0 : Int) ≤ v7 ∧ v7 < (v1.length : Int)) ((if (zdi ((gt v1 v3).fRef) ((gt v1 v7).fRef)) = true then (some false) else ((z4f φ v1 v3 k6 n8) (W (v7 + 1)))))) else k6)
def z2j (φ : Nat) (v1 : (List zo)) (k2 : (Option (Bool))) : Nat → Int → Option (Bool)
  | 0, _ => none
  | n4 + 1, v3 => (if (decide (v3 < (v1.length : Int))) = true then (z4f φ v1 v3 (z4d φ v3 (z2j φ v1 k2 n4)) φ 0) else k2)
def z8q (φ : Nat) (v1 : (List zo)) : Option (Bool) := (z2j φ v1 (z2s φ) φ 0)
def z5a (φ : Nat) (v1 : Int) (v2 : Int) (v3 : Int) : Option (Bool) := (some (decide (v2 ≤ v1) && decide (v1 ≤ v3)))
def zba (φ : Nat) (v1 : z8g) : Option (Bool) := (z5a φ v1.fKind 1 5).bind fun y3 => ((z3d ((!y3) = false) (z5a φ v1.fRailway 0 15)).bind fun y7 => ((if ((!y3) || (!y7)) = true then (some false) else (if (v1.fKind == 3) = true then (z5a φ v1.fOther 0 15).bind fun y12 => ((some (y12 && (v1.fOther != v1.fRailway)))) else (some (v1.fOther == (-1)))))))
def zc5 (φ : Nat) (v1 : Edge) (v2 : Int) : Option (Bool) := (z5a φ v1.fA 0 (W (v2 - 1))).bind fun y4 => ((z3d (y4 = true) (z5a φ v1.fB 0 (W (v2 - 1)))).bind fun y10 => ((z3d (((y4 && y10) && (v1.fA != v1.fB)) = true) (z5a φ v1.fRailway 0 15)).bind fun y21 => ((z3d ((((y4 && y10) && (v1.fA != v1.fB)) && y21) = true) (z5a φ v1.fMinutes 1 100000)).bind fun y26 => ((z3d (((((y4 && y10) && (v1.fA != v1.fB)) && y21) && y26) = true) (z5a φ v1.fKm 0 10000)).bind fun y31 => ((some (((((y4 && y10) && (v1.fA != v1.fB)) && y21) && y26) && y31)))))))
def z6b (φ : Nat) : Option (Int) := (some 0)
def z65 (φ : Nat) (v1 : z7s) (k10 : (Option (Int))) : Nat → Int → Option (Int)
  | 0, _ => none
  | n12 + 1, v11 => (if (decide (v11 < (v1.fEdges.length : Int))) = true then ck ((0 : Int) ≤ v11 ∧ v11 < (v1.fEdges.length : Int)) ((zc5 φ (gt v1.fEdges v11) (v1.fPlaces.length : Int)).bind fun y15 => ((if (!y15) = true then (some 1) else ((z65 φ v1 k10 n12) (W (v11 + 1)))))) else k10)
def z5z (φ : Nat) (v1 : z7s) : Option (Int) := (z65 φ v1 (z6b φ) φ 0)
def z6a (φ : Nat) (v1 : z7s) (k9 : (Option (Int))) : Nat → Int → Option (Int)
  | 0, _ => none
  | n18 + 1, v17 => (if (decide (v17 < (v1.fPlaces.length : Int))) = true then ck ((0 : Int) ≤ v17 ∧ v17 < (v1.fPlaces.length : Int)) ((zba φ (gt v1.fPlaces v17)).bind fun y21 => ((if (!y21) = true then (some 1) else ((z6a φ v1 k9 n18) (W (v17 + 1)))))) else k9)
def zbh (φ : Nat) (v1 : z7s) : Option (Int) := (if (decide (512 < (v1.fPlaces.length : Int)) || decide (2048 < (v1.fEdges.length : Int))) = true then (some 2) else (z6a φ v1 (z5z φ v1) φ 0))
def z2c (φ : Nat) (v1 : Int) (v2 : Int) (v3 : Int) : Option (Bool) := (some (decide (v2 ≤ v1) && decide (v1 ≤ v3)))
def za4 (φ : Nat) (v1 : z6c) : Option (Bool) := (z2c φ v1.fLoad 0 1000000).bind fun y3 => ((z3d (y3 = true) (z2c φ v1.fTare 0 1000000)).bind fun y7 => ((z3d ((y3 && y7) = true) (z2c φ v1.fLength 0 1000000)).bind fun y12 => ((z3d (((y3 && y7) && y12) = true) (z2c φ v1.fBrake 0 1000000)).bind fun y17 => ((z3d ((((y3 && y7) && y12) && y17) = true) (z2c φ v1.fGauge 0 7)).bind fun y22 => ((z3d (((((y3 && y7) && y12) && y17) && y22) = true) (z2c φ v1.fLife 1 1073741824)).bind fun y27 => ((z3d ((((((y3 && y7) && y12) && y17) && y22) && y27) = true) (z2c φ v1.fFloor 0 100)).bind fun y32 => ((some ((((((y3 && y7) && y12) && y17) && y22) && y27) && y32)))))))))
def z9i (φ : Nat) (v1 : zd8) (v2 : Int) : Option (Bool) := (z2c φ v1.fType 0 (W (v2 - 1))).bind fun y4 => ((z3d (y4 = true) (z2c φ v1.fOwner 0 63)).bind fun y8 => ((z3d ((y4 && y8) = true) (z2c φ v1.fHome 0 511)).bind fun y13 => ((z3d (((y4 && y8) && y13) = true) (z2c φ v1.fBuilt 0 1073741824)).bind fun y18 => ((z3d ((((y4 && y8) && y13) && y18) = true) (z2c φ v1.fWorth 0 1099511627776)).bind fun y23 => ((some ((((y4 && y8) && y13) && y18) && y23)))))))
def z76 (φ : Nat) : Option (Int) := (some 0)
def z6e (φ : Nat) (v1 : (List Wash)) (k4 : (Option (Int))) : Nat → Int → (List Bool) → Option (Int)
  | 0, _, _ => none
  | n7 + 1, v5, v6 => (if (decide (v5 < (v1.length : Int))) = true then ck ((0 : Int) ≤ v5 ∧ v5 < (v1.length : Int)) ((z2c φ ((gt v1 v5).fFrom) 0 63).bind fun y11 => ((z3d ((!y11) = false) (z2c φ ((gt v1 v5).fTo) 0 63)).bind fun y15 => ((z3d ((((!y11) || (!y15)) || ((gt v1 v5).fFrom == (gt v1 v5).fTo)) = false) (z2c φ ((gt v1 v5).fMinutes) 0 100000)).bind fun y27 => ((if ((((!y11) || (!y15)) || ((gt v1 v5).fFrom == (gt v1 v5).fTo)) || (!y27)) = true then (some 1) else ck ((0 : Int) ≤ (W ((W (64 * ((gt v1 v5).fFrom))) + ((gt v1 v5).fTo))) ∧ (W ((W (64 * ((gt v1 v5).fFrom))) + ((gt v1 v5).fTo))) < (v6.length : Int)) ((if (gt v6 (W ((W (64 * ((gt v1 v5).fFrom))) + ((gt v1 v5).fTo)))) = true then (some 1) else ((z6e φ v1 k4 n7) (W (v5 + 1)) (z2o v6 (W ((W (64 * ((gt v1 v5).fFrom))) + ((gt v1 v5).fTo))) true))))))))) else k4)
def zap (φ : Nat) (v1 : (List Wash)) : Option (Int) := ck (zm9 4096 1) ((z6e φ v1 (z76 φ) φ 0 (List.replicate (4096 : Int).toNat (false : Bool))))
def z58 (φ : Nat) (v1 : z8p) : Option (Int) := (zap φ v1.fWashes).bind fun y22 => ((some y22))
def z66 (φ : Nat) (v1 : z8p) (k21 : (Option (Int))) : Nat → Int → Option (Int)
  | 0, _ => none
  | n24 + 1, v23 => (if (decide (v23 < (v1.fSwaps.length : Int))) = true then ck ((0 : Int) ≤ v23 ∧ v23 < (v1.fSwaps.length : Int)) ((z2c φ ((gt v1.fSwaps v23).fWanted) 0 (W ((v1.fTypes.length : Int) - 1))).bind fun y28 => ((z3d ((!y28) = false) (z2c φ ((gt v1.fSwaps v23).fGiven) 0 (W ((v1.fTypes.length : Int) - 1)))).bind fun y36 => ((z3d ((((!y28) || (!y36)) || ((gt v1.fSwaps v23).fWanted == (gt v1.fSwaps v23).fGiven)) = false) (z2c φ ((gt v1.fSwaps v23).fCost) 0 1000000000)).bind fun y48 => ((if ((((!y28) || (!y36)) || ((gt v1.fSwaps v23).fWanted == (gt v1.fSwaps v23).fGiven)) || (!y48)) = true then (some 1) else ((z66 φ v1 k21 n24) (W (v23 + 1)))))))) else k21)
def z5e (φ : Nat) (v1 : z8p) : Option (Int) := (z66 φ v1 (z58 φ v1) φ 0)
def z6f (φ : Nat) (v1 : z8p) (k20 : (Option (Int))) : Nat → Int → Option (Int)
  | 0, _ => none
  | n53 + 1, v52 => (if (decide (v52 < (v1.fWagons.length : Int))) = true then ck ((0 : Int) ≤ v52 ∧ v52 < (v1.fWagons.length : Int)) ((z9i φ (gt v1.fWagons v52) (v1.fTypes.length : Int)).bind fun y56 => ((if (!y56) = true then (some 1) else ((z6f φ v1 k20 n53) (W (v52 + 1)))))) else k20)
def z5b (φ : Nat) (v1 : z8p) : Option (Int) := (z6f φ v1 (z5e φ v1) φ 0)
def z64 (φ : Nat) (v1 : z8p) (k19 : (Option (Int))) : Nat → Int → Option (Int)
  | 0, _ => none
  | n59 + 1, v58 => (if (decide (v58 < (v1.fTypes.length : Int))) = true then ck ((0 : Int) ≤ v58 ∧ v58 < (v1.fTypes.length : Int)) ((za4 φ (gt v1.fTypes v58)).bind fun y62 => ((if (!y62) = true then (some 1) else ((z64 φ v1 k19 n59) (W (v58 + 1)))))) else k19)
def zb8 (φ : Nat) (v1 : z8p) : Option (Int) := (if (((decide (32 < (v1.fTypes.length : Int)) || decide (4096 < (v1.fWagons.length : Int))) || decide (1024 < (v1.fSwaps.length : Int))) || decide (4096 < (v1.fWashes.length : Int))) = true then (some 2) else (z64 φ v1 (z5b φ v1) φ 0))
def z7k (φ : Nat) : Option (Bool) := (some true)
def z7n (φ : Nat) (v1 : Pool) (k5 : (Option (Bool))) : Nat → Int → Option (Bool)
  | 0, _ => none
  | n7 + 1, v6 => (if (decide (v6 < (v1.fFleet.fWagons.length : Int))) = true then ck ((0 : Int) ≤ v6 ∧ v6 < (v1.fFleet.fWagons.length : Int)) ((if (decide ((v1.fNetwork.fPlaces.length : Int) ≤ (gt v1.fFleet.fWagons v6).fHome)) = true then (some false) else ((z7n φ v1 k5 n7) (W (v6 + 1))))) else k5)
def z6o (φ : Nat) (v1 : Pool) : Option (Bool) := (z7n φ v1 (z7k φ) φ 0)
def z6r (φ : Nat) (v1 : Pool) (k4 : (Option (Bool))) : Nat → Int → Option (Bool)
  | 0, _ => none
  | n12 + 1, v11 => (if (decide (v11 < (v1.fShippers.length : Int))) = true then ck ((0 : Int) ≤ v11 ∧ v11 < (v1.fShippers.length : Int)) ((z2c φ ((gt v1.fShippers v11).fPlace) 0 (W ((v1.fNetwork.fPlaces.length : Int) - 1))).bind fun y15 => (ck (((!y15) = false) → ((0 : Int) ≤ (gt v1.fShippers v11).fPlace ∧ (gt v1.fShippers v11).fPlace < (v1.fNetwork.fPlaces.length : Int))) ((if ((!y15) || ((gt v1.fNetwork.fPlaces ((gt v1.fShippers v11).fPlace)).fKind != 4)) = true then (some false) else ((z6r φ v1 k4 n12) (W (v11 + 1))))))) else k4)
def z6n (φ : Nat) (v1 : Pool) : Option (Bool) := (z6r φ v1 (z6o φ v1) φ 0)
def z6q (φ : Nat) (v1 : Pool) (k3 : (Option (Bool))) : Nat → Int → Option (Bool)
  | 0, _ => none
  | n33 + 1, v32 => (if (decide (v32 < (v1.fReaders.length : Int))) = true then ck ((0 : Int) ≤ v32 ∧ v32 < (v1.fReaders.length : Int)) ((z2c φ ((gt v1.fReaders v32).fPlace) 0 (W ((v1.fNetwork.fPlaces.length : Int) - 1))).bind fun y37 => ((if ((((!y37) || decide ((gt v1.fReaders v32).fLow < (-1000))) || decide ((gt v1.fReaders v32).fHigh < (gt v1.fReaders v32).fLow)) || decide (1000 < (gt v1.fReaders v32).fHigh)) = true then (some false) else ((z6q φ v1 k3 n33) (W (v32 + 1)))))) else k3)
def zce (φ : Nat) (v1 : Pool) : Option (Bool) := (z6q φ v1 (z6n φ v1) φ 0)
def z6v (φ : Nat) : Option (Bool) := (some true)
def z6p (φ : Nat) (v1 : Pool) (k4 : (Option (Bool))) : Nat → Int → Option (Bool)
  | 0, _ => none
  | n6 + 1, v5 => (if (decide (v5 < (v1.fNetwork.fEdges.length : Int))) = true then ck ((0 : Int) ≤ v5 ∧ v5 < (v1.fNetwork.fEdges.length : Int)) ((if (decide ((v1.fRailways.length : Int) ≤ (gt v1.fNetwork.fEdges v5).fRailway)) = true then (some false) else ((z6p φ v1 k4 n6) (W (v5 + 1))))) else k4)
def z60 (φ : Nat) (v1 : Pool) : Option (Bool) := (z6p φ v1 (z6v φ) φ 0)
def z6d (φ : Nat) (v1 : Pool) (k3 : (Option (Bool))) : Nat → Int → Option (Bool)
  | 0, _ => none
  | n11 + 1, v10 => (if (decide (v10 < (v1.fNetwork.fPlaces.length : Int))) = true then ck ((0 : Int) ≤ v10 ∧ v10 < (v1.fNetwork.fPlaces.length : Int)) ((if (decide ((v1.fRailways.length : Int) ≤ (gt v1.fNetwork.fPlaces v10).fRailway) || decide ((v1.fRailways.length : Int) ≤ (gt v1.fNetwork.fPlaces v10).fOther)) = true then (some false) else ((z6d φ v1 k3 n11) (W (v10 + 1))))) else k3)
end Px
end
section
set_option linter.unusedVariables false
set_option linter.unusedSimpArgs false
set_option maxHeartbeats 4000000
set_option maxRecDepth 100000
namespace Px
open Go Go.RowKit
def zbd (φ : Nat) (v1 : Pool) : Option (Bool) := (z6d φ v1 (z60 φ v1) φ 0)
def z7w (φ : Nat) : Option (Int) := (some 0)
def z6t (φ : Nat) (v1 : z2w) (k4 : (Option (Int))) : Nat → Int → Option (Int)
  | 0, _ => none
  | n6 + 1, v5 => (if (decide (v5 < (v1.fHolidays.length : Int))) = true then ck ((0 : Int) ≤ v5 ∧ v5 < (v1.fHolidays.length : Int)) (ck ((((decide ((gt v1.fHolidays v5) < 0) || decide (745654 < (gt v1.fHolidays v5))) = false) ∧ (decide (0 < v5) = true)) → ((0 : Int) ≤ (W (v5 - 1)) ∧ (W (v5 - 1)) < (v1.fHolidays.length : Int))) ((if ((decide ((gt v1.fHolidays v5) < 0) || decide (745654 < (gt v1.fHolidays v5))) || (decide (0 < v5) && decide ((gt v1.fHolidays v5) ≤ (gt v1.fHolidays (W (v5 - 1)))))) = true then (some 1) else ((z6t φ v1 k4 n6) (W (v5 + 1)))))) else k4)
def z6u (φ : Nat) (v1 : z2w) : Option (Int) := (z6t φ v1 (z7w φ) φ 0)
def z69 (φ : Nat) (v1 : z2w) (k3 : (Option (Int))) : Nat → Int → Option (Int)
  | 0, _ => none
  | n29 + 1, v28 => (if (decide (v28 < 7)) = true then ck ((0 : Int) ≤ v28 ∧ v28 < 7) ((if ((decide ((v1.fOpen ((v28 : Int).toNat)).fFrom < 0) || decide ((v1.fOpen ((v28 : Int).toNat)).fTo < (v1.fOpen ((v28 : Int).toNat)).fFrom)) || decide (1440 < (v1.fOpen ((v28 : Int).toNat)).fTo)) = true then (some 1) else ((z69 φ v1 k3 n29) (W (v28 + 1))))) else k3)
def zbo (φ : Nat) (v1 : z2w) : Option (Int) := (z69 φ v1 (z6u φ v1) φ 0)
def z62 (φ : Nat) (v4 : Int) : Option (Int) := (some v4)
def z80 (φ : Nat) (v3 : Int) (v6 : Int) (v7 : Int) (k9 : (Int → Int → Int → Option (Int))) (v11 : Int) : Option (Int) := ck (v3 ≠ 0) ((k9 ((U (v6 + v6)).tmod v3) (U (v7.tdiv 2)) v11))
def z44 (φ : Nat) (v3 : Int) (k5 : (Int → Option (Int))) : Nat → Int → Int → Int → Option (Int)
  | 0, _, _, _ => none
  | n9 + 1, v6, v7, v8 => (if (decide (0 < v7)) = true then (if ((v7.tmod 2) == 1) = true then ck (v3 ≠ 0) (((z80 φ v3 v6 v7 (z44 φ v3 k5 n9)) ((U (v8 + v6)).tmod v3))) else ((z80 φ v3 v6 v7 (z44 φ v3 k5 n9)) v8)) else (k5 v8))
def za8 (φ : Nat) (v1 : Int) (v2 : Int) (v3 : Int) : Option (Int) := (z44 φ v3 (z62 φ) φ v1 v2 0)
def z7o (φ : Nat) (v3 : Int) : Option (Int) := (some v3)
def z94 (φ : Nat) (v5 : Int) (v6 : Int) (k8 : (Int → Int → Int → Option (Int))) (v10 : Int) : Option (Int) := (za8 φ v5 v5 2305843009213690799).bind fun y12 => ((k8 y12 (U (v6.tdiv 2)) v10))
def z5k (φ : Nat) (k4 : (Int → Option (Int))) : Nat → Int → Int → Int → Option (Int)
  | 0, _, _, _ => none
  | n8 + 1, v5, v6, v7 => (if (decide (0 < v6)) = true then (if ((v6.tmod 2) == 1) = true then (za8 φ v7 v5 2305843009213690799).bind fun y14 => (((z94 φ v5 v6 (z5k φ k4 n8)) y14)) else ((z94 φ v5 v6 (z5k φ k4 n8)) v7)) else (k4 v7))
def zdc (φ : Nat) (v1 : Int) (v2 : Int) : Option (Int) := (z5k φ (z7o φ) φ (v1.tmod 2305843009213690799) v2 1)
def zb9 (φ : Nat) (v1 : Int) : Option (Bool) := (z3d ((decide (2 ≤ v1) && decide (v1 < 2305843009213690799)) = true) (zdc φ v1 1152921504606845399)).bind fun y7 => ((some ((decide (2 ≤ v1) && decide (v1 < 2305843009213690799)) && (y7 == 1))))
def z2t (φ : Nat) (v1 : Pool) : Option (Int) := (if ((v1.fRailways.length : Int) == 0) = true then (some 1) else (some 0))
def z3g (φ : Nat) (v1 : Pool) (k25 : (Option (Int))) : Nat → Int → Option (Int)
  | 0, _ => none
  | n28 + 1, v27 => (if (decide (v27 < (v1.fRailways.length : Int))) = true then ck ((0 : Int) ≤ v27 ∧ v27 < (v1.fRailways.length : Int)) ((zbo φ ((gt v1.fRailways v27).fCalendar)).bind fun y31 => ((z3d ((y31 != 0) = false) (zb9 φ ((gt v1.fRailways v27).fKey))).bind fun y39 => ((if ((y31 != 0) || (!y39)) = true then (some 1) else ((z3g φ v1 k25 n28) (W (v27 + 1))))))) else k25)
def z8r (φ : Nat) (v1 : Pool) : Option (Int) := (zbh φ v1.fNetwork).bind fun y3 => ((if (y3 != 0) = true then (some y3) else (zb8 φ v1.fFleet).bind fun y5 => ((if (y5 != 0) = true then (some y5) else (if ((decide (256 < (v1.fReaders.length : Int)) || decide (256 < (v1.fShippers.length : Int))) || decide (16 < (v1.fRailways.length : Int))) = true then (some 2) else (zce φ v1).bind fun y18 => ((z3d ((!y18) = false) (zbd φ v1)).bind fun y21 => ((if ((!y18) || (!y21)) = true then (some 1) else (z3g φ v1 (z2t φ v1) φ 0)))))))))
def z8a (φ : Nat) : Option (Int) := (some (-1))
def z89 (φ : Nat) (v1 : (List zo)) (v2 : Ref) (k4 : (Option (Int))) : Nat → Int → Option (Int)
  | 0, _ => none
  | n6 + 1, v5 => (if (decide (v5 < (v1.length : Int))) = true then ck ((0 : Int) ≤ v5 ∧ v5 < (v1.length : Int)) ((if (zdi ((gt v1 v5).fRef) v2) = true then (some v5) else ((z89 φ v1 v2 k4 n6) (W (v5 + 1))))) else k4)
def zaa (φ : Nat) (v1 : (List zo)) (v2 : Ref) : Option (Int) := (z89 φ v1 v2 (z8a φ) φ 0)
def zav (φ : Nat) (v1 : Ref) (v2 : Ref) : Option (Bool) := (some (decide (v1.fRailway < v2.fRailway) || ((v1.fRailway == v2.fRailway) && decide (v1.fNo < v2.fNo))))
def z31 (φ : Nat) (v27 : Int) (y29 : ((List Ref))) : Option (Bool) := (some ((y29.length : Int) == v27))
def z34 (φ : Nat) (v2 : (List zo)) (v25 : (List Bool)) (y29 : ((List Ref))) (k34 : (Option (Bool))) : Nat → Int → Option (Bool)
  | 0, _ => none
  | n36 + 1, v35 => (if (decide (v35 < (y29.length : Int))) = true then ck ((0 : Int) ≤ v35 ∧ v35 < (y29.length : Int)) ((zaa φ v2 (gt y29 v35)).bind fun y39 => (ck ((decide (y39 < 0) = false) → ((0 : Int) ≤ y39 ∧ y39 < (v25.length : Int))) (ck ((((decide (y39 < 0) || (gt v25 y39)) = false) ∧ (decide (0 < v35) = true)) → ((0 : Int) ≤ (W (v35 - 1)) ∧ (W (v35 - 1)) < (y29.length : Int))) ((z3d (((decide (y39 < 0) || (gt v25 y39)) = false) ∧ (decide (0 < v35) = true)) (zav φ (gt y29 (W (v35 - 1))) (gt y29 v35))).bind fun y60 => ((if ((decide (y39 < 0) || (gt v25 y39)) || (decide (0 < v35) && (!y60))) = true then (some false) else ((z34 φ v2 v25 y29 k34 n36) (W (v35 + 1))))))))) else k34)
def z19 (φ : Nat) (v1 : Pool) (v2 : (List zo)) (v25 : (List Bool)) (v27 : Int) : Option (Bool) := (z6j φ v1 v2).bind fun y29 => ((z34 φ v2 v25 y29 (z31 φ v27 y29) φ 0))
def z45 (φ : Nat) (v67 : Int) (k68 : (Int → Int → Option (Bool))) (v91 : Int) : Option (Bool) := (k68 v91 (W (v67 + 1)))
def z0t (φ : Nat) (v1 : Pool) (v2 : (List zo)) (v25 : (List Bool)) (k28 : (Int → Option (Bool))) : Nat → Int → Int → Option (Bool)
  | 0, _, _ => none
  | n68 + 1, v66, v67 => (if (decide (v67 < (v2.length : Int))) = true then ck ((0 : Int) ≤ v67 ∧ v67 < (v2.length : Int)) ((z3d ((((gt v2 v67).fItem.fKind == 3) || ((gt v2 v67).fItem.fKind == 4)) = true) (z8x φ v1 ((gt v2 v67).fItem))).bind fun y81 => (ck ((((((gt v2 v67).fItem.fKind == 3) || ((gt v2 v67).fItem.fKind == 4)) && (y81 == 0)) = true) → ((0 : Int) ≤ v67 ∧ v67 < (v25.length : Int))) ((if (((((gt v2 v67).fItem.fKind == 3) || ((gt v2 v67).fItem.fKind == 4)) && (y81 == 0)) && (!(gt v25 v67))) = true then ((z45 φ v67 (z0t φ v1 v2 v25 k28 n68)) (W (v66 + 1))) else ((z45 φ v67 (z0t φ v1 v2 v25 k28 n68)) v66))))) else (k28 v66))
def z32 (φ : Nat) (v1 : Pool) (v2 : (List zo)) (v25 : (List Bool)) : Option (Bool) := (z0t φ v1 v2 v25 (z19 φ v1 v2 v25) φ 0 0)
def z33 (φ : Nat) (v1 : Pool) (v2 : (List zo)) (y20 : ((List z4))) (k26 : ((List Bool) → Option (Bool))) : Nat → Int → (List Bool) → Option (Bool)
  | 0, _, _ => none
  | n96 + 1, v94, v95 => (if (decide (v94 < (y20.length : Int))) = true then ck ((0 : Int) ≤ v94 ∧ v94 < (y20.length : Int)) ((zaa φ v2 ((gt y20 v94).fDeliver)).bind fun y99 => ((zaa φ v2 ((gt y20 v94).fReceive)).bind fun y100 => (ck (((decide (y99 < 0) || decide (y100 < 0)) = false) → ((0 : Int) ≤ y99 ∧ y99 < (v95.length : Int))) (ck ((((decide (y99 < 0) || decide (y100 < 0)) || (gt v95 y99)) = false) → ((0 : Int) ≤ y100 ∧ y100 < (v95.length : Int))) ((if ((((decide (y99 < 0) || decide (y100 < 0)) || (gt v95 y99)) || (gt v95 y100)) || (y99 == y100)) = true then (some false) else ck ((0 : Int) ≤ y99 ∧ y99 < (v95.length : Int)) (ck ((0 : Int) ≤ y100 ∧ y100 < ((z2o v95 y99 true).length : Int)) (ck ((0 : Int) ≤ y99 ∧ y99 < (v2.length : Int)) (ck ((0 : Int) ≤ y100 ∧ y100 < (v2.length : Int)) ((z8x φ v1 ((gt v2 y99).fItem)).bind fun y127 => ((z3d ((y127 != 0) = false) (z8x φ v1 ((gt v2 y100).fItem))).bind fun y131 => ((if ((((((((y127 != 0) || (y131 != 0)) || ((gt v2 y99).fItem.fKind != 3)) || ((gt v2 y100).fItem.fKind != 4)) || ((gt v2 y99).fItem.fWagon != (gt y20 v94).fWagon)) || ((gt v2 y100).fItem.fWagon != (gt v2 y99).fItem.fWagon)) || ((gt v2 y99).fItem.fPlace != (gt y20 v94).fPlace)) || ((gt v2 y100).fItem.fPlace != (gt v2 y99).fItem.fPlace)) = true then (some false) else (if ((((((gt v2 y99).fRef.fRailway != (gt y20 v94).fFrom) || ((gt v2 y100).fRef.fRailway != (gt y20 v94).fTo)) || ((gt v2 y99).fItem.fOther != (gt y20 v94).fTo)) || ((gt v2 y100).fItem.fOther != (gt y20 v94).fFrom)) || ((gt y20 v94).fFrom == (gt y20 v94).fTo)) = true then (some false) else ck ((((((decide (60 < (W ((max2 ((gt v2 y99).fItem.fFrom) ((gt v2 y100).fItem.fFrom)) - (min2 ((gt v2 y99).fItem.fFrom) ((gt v2 y100).fItem.fFrom))))) || decide ((gt y20 v94).fAt < (min2 ((gt v2 y99).fItem.fFrom) ((gt v2 y100).fItem.fFrom)))) || decide ((max2 ((gt v2 y99).fItem.fFrom) ((gt v2 y100).fItem.fFrom)) < (gt y20 v94).fAt)) || ((gt y20 v94).fCode != (max2 ((gt v2 y99).fItem.fCode) ((gt v2 y100).fItem.fCode)))) = false) ∧ (decide (0 < v94) = true)) → ((0 : Int) ≤ (W (v94 - 1)) ∧ (W (v94 - 1)) < (y20.length : Int))) ((if ((((decide (60 < (W ((max2 ((gt v2 y99).fItem.fFrom) ((gt v2 y100).fItem.fFrom)) - (min2 ((gt v2 y99).fItem.fFrom) ((gt v2 y100).fItem.fFrom))))) || decide ((gt y20 v94).fAt < (min2 ((gt v2 y99).fItem.fFrom) ((gt v2 y100).fItem.fFrom)))) || decide ((max2 ((gt v2 y99).fItem.fFrom) ((gt v2 y100).fItem.fFrom)) < (gt y20 v94).fAt)) || ((gt y20 v94).fCode != (max2 ((gt v2 y99).fItem.fCode) ((gt v2 y100).fItem.fCode)))) || (decide (0 < v94) && decide ((gt y20 v94).fAt < (gt y20 (W (v94 - 1))).fAt))) = true then (some false) else ((z33 φ v1 v2 y20 k26 n96) (W (v94 + 1)) (z2o (z2o v95 y99 true) y100 true)))))))))))))))))) else (k26 v95))
def z8h (φ : Nat) (v1 : Pool) (v2 : (List zo)) : Option (Bool) := (zdp φ).bind fun y4 => ((if (!y4) = true then (some false) else (zdg φ v1 v2).bind fun y6 => ((z3d ((!y6) = false) (z8q φ v2)).bind fun y9 => ((z3d (((!y6) || (!y9)) = false) (z8r φ v1)).bind fun y14 => ((if (((!y6) || (!y9)) || (y14 != 0)) = true then (some true) else ck (zm9 (v2.length : Int) 1) ((z57 φ v1 v2).bind fun y20 => ((z33 φ v1 v2 y20 (z32 φ v1 v2) φ 0 (List.replicate ((v2.length : Int) : Int).toNat (false : Bool)))))))))))
end Px
end
