/- A part of the proof of handoverLater_holds. Conditions: none. -/
import Derived.Test.YteljjchaealkoaaLta
import Derived.OpenShut
import Derived.MapKept
import Derived.Carry
import Derived.Lib.AppendZeros
import Derived.Laws.Slices
section
namespace Px
open Go Go.RowKit
set_option linter.unusedVariables false
theorem zc.of_eq {r : Nat → Prop} {w : World} {A B : List VP} {cs : List Value} (h : zc r w A cs) (e : A = B) : zc r w B cs := e ▸ h
theorem Opn.array {P : Program} {α : Type} [Inhabited α] {t E : TypeId} {N n m : Nat} {e : α → List VP} {R : α → Prop} (ht : P.underlying t = some (.array N E)) (hn : P.cellsOf E = n) (hm : P.cellsOf t = m) (hmn : m = N * n) (he : Opn P E n e R) :
    Opn P t m (fun f => arr N e f) (fun f : Nat → α => ∀ i, i < N → R (f i)) := by
  intro H enc w sp held fuel cs x h
  obtain ⟨xs, k, _, _, hl, hx, hel⟩ := DataW.trod_array ht h
  rw [hm] at hl
  rw [hn] at hel
  have hat : ∀ i, ∃ y : α, i < N → R y ∧ zc (fun b => b < w.heap.size) w (e y) ((cs.drop (i * n)).take n) := by
    intro i
    by_cases hi : i < N
    · have h1 := hel i hi
      rw [List.getElem?_eq_getElem (by omega)] at h1
      obtain ⟨_, y, hR, hc⟩ := he _ _ _ _ _ _ _ _ h1
      exact ⟨y, fun _ => ⟨hR, hc⟩⟩
    · exact ⟨default, fun h => absurd h hi⟩
  have hf : ∃ f : Nat → α, ∀ i, i < N → R (f i) ∧ zc (fun b => b < w.heap.size) w (e (f i)) ((cs.drop (i * n)).take n) := ⟨fun i => Classical.choose (hat i), fun i => Classical.choose_spec (hat i)⟩
  obtain ⟨f, hf⟩ := hf
  refine ⟨hl, f, fun i hi => (hf i hi).1, ?_⟩
  have key : ∀ d i, N - i = d → i ≤ N → zc (fun b => b < w.heap.size) w ((List.range' i (N - i)).flatMap fun j => e (f j)) (cs.drop (i * n)) := by
    intro d
    induction d with
    | zero =>
      intro i hd hi
      have : i = N := by omega
      subst this
      rw [Nat.sub_self]
      exact zc.tile0 (by rw [hl, hmn])
    | succ d ih =>
      intro i hd hi
      rw [hd, List.range'_succ, List.flatMap_cons]
      have h2 := ih (i + 1) (by omega) (by omega)
      rw [show N - (i + 1) = d by omega, Nat.add_mul, Nat.one_mul] at h2
      exact zc.tile (hf i (by omega)).2 h2
  have := key N 0 (by omega) (by omega)
  rw [Nat.zero_mul, List.drop_zero, Nat.sub_zero, ← List.range_eq_range'] at this
  exact this
end Px
end
section
namespace Px
open Go Go.RowKit
set_option linter.unusedVariables false
set_option linter.unusedSimpArgs false
theorem Ev.ent {s : St} {x : Operand} {A B : VP} (h : Ev s x A) (e : Ent A B) : Ev s x B := fun a r w hs => e r w _ (h a r w hs)

/-- A function value with what it brings along. -/
def fnc (f : FuncId) (Xs : List VP) : VP :=
  ⟨fun r w v => ∃ caps : Array Value, v = .func (.func f) #[] caps ∧ caps.size = Xs.length ∧ ∀ (i : Nat) (A : VP), Xs[i]? = some A → A.h r w (caps.getD i undef),
   fun h1 h2 ⟨caps, e, hl, hh⟩ => ⟨caps, e, hl, fun i A hi => A.mono h1 h2 (hh i A hi)⟩⟩
theorem FzVs.at {sv : Value} {X : VP} : ∀ {l m : List VP}, FzVs sv X l m → l.length = m.length ∧ ∀ (i : Nat) (B : VP), m[i]? = some B → ∃ A, l[i]? = some A ∧ FzV sv X A B
  | [], [], _ => ⟨rfl, fun i B h => by simp at h⟩
  | A :: l, B :: m, ⟨he, hm⟩ => by
    obtain ⟨h1, h2⟩ := FzVs.at hm
    refine ⟨by simp [h1], fun i D hi => ?_⟩
    cases i with
    | zero => simp at hi; subst hi; exact ⟨A, rfl, he⟩
    | succ i => simpa using h2 i D (by simpa using hi)
  | [], _ :: _, h => h.elim
  | _ :: _, [], h => h.elim
theorem FzV.fnc {sv : Value} {X : VP} {f : FuncId} {caps : Array Value} {Xs : List VP} (h : FzVs sv X (caps.toList.map eqv) Xs) : FzV sv X (eqv (.func (.func f) #[] caps)) (fnc f Xs) := by
  intro r w v hx hv
  simp only [eqv] at hv
  obtain ⟨h1, h2⟩ := h.at
  refine ⟨caps, hv, by simpa using h1, fun i A hi => ?_⟩
  obtain ⟨B, hB, hf⟩ := h2 i A hi
  refine hf r w _ hx ?_
  rw [List.getElem?_map, Option.map_eq_some_iff] at hB
  obtain ⟨u, hu, rfl⟩ := hB
  have : caps[i]? = some u := by simpa using hu
  simp [eqv, Array.getD_eq_getD_getElem?, this]
theorem zl1 {f : FuncId} : Ent (eqv (.func (.func f) #[] #[])) (fnc f []) := fun r w v h => ⟨#[], h, rfl, fun i A hi => by simp at hi⟩

/-- A function value that compares. -/
def fcmp (P : Program) {α : Type} (eA : α → VP) (cmp : α → α → Option Int) : VP :=
  ⟨fun ro w v => ∃ f caps, v = .func (.func f) #[] caps ∧ FnOK P f ∧ ∀ x y c, cmp x y = some c → ∀ (r : Nat → Prop) (w' : World) (vx vy : Value), (∀ b, r b → b < w'.heap.size) → (∀ b, ro b → r b) → (∀ b, ro b → w'.heap[b]? = w.heap[b]?) →
      (eA x).h r w' vx → (eA y).h r w' vy → Calls P f (#[vx, vy] ++ caps) w' (retR w' w'.heap.size r w' (fun X news => X = iv .i64 c ∧ news = [])),
   fun h1 h2 ⟨f, caps, e, hf, hh⟩ => ⟨f, caps, e, hf, fun x y c hc r w' vx vy hr hs hw => hh x y c hc r w' vx vy hr (fun b hb => hs b (h1 b hb)) (fun b hb => (hw b (h1 b hb)).trans (h2 b hb))⟩⟩
theorem zbn {P : Program} {α : Type} {eA : α → VP} {cmp : α → α → Option Int} {f : FuncId} {Xs : List VP} (hf : FnOK P f)
    (h : ∀ x y c, cmp x y = some c → z1q P f ([eA x, eA y] ++ Xs) (fun X news => X = iv .i64 c ∧ news = [])) : Ent (fnc f Xs) (fcmp P eA cmp) := by
  rintro r w v ⟨caps, rfl, hl, hh⟩
  refine ⟨f, caps, rfl, hf, fun x y c hc r' w' vx vy hr hsub hheap hx hy => ?_⟩
  refine h x y c hc r' w' (#[vx, vy] ++ caps) hr (by simp [hl]; omega) fun i A hi => ?_
  match i, hi with
  | 0, hi =>
    have e : (#[vx, vy] ++ caps).getD 0 undef = vx := by simp [Array.getD_eq_getD_getElem?, Array.getElem?_append]
    rw [e]; simp at hi; subst hi; exact hx
  | 1, hi =>
    have e : (#[vx, vy] ++ caps).getD 1 undef = vy := by simp [Array.getD_eq_getD_getElem?, Array.getElem?_append]
    rw [e]; simp at hi; subst hi; exact hy
  | i + 2, hi =>
    have hi' : Xs[i]? = some A := by simpa using hi
    have := hh i A hi'
    have e : (#[vx, vy] ++ caps).getD (i + 2) undef = caps.getD i undef := by
      rw [Array.getD_eq_getD_getElem?, Array.getD_eq_getD_getElem?, Array.getElem?_append_right (by simp)]
      rfl
    rw [e]
    exact A.mono hsub hheap this

section loud
variable {P : Program} {C : Cx P} {s : St} {K : VP → List HP → Prop} {tab : Tab} {o : Oper}
theorem zfx.gn {ζ : Type} [Inhabited ζ] (X : ζ → VP) (N : ζ → List HP) (p : Prop) [Decidable p] {j : Nat} {want : Bool} {t : Nat} (hg : o.guard = some (j, want)) (htj : tab.dst j = some t)
    (hs : (∃ g, s.slots t = some (bv g) ∧ p = (g = want)) ∨ (∃ c g, s.slots t = some (cnd c (bv g)) ∧ p = (c ∧ g = want))) (hq : p → OpT C o s fun x objs => ∃ z, x = X z ∧ objs = s.objs ++ N z)
    (h : ∀ z, K (cnd p (X z)) (s.objs ++ (N z).map fun H => when p H)) : zfx C tab o s K := by
  unfold zfx
  rw [hg]
  refine ⟨p, t, htj, hs, fun hp => ?_, fun hp => ?_⟩
  · intro a w r S Q hd hn hw hsl
    refine Oper.wp_mono ?_ (hq hp a w r S Q hd hn hw hsl)
    rintro a' w' ⟨v, r', S', x, objs', rfl, hev, hw', hx, z, rfl, rfl⟩
    have e1 : (N z).map (fun H => when p H) = N z := by
      rw [List.map_congr_left (g := id) (fun H _ => by simp [when, hp]), List.map_id]
    refine ⟨v, r', S', cnd p (X z), _, rfl, hev, ?_, ⟨fun _ => hx, fun h => absurd hp h⟩, h z⟩
    rw [e1]; exact hw'
  · refine ⟨cnd p (X default), _, fun r w => ⟨fun h => absurd h hp, fun _ => rfl⟩, fun r S w hw => ⟨S, hw.empS _ ?_⟩, h default⟩
    intro H hH
    obtain ⟨H', _, rfl⟩ := List.mem_map.1 hH
    simp [when, hp]
theorem zfx.gnb {ζ : Type} [Inhabited ζ] (X : ζ → VP) (N : ζ → List HP) (g : Bool) {j : Nat} {want : Bool} {t : Nat} (hg : o.guard = some (j, want)) (htj : tab.dst j = some t) (ht : s.slots t = some (bv g)) (hq : g = want → OpT C o s fun x objs => ∃ z, x = X z ∧ objs = s.objs ++ N z)
    (h : ∀ z, K (cnd (g = want) (X z)) (s.objs ++ (N z).map fun H => when (g = want) H)) : zfx C tab o s K := .gn X N _ hg htj (.inl ⟨g, ht, rfl⟩) hq h
end loud
theorem z4p (x : Int) : z9f (eI64 x) := ⟨z7, trivial⟩
section ops
variable {P : Program} {C : Cx P} {s : St} {dst : Option Tmp} {ty : TypeId} {pos : String} {after : Array Edge} {guard : Option (Nat × Bool)} {K : VP → List HP → Prop}
/-- A call of a comparing function value. -/
theorem z8x {α : Type} {eA : α → VP} {cmp : α → α → Option Int} {fo a b : Operand} {ts : Array TypeId} {x y : α} {c : Int} (hfo : Ev s fo (fcmp P eA cmp)) (ha : Ev s a (eA x)) (hb : Ev s b (eA y)) (hc : cmp x y = some c) :
    OpQ C ⟨dst, .call { callee := .value fo, args := #[a, b], argTypes := ts }, ty, pos, after, guard⟩ s (iv .i64 c) := by
  intro t w r S Q hd hn hw hs
  obtain ⟨f, caps, hv, ⟨fn, h1, h2, h3⟩, hcall⟩ := hfo t r w hs
  unfold Oper.wp
  have hrun : (execOp t.eval ⟨dst, .call { callee := .value fo, args := #[a, b], argTypes := ts }, ty, pos, after, guard⟩).run P w = .ok (.enter f (#[t.eval a, t.eval b] ++ caps)) w := by
    simp [execOp, resolve, hv, Deferred.ofValue, invoke, z9h h1 h2 h3]
  rw [hrun, Oper.upon_enter]
  refine (hcall x y c hc r w _ _ hw.old (fun _ h => h) (fun _ _ => rfl) (ha t r w hs) (hb t r w hs)).mono ?_
  rintro e w' ⟨v, X, news, r', S', rfl, he, hw', hx, rfl, rfl⟩
  have hx' : v = .int .i64 c := hx
  refine ⟨v, r, _, _, _, rfl, ⟨fun _ h => h, fun b hb => he.2.1 b hb, fun _ h => .inl h⟩, hw.join hw' r (fun _ h => h) (fun b hb => .inl hb) (fun i H hi => by simp at hi), hx', rfl, by simp⟩

/-- A function that changes a slice that it is given. -/
def MutT (P : Program) (f : FuncId) (args : List VP) {α : Type} (E : TypeId) (e : α → List VP) (sz : Nat) (l : List α) (sv : Value) (K : VP → List α → Prop) : Prop :=
  ∀ w0 base, z8t P w0 base f args [row E e sz l sv] fun x objs => ∃ l', objs = [row E e sz l' sv] ∧ K x l'
theorem z3d {α : Type} {E : TypeId} {e : α → List VP} {sz : Nat} {l : List α} {sv : Value} {f : FuncId} {as : Array Operand} {ts : Array TypeId} {args : List VP} {K' : VP → List α → Prop} (i : Nat) (ho : s.objs[i]? = some (row E e sz l sv))
    (hfl : ∀ x, ∀ A ∈ e x, A.flat) (hf : FnOK P f) (ha : Args s as.toList args) (h : MutT P f args E e sz l sv K') (k : ∀ x l', K' x l' → x.flat ∧ K x (s.objs.set i (row E e sz l' sv))) :
    OpT C ⟨dst, .call { callee := .value (.func f), args := as, argTypes := ts }, ty, pos, after, guard⟩ s K :=
  .calls hf (Ev.func f) fun a r S w hd hw hs => by
    have hi : i < s.objs.length := (List.getElem?_eq_some_iff.1 ho).1
    obtain ⟨h1, h2⟩ := ha.ok hs
    let O : Nat → Prop := fun b => ∃ j, j ≠ i ∧ S j b
    let r' : Nat → Prop := fun b => r b ∨ O b
    have hrr : ∀ b, r b → r' b := fun b hb => .inl hb
    have hO : ∀ b, O b → ¬ r b := fun b ⟨j, _, hb⟩ => (hw.own j b hb).2.2.2
    have hwi : WInv C.w0 C.base [row E e sz l sv] r' (fun j b => j = 0 ∧ S i b) w := by
      refine ⟨hw.below, hw.size, ?_, ?_, ?_, ?_⟩
      · intro j B hj
        match j, hj with
        | 0, hj =>
          simp at hj; subst hj
          have : (fun b => (0 : Nat) = 0 ∧ S i b) = S i := by funext b; simp
          rw [this]
          exact HP.mono _ hrr (fun _ _ => rfl) (fun _ _ => rfl) (hw.obj i _ ho)
        | j + 1, hj => simp at hj
      · rintro j b ⟨rfl, hb⟩
        obtain ⟨_, b2, b3, b4⟩ := hw.own i b hb
        refine ⟨by simp, b2, b3, ?_⟩
        rintro (q | ⟨j, hj, q⟩)
        · exact b4 q
        · exact hj (hw.apart j i b q hb)
      · rintro j k b ⟨rfl, _⟩ ⟨rfl, _⟩; rfl
      · rintro b (q | ⟨j, _, q⟩)
        · exact hw.old b q
        · exact (hw.own j b q).2.2.1
    refine (h C.w0 C.base r' _ w _ hwi (by simp at h1; simp [h1]) fun j A hj => ?_).mono ?_
    · have := h2 j A hj
      have hlt : j < as.size := by have := (List.getElem?_eq_some_iff.1 hj).1; simp at h1; omega
      exact A.mono hrr (fun _ _ => rfl) (by simpa [List.getElem?_map, hlt] using this)
    · rintro e' w' ⟨v, x, objs', r2, S2, rfl, he, hw', hx, l', rfl, hk⟩
      obtain ⟨kf, kk⟩ := k _ _ hk
      refine ⟨v, x, _, fun b => r2 b ∧ ¬ O b, fun j b => if j = i then S2 0 b else S j b, rfl, ⟨fun b hb => ⟨he.1 b (.inl hb), fun q => hO b q hb⟩, fun b hb => he.2.1 b (.inl hb), fun b hb => ?_⟩, ⟨hw'.below, hw'.size, ?_, ?_, ?_, ?_⟩, kf _ _ _ _ _ hx, kk⟩
      · rcases he.2.2 b hb.1 with (q | q) | q
        · exact .inl q
        · exact absurd q hb.2
        · exact .inr q
      · intro j B hj
        rw [List.getElem?_set] at hj
        split at hj
        · rename_i eij; subst eij
          have hj' : row E e sz l' sv = B := by simpa [hi] using hj
          subst hj'
          simp only [if_true]
          exact zjs hfl _ _ _ _ (hw'.obj 0 _ rfl)
        · rename_i eij
          have eji : ¬ j = i := fun q => eij q.symm
          simp only [eji, if_false]
          refine B.mono (w := w) (fun b hb => ⟨he.1 b (.inl hb), fun q => hO b q hb⟩) (fun b hb => he.2.1 b (.inl hb)) (fun b hb => he.2.1 b (.inr ⟨j, eji, hb⟩)) (hw.obj j B hj)
      · intro j b hb
        by_cases eji : j = i
        · subst eji
          simp only [if_true] at hb
          obtain ⟨_, b2, b3, b4⟩ := hw'.own 0 b hb
          exact ⟨by simpa using hi, b2, b3, fun q => b4 q.1⟩
        · simp only [eji, if_false] at hb
          obtain ⟨b1, b2, b3, b4⟩ := hw.own j b hb
          exact ⟨by simpa using b1, b2, hw'.old b (he.1 b (.inr ⟨j, eji, hb⟩)), fun q => q.2 ⟨j, eji, hb⟩⟩
      · intro j k' b hb hb'
        by_cases ej : j = i <;> by_cases ek : k' = i
        · rw [ej, ek]
        · simp only [ej, if_true] at hb
          simp only [ek, if_false] at hb'
          exact absurd (he.1 b (.inr ⟨k', ek, hb'⟩)) (hw'.own 0 b hb).2.2.2
        · simp only [ek, if_true] at hb'
          simp only [ej, if_false] at hb
          exact absurd (he.1 b (.inr ⟨j, ej, hb⟩)) (hw'.own 0 b hb').2.2.2
        · simp only [ej, ek, if_false] at hb hb'
          exact hw.apart j k' b hb hb'
      · exact fun b hb => hw'.old b hb.1
theorem MutT.of_code {α : Type} {E : TypeId} {e : α → List VP} {sz : Nat} {l : List α} {sv : Value} {f : FuncId} {fn : Func} {c : Code} {args : List VP} {K' : VP → List α → Prop} (n : Nat) (hf : P.funcs[f]? = some fn) (hb : fn.body = some c) (hn : fn.ntmps = n) (hl : args.length ≤ n)
    (h : ∀ w0 base r0 wI, z2 (⟨w0, base, r0, wI, n⟩ : Cx P) c ⟨zcn args, [row E e sz l sv]⟩ (retQ (⟨w0, base, r0, wI, n⟩ : Cx P) fn (fun x objs => ∃ l', objs = [row E e sz l' sv] ∧ K' x l'))) : MutT P f args E e sz l sv K' := by
  subst hn
  exact fun w0 base => z8t.of_code hf hb hl (h w0 base)
end ops
/-- A variable of the call's own is not written any more. -/
theorem Sat.freezeB {P : Program} {C : Cx P} {s : St} {a : Act} {w : World} {b : Nat} {T : TypeId} {cs : List VP} (i : Nat) (ho : s.objs[i]? = some (box b T cs))
    (L : List (Nat × VP)) (O : List HP) (hL : zag (.pointer (some ⟨b, 0, none⟩)) (rop cs) s.slots L) (hO : zbf (.pointer (some ⟨b, 0, none⟩)) (rop cs) (s.objs.set i emp) O) (h : Sat C s a w) : Sat C ⟨ovr s.slots L, O⟩ a w := by
  obtain ⟨hd, hn, r, S, hw, hev, hs⟩ := h
  have hi : i < s.objs.length := (List.getElem?_eq_some_iff.1 ho).1
  let r' : Nat → Prop := fun b => r b ∨ S i b
  have hrr : ∀ b, r b → r' b := fun b hb => .inl hb
  have hx : (rop cs).h r' w (.pointer (some ⟨b, 0, none⟩)) := by
    obtain ⟨hS, cur, hc, hh⟩ := hw.obj i _ ho
    exact ⟨b, 0, rfl, .inr hS, (hh.mono hrr (fun _ _ => rfl)).rd hc⟩
  have hs' : z1m s.slots a r' w := fun t A ht => A.mono hrr (fun _ _ => rfl) (hs t A ht)
  have hlen := hO.at.1
  rw [List.length_set] at hlen
  refine ⟨hd, hn, r', fun j b => j ≠ i ∧ S j b, ⟨hw.below, hw.size, ?_, ?_, ?_, ?_⟩, ?_, hL.ok hx hs' hs'⟩
  · intro j B hj
    obtain ⟨A, hA, hf⟩ := hO.at.2 j B hj
    refine hf _ _ _ hx ?_
    rw [List.getElem?_set] at hA
    split at hA
    · rename_i e; subst e
      simp only [hi, if_true, Option.some.injEq] at hA; subst hA; trivial
    · rename_i e
      have : (fun b => j ≠ i ∧ S j b) = S j := by
        funext b; exact propext ⟨fun h => h.2, fun h => ⟨fun h => e h.symm, h⟩⟩
      rw [this]
      exact A.mono hrr (fun _ _ => rfl) (fun _ _ => rfl) (hw.obj j A hA)
  · rintro j b ⟨hne, hb⟩
    obtain ⟨h1, h2, h3, h4⟩ := hw.own j b hb
    refine ⟨hlen ▸ h1, h2, h3, ?_⟩
    rintro (q | q)
    · exact h4 q
    · exact hne (hw.apart j i b hb q)
  · rintro j k b ⟨_, hb⟩ ⟨_, hb'⟩
    exact hw.apart j k b hb hb'
  · rintro b (q | q)
    · exact hw.old b q
    · exact (hw.own i b q).2.2.1
  · refine ⟨fun b hb => .inl (hev.1 b hb), hev.2.1, ?_⟩
    rintro b (q | q)
    · exact hev.2.2 b q
    · exact .inr (hw.own i b q).2.1
section fzb
variable {P : Program} {C : Cx P} {s : St} {Q : Exit → Act → World → Prop} {c : Code} {e : Exit} {ops : Array Oper} {l : List Nat} {b : Nat} {T : TypeId} {cs : List VP}
theorem zg.freezeB (i : Nat) (L : List (Nat × VP)) (O : List HP) (ho : s.objs[i]? = some (box b T cs)) (hL : zag (.pointer (some ⟨b, 0, none⟩)) (rop cs) s.slots L) (hO : zbf (.pointer (some ⟨b, 0, none⟩)) (rop cs) (s.objs.set i emp) O)
    (h : zg C ops l ⟨ovr s.slots L, O⟩ Q) : zg C ops l s Q := fun a w hs => h a w (hs.freezeB i ho L O hL hO)
end fzb
end Px
end
section
namespace Px
open Go Go.RowKit
set_option linter.unusedVariables false
set_option linter.unusedSimpArgs false
/-- A part of an aggregate. -/
def znn (P : Program) (t : TypeId) (vs : Array Value) (off : Nat) : Option Value := match z46 P t with
  | some (true, n) => some (.agg (vs.extract off (off + n)))
  | some (false, 1) => vs[off]?
  | _ => none
theorem zia {P : Program} {t : TypeId} {vs : Array Value} {off : Nat} {u : Value} (w : World) (h : znn P t vs off = some u) : (part t vs off).run P w = .ok u w := by
  unfold znn at h
  split at h
  · rename_i n ht
    cases h
    exact zhk w ht
  · rename_i ht
    exact zhg w ht h
  · cases h
def eqL (g : Field → Option Bool) : List Field → Option Bool
  | [] => some true
  | f :: fs => match g f, eqL g fs with
    | some a, some b => some (a && b)
    | _, _ => none
def zo7 : Option TypeDesc → Value → Value → Option Bool
  | some (.int _), .int k a, .int k' b => if k == k' then some (a == b) else none
  | some .bool, .bool a, .bool b => some (a == b)
  | some .string, .string a, .string b => some (a == b)
  | _, _, _ => none
/-- What a comparison answers, for values of nested structs of numbers, truth values and strings. -/
def eqN (P : Program) : Nat → TypeId → Value → Value → Option Bool
  | 0, _, _, _ => none
  | n + 1, t, u, v => match P.underlying t, u, v with
    | some (.struct fs), .agg xs, .agg ys => if P.stoodInHeld t then none else eqL (fun f => if f.name == "_" then none else match znn P f.type xs f.offset, znn P f.type ys f.offset with | some a, some b => eqN P n f.type a b | _, _ => none) fs.toList
    | d, u, v => zo7 d u v
theorem zph {P : Program} (w : World) : ∀ (n d : Nat) (t : TypeId) (u v : Value) (g : Bool), eqN P n t u v = some g → (Op.equalIn (d + n) t u v).run P w = .ok g w := by
  intro n
  induction n with
  | zero => intro d t u v g h; cases h
  | succ n ih =>
    intro d t u v g h
    rw [← Nat.add_assoc]
    unfold eqN at h
    split at h
    · rename_i fs xs ys hu
      split at h
      · cases h
      rename_i hs
      have hf : P.fieldsOf t = fs := by simp [Program.fieldsOf, hu]
      rw [run_equalIn_struct w (d + n) t xs ys (by rw [hf, hu]) (by simpa using hs), hf]
      generalize fs.toList = l at h
      induction l generalizing g with
      | nil =>
        simp only [eqL, Option.some.injEq] at h; subst h
        simp [Op.eqFields]
      | cons f l ihl =>
        unfold eqL at h
        split at h
        · rename_i a b ha hb
          cases h
          split at ha
          · cases ha
          rename_i hn
          split at ha
          · rename_i p q hp hq
            have e1 := ih d f.type p q a ha
            have e2 := ihl b hb
            simp only [beq_iff_eq] at hn
            simp only [Op.eqFields, ne_eq, hn, not_false_eq_true, if_true, Sem.run_bind, zia w hp, zia w hq, Result.andThen_ok, e1]
            cases a with
            | false => simp
            | true => simpa using e2
          · cases ha
        · cases h
    · rename_i dd u' v' hne
      unfold zo7 at h
      split at h
      · rename_i k k1 a k2 b hu
        split at h
        · rename_i hk
          cases h
          simp only [beq_iff_eq] at hk
          subst hk
          exact run_equalIn_int w (d + n) t _ _ _ _ hu
        · cases h
      · rename_i a b hu
        cases h
        exact run_equalIn_bool' w (d + n) t _ _ hu
      · rename_i a b hu
        cases h
        rw [run_equalIn_string w (d + n) t _ _ hu, ← beq_toListBytes]
      · cases h
theorem zgg {P : Program} {t : TypeId} {u v : Value} {g : Bool} (w : World) (h : eqN P 8 t u v = some g) : (Op.equal t u v).run P w = .ok g w :=
  zph w 8 9992 t u v g h

section strs
variable {P : Program} {C : Cx P} {s : St} {dst : Option Tmp} {ty : TypeId} {pos : String} {after : Array Edge} {guard : Option (Nat × Bool)} {K : VP → List HP → Prop}
theorem zsj {t : TypeId} {x : Operand} {b : ByteArray} (ht : P.underlying t = some .string) (h : Ev s x (eqv (.string b))) :
    OpQ C ⟨dst, .call { callee := .builtin .len, args := #[x], argTypes := #[t] }, ty, pos, after, guard⟩ s (iv .i64 (b.size : Int)) :=
  .val fun a r w hs => by
    have hv := h a r w hs
    simp only [eqv] at hv
    exact ⟨_, zb3 (by rw [hv]; simp [Builtin.len_, run_underlying ht, goInt]), rfl⟩
theorem zqo {t t' : TypeId} {x y : Operand} {m n : ByteArray} (ht : P.underlying t = some .string) (hx : Ev s x (eqv (.string m))) (hy : Ev s y (eqv (.string n))) :
    OpQ C ⟨dst, .binOp .eql t x y t', ty, pos, after, guard⟩ s (bv (m == n)) :=
  .val fun a ro w hs => by
    have h1 := hx a ro w hs
    have h2 := hy a ro w hs
    simp only [eqv] at h1 h2
    refine ⟨_, ?_, rfl⟩
    simp [execOp, h1, h2, eqGuard, binOp, Op.stringOp, beq_toListBytes]
end strs
end Px
end
section
namespace Px
open Go Go.RowKit
set_option linter.unusedVariables false
set_option linter.unusedSimpArgs false
set_option linter.unusedSectionVars false
def setB (w : World) (b : Nat) (o : Obj) : World := { w with heap := w.heap.setIfInBounds b o }

def mget {κ ν : Type} [BEq κ] : List (κ × ν) → κ → Option ν
  | [], _ => none
  | (a, b) :: m, k => bif k == a then some b else mget m k
def mset {κ ν : Type} [BEq κ] : List (κ × ν) → κ → ν → List (κ × ν)
  | [], k, v => [(k, v)]
  | (a, b) :: m, k, v => bif k == a then (k, v) :: m else (a, b) :: mset m k v
/-- A map of the call's own, in block b. -/
def mapo {κ ν : Type} (b : Nat) (eK : κ → Value) (eV : ν → Value) (m : List (κ × ν)) : HP :=
  ⟨fun S r w => S b ∧ ∃ es clock, w.heap[b]? = some (.map es clock) ∧ es.toList.map (fun e => (e.key, e.val)) = m.map (fun p => (eK p.1, eV p.2)),
   fun h1 h2 h3 ⟨hS, es, c, hc, h⟩ => ⟨hS, es, c, (h3 _ hS).trans hc, h⟩⟩
def fnd {κ : Type} [BEq κ] (k : κ) : List κ → List MapEntry → Nat → Option (Nat × Value)
  | a :: ks, e :: es, i => bif k == a then some (i, e.val) else fnd k ks es (i + 1)
  | _, _, _ => none
/-- How keys of a type are found. -/
structure zqx (P : Program) (kt : TypeId) {κ : Type} [BEq κ] (eK : κ → Value) : Prop where
  check : ∀ w e k, (Instr.checkKey e 10000 kt (eK k)).run P w = .ok () w
  find : ∀ w k (es : List MapEntry) (ks : List κ), es.map (·.key) = ks.map eK → (Instr.findKey kt (eK k) es).run P w = .ok (fnd k ks es 0) w
  stays : ∀ w k k', (k == k') = true → (Instr.keyThatStays (eK k') (eK k)).run P w = .ok (eK k) w
theorem zfd {d : TypeDesc} {q : IntKind} (hd : d = .int q) (k : Int) : ∀ (es : List MapEntry) (ks : List Int) (i : Nat), es.map (·.key) = ks.map (Value.int q) → Instr.findNow d (.int q k) es i = some (fnd k ks es i)
  | [], [], i, _ => rfl
  | e :: es, a :: ks, i, h => by
    subst hd
    simp only [List.map_cons, List.cons.injEq] at h
    unfold Instr.findNow fnd
    rw [h.1]
    simp only [Instr.sameNow, if_true]
    cases hk : k == a with
    | true => rfl
    | false => exact zfd rfl k es ks (i + 1) h.2
  | [], _ :: _, _, h => by simp at h
  | _ :: _, [], _, h => by simp at h
theorem keyI {P : Program} {kt : TypeId} {q : IntKind} (ht : P.underlying kt = some (.int q)) : zqx P kt (κ := Int) (Value.int q) where
  check w e k := by
    show (Instr.checkKey e (9999 + 1) kt (.int q k)).run P w = _
    rw [Instr.checkKey]
    simp [run_underlying ht]
  find w k es ks h := by simp [Instr.findKey, run_underlying ht, zfd rfl k es ks 0 h]
  stays w k k' h := by
    have : k = k' := by simpa using h
    subst this
    simp [Instr.keyThatStays, Instr.sameBits]
/-- The zero value of a type. -/
def tz1 (P : Program) (t : TypeId) : Option Value := (P.info? t).bind (·.zero)
theorem zqh {P : Program} {t : TypeId} {z : Value} (h : tz1 P t = some z) (w : World) : (zeroValue t).run P w = .ok z w := by
  unfold tz1 at h
  cases hi : P.info? t with
  | none => rw [hi] at h; simp at h
  | some i =>
    rw [hi] at h
    have hz : i.zero = some z := h
    simp [zeroValue, typeInfo, hi, hz]
/-- An array out of a list. -/
def ofL {α : Type} [Inhabited α] (l : List α) : Nat → α := fun j => l.getD j default
section ptrs
variable {P : Program} {C : Cx P} {s : St} {dst : Option Tmp} {ty : TypeId} {pos : String} {after : Array Edge} {guard : Option (Nat × Bool)}
theorem zns {t E : TypeId} {n b o : Nat} {x i : Operand} {k : IntKind} {m : Int} {l : List VP} (ht : tarr P t = some (n, E)) (hE : z46 P E = some (false, 1)) (h : Ev s x (agg l)) (hi : Ev s i (iv k m))
    (hl : l = (List.range n).map fun j => eqv (.pointer (some ⟨b, o + j, none⟩))) (h0 : 0 ≤ m) (h1 : m < n) : OpQ C ⟨dst, .index t x i, ty, pos, after, guard⟩ s (eqv (.pointer (some ⟨b, o + m.toNat, none⟩))) :=
  .val fun a r w hs => by
    have h2 := hi a r w hs
    simp only [iv, eqv] at h2
    obtain ⟨vs, hx, hh⟩ := h a r w hs
    have hj : l[m.toNat * 1]? = some (eqv (.pointer (some ⟨b, o + m.toNat, none⟩))) := by
      have hlt : m.toNat < n := by omega
      rw [hl, Nat.mul_one]
      simp [hlt]
    obtain ⟨u, hu, hAu, _⟩ := hh.2 _ _ hj
    have hp := zhg (vs := vs) (off := m.toNat * 1) (u := u) w hE (by simpa using hu)
    exact ⟨u, by simp only [execOp, Instr.index, hx, h2, Sem.run_bind, asIntOf, Sem.run_pure, Result.andThen_ok, run_underlying (zgk ht), if_pos (And.intro h0 h1), z9j w hE, hp], hAu⟩
theorem Pt.seg (i : Nat) {b o : Nat} {T : TypeId} {cells : List VP} {l : List Int} {m : Int} {x : Operand} (hx : Ev s x (eqv (.pointer (some ⟨b, o + m.toNat, none⟩)))) (ho : s.objs[i]? = some (Px.box b T cells))
    (hseg : (cells.drop o).take l.length = l.map (iv .i64)) (h0 : 0 ≤ m) (h1 : m < l.length) : Pt C s x [iv .i64 (gt l m)] := by
  intro a r S w hw hs
  obtain ⟨hS, cur, hc, hh⟩ := hw.obj i _ ho
  refine ⟨b, o + m.toNat, hx a r w hs, fun j A hj => ?_⟩
  cases j with
  | succ j => simp at hj
  | zero =>
    simp at hj
    subst hj
    have hlt : m.toNat < l.length := by omega
    have e : cells[o + m.toNat]? = some (iv .i64 (gt l m)) := by
      have e1 : ((cells.drop o).take l.length)[m.toNat]? = some (iv .i64 (gt l m)) := by
        rw [hseg, List.getElem?_map, z9 ⟨h0, h1⟩]; rfl
      rw [List.getElem?_take, if_pos hlt, List.getElem?_drop] at e1
      exact e1
    have := hh.rd hc (o + m.toNat) _ e
    simpa using this
end ptrs
section map
variable {κ ν : Type} [BEq κ] {eK : κ → Value} {eV : ν → Value}
theorem zgs {k : κ} : ∀ {m : List (κ × ν)} {es : List MapEntry} {i : Nat}, es.map (fun e => (e.key, e.val)) = m.map (fun p => (eK p.1, eV p.2)) → fnd k (m.map (·.1)) es i = none → mget m k = none
  | [], [], i, _, _ => rfl
  | (a, b) :: m, e :: es, i, h, hf => by
    simp only [List.map_cons, List.cons.injEq] at h
    simp only [List.map_cons, fnd] at hf
    unfold mget
    cases hk : k == a with
    | true => rw [hk] at hf; cases hf
    | false => rw [hk] at hf; exact zgs h.2 hf
  | [], _ :: _, _, h, _ => by simp at h
  | _ :: _, [], _, h, _ => by simp at h
theorem zh2 {k : κ} : ∀ {m : List (κ × ν)} {es : List MapEntry} {i j : Nat} {u : Value}, es.map (fun e => (e.key, e.val)) = m.map (fun p => (eK p.1, eV p.2)) → fnd k (m.map (·.1)) es i = some (j, u) →
    i ≤ j ∧ (∃ v, mget m k = some v ∧ u = eV v) ∧ (∃ k', (k == k') = true ∧ ∃ e, es[j - i]? = some e ∧ e.key = eK k') ∧ ∀ v', (es.modify (j - i) fun e => { e with key := eK k, val := eV v' }).map (fun e => (e.key, e.val)) = (mset m k v').map (fun p => (eK p.1, eV p.2))
  | [], [], i, j, u, _, hf => by simp [fnd] at hf
  | (a, b) :: m, e :: es, i, j, u, h, hf => by
    simp only [List.map_cons, List.cons.injEq, Prod.mk.injEq] at h
    simp only [List.map_cons, fnd] at hf
    unfold mget mset
    cases hk : k == a with
    | true =>
      rw [hk] at hf
      simp only [cond_true, Option.some.injEq, Prod.mk.injEq] at hf
      obtain ⟨rfl, rfl⟩ := hf
      refine ⟨Nat.le_refl _, ⟨b, rfl, h.1.2⟩, ⟨a, hk, e, by simp, h.1.1⟩, fun v' => ?_⟩
      simp [h.2]
    | false =>
      rw [hk] at hf
      obtain ⟨h1, h2, ⟨k', hk', e', he', hke⟩, h4⟩ := zh2 h.2 hf
      have e1 : j - i = (j - (i + 1)) + 1 := by omega
      refine ⟨by omega, h2, ⟨k', hk', e', by rw [e1]; simpa using he', hke⟩, fun v' => ?_⟩
      rw [e1]
      simp [h4 v', h.1.1, h.1.2]
  | [], _ :: _, _, _, _, h, _ => by simp at h
  | _ :: _, [], _, _, _, h, _ => by simp at h
theorem zhz {k : κ} {v : ν} : ∀ {m : List (κ × ν)}, mget m k = none → mset m k v = m ++ [(k, v)]
  | [], _ => rfl
  | (a, b) :: m, h => by
    unfold mget at h
    unfold mset
    cases hk : k == a with
    | true => rw [hk] at h; cases h
    | false => rw [hk] at h; simp [zhz h]
variable {P : Program} {C : Cx P} {s : St} {dst : Option Tmp} {ty : TypeId} {pos : String} {after : Array Edge} {guard : Option (Nat × Bool)} {K : VP → List HP → Prop}
theorem zhr {t : TypeId} (k : ∀ b, K (eqv (.map (some b))) (s.objs ++ [mapo b eK eV []])) : OpT C ⟨dst, .makeMap t none, ty, pos, after, guard⟩ s K :=
  .push (fun b => mapo b eK eV []) (fun b => eqv (.map (some b))) (fun a r S w hw hs => by
    refine ⟨.map #[] 0, _, ?_, rfl, rfl, #[], 0, heap_alloc_new w _, rfl⟩
    simp [execOp, run_makeMap]) k
theorem zk1 {t kt et : TypeId} {x i : Operand} {b : Nat} {m : List (κ × ν)} {k : κ} {d : ν} (j : Nat) (hk : zqx P kt eK) (ht : P.underlying t = some (.map kt et)) (hz : tz1 P et = some (eV d)) (ho : s.objs[j]? = some (mapo b eK eV m))
    (hx : Ev s x (eqv (.map (some b)))) (hi : Ev s i (eqv (eK k))) : OpQ C ⟨dst, .lookup t x i false, ty, pos, after, guard⟩ s (eqv (eV ((mget m k).getD d))) :=
  .valO fun a r S w hw hs => by
    have h1 := hx a r w hs
    have h2 := hi a r w hs
    simp only [eqv] at h1 h2
    obtain ⟨hS, es, clock, hc, hh⟩ := hw.obj j _ ho
    have hkeys : es.toList.map (·.key) = (m.map (·.1)).map eK := by
      have := congrArg (List.map Prod.fst) hh
      simpa [List.map_map, Function.comp_def] using this
    have hzr := zqh hz w
    have hf := hk.find w k es.toList _ hkeys
    cases hfd : fnd k (m.map (·.1)) es.toList 0 with
    | none =>
      rw [hfd] at hf
      refine ⟨eV d, ?_, ?_⟩
      · simp only [execOp, h1, h2, Instr.lookup, Sem.run_bind, run_underlying ht, Result.andThen_ok, MapKept.run_getObj_map hc, Sem.run_pure, hk.check, hf, hzr]
        simp
      · rw [zgs hh hfd]; rfl
    | some p =>
      obtain ⟨j', u⟩ := p
      rw [hfd] at hf
      obtain ⟨_, ⟨v, hv, rfl⟩, _⟩ := zh2 hh hfd
      refine ⟨eV v, ?_, ?_⟩
      · simp only [execOp, h1, h2, Instr.lookup, Sem.run_bind, run_underlying ht, Result.andThen_ok, MapKept.run_getObj_map hc, Sem.run_pure, hk.check, hf]
        simp
      · rw [hv]; rfl
theorem zfl (w : World) (b b' : Nat) (o : Obj) (h : b' ≠ b) : (setB w b o).heap[b']? = w.heap[b']? := by
  unfold setB
  simp only
  rw [Array.getElem?_setIfInBounds_ne (fun e => h e.symm)]
theorem zds (w : World) (b : Nat) (o : Obj) (h : b < w.heap.size) : (setB w b o).heap[b]? = some o := by
  unfold setB
  simp [h]
theorem OpT.storeB {o : Oper} (hdst : o.dst = none) (i : Nat) (H : HP) (hi : i < s.objs.length)
    (hr : ∀ a r S w, WInv C.w0 C.base s.objs r S w → z1m s.slots a r w → ∃ b ob, S i b ∧ (execOp a.eval o).run P w = .ok .skip (setB w b ob) ∧ H.h (S i) r (setB w b ob))
    (k : K topv (s.objs.set i H)) : OpT C o s K := by
  intro a w r S Q hd hn hw hs
  obtain ⟨b, ob, hS, hrun, hH⟩ := hr a r S w hw hs
  unfold Oper.wp
  rw [hrun, Oper.upon_skip]
  have hblk : ∀ b', b' < w.heap.size → ¬ S i b' → (setB w b ob).heap[b']? = w.heap[b']? := fun b' _ hb' => zfl w b b' ob (fun e => hb' (e ▸ hS))
  exact ⟨undef, r, _, topv, _, rfl, hw.evo_repl i hblk, hw.repl i H (S i) hi rfl rfl rfl (by simp [setB]) hblk (fun b' hb' => by
    obtain ⟨h1, h2, h3, h4⟩ := hw.own i b' hb'
    exact ⟨h2, by simpa [setB] using h3, h4, fun j hj hS' => hj (hw.apart j i b' hS' hb')⟩) hH, trivial, k⟩
theorem zbk {t kt et : TypeId} {x i y : Operand} {b : Nat} {m : List (κ × ν)} {k : κ} {v : ν} (j : Nat) (hk : zqx P kt eK) (ht : P.underlying t = some (.map kt et)) (ho : s.objs[j]? = some (mapo b eK eV m))
    (hx : Ev s x (eqv (.map (some b)))) (hi : Ev s i (eqv (eK k))) (hy : Ev s y (eqv (eV v))) (kk : K topv (s.objs.set j (mapo b eK eV (mset m k v)))) : OpT C ⟨none, .mapUpdate t x i y, ty, pos, after, guard⟩ s K :=
  .storeB rfl j _ (List.getElem?_eq_some_iff.1 ho).1 (fun a r S w hw hs => by
    have h1 := hx a r w hs
    have h2 := hi a r w hs
    have h3 := hy a r w hs
    simp only [eqv] at h1 h2 h3
    obtain ⟨hS, es, clock, hc, hh⟩ := hw.obj j _ ho
    have hlt := (hw.own j b hS).2.2.1
    have hkeys : es.toList.map (·.key) = (m.map (·.1)).map eK := by
      have := congrArg (List.map Prod.fst) hh
      simpa [List.map_map, Function.comp_def] using this
    have hf := hk.find w k es.toList _ hkeys
    cases hfd : fnd k (m.map (·.1)) es.toList 0 with
    | none =>
      rw [hfd] at hf
      refine ⟨b, .map (es.push { key := eK k, val := eV v, born := clock }) (clock + 1), hS, ?_, hS, _, _, zds w b _ hlt, ?_⟩
      · simp only [execOp, h1, h2, h3, Instr.mapUpdate, Sem.run_bind, run_underlying ht, Result.andThen_ok, MapKept.run_getObj_map hc, hk.check, hf, MapKept.run_setObj_map _ hc]
        rfl
      · rw [zhz (zgs hh hfd)]
        simp [hh]
    | some p =>
      obtain ⟨j', u⟩ := p
      rw [hfd] at hf
      obtain ⟨_, _, ⟨k', hk', e, he, hke⟩, h4⟩ := zh2 hh hfd
      rw [Nat.sub_zero] at he h4
      have he' : es[j']? = some e := by simpa using he
      refine ⟨b, .map (es.modify j' fun e => { e with key := eK k, val := eV v }) clock, hS, ?_, hS, _, _, zds w b _ hlt, ?_⟩
      · simp only [execOp, h1, h2, h3, Instr.mapUpdate, Sem.run_bind, run_underlying ht, Result.andThen_ok, MapKept.run_getObj_map hc, hk.check, hf, he', Option.map_some, Option.getD_some, hke, hk.stays w k k' hk', MapKept.run_setObj_map _ hc]
        rfl
      · rw [Array.toList_modify]; exact h4 v) kk
end map
end Px
end
section
namespace Px
open Go Go.RowKit
set_option linter.unusedVariables false
set_option linter.unusedSimpArgs false
set_option linter.unusedSectionVars false
/-- A list of values that holds nil slices holds empty slices. -/
def Ents : List VP → List VP → Prop
  | [], [] => True
  | A :: As, B :: Bs => Ent A B ∧ Ents As Bs
  | _, _ => False
theorem Ents.ok : ∀ {As Bs : List VP}, Ents As Bs → As.length = Bs.length ∧ ∀ (j : Nat) (B : VP), Bs[j]? = some B → ∃ A, As[j]? = some A ∧ Ent A B
  | [], [], _ => ⟨rfl, fun j B h => by simp at h⟩
  | A :: As, B :: Bs, ⟨h, hr⟩ => by
    obtain ⟨h1, h2⟩ := Ents.ok hr
    refine ⟨by simp [h1], fun j D hj => ?_⟩
    cases j with
    | zero => simp at hj; subst hj; exact ⟨A, rfl, h⟩
    | succ j => simpa using h2 j D (by simpa using hj)
  | [], _ :: _, h => h.elim
  | _ :: _, [], h => h.elim
theorem Ent.nil {α : Type} {e : α → List VP} {sz : Nat} : Ent (eqv (.slice none 0 0)) (ro e sz []) := fun r w v h => .inl ⟨⟨none, 0, h⟩, rfl⟩
theorem Ent.agg {cs ds : List VP} (h : Ents cs ds) : Ent (agg cs) (agg ds) := by
  rintro r w v ⟨vs, rfl, hh⟩
  obtain ⟨h1, h2⟩ := h.ok
  refine ⟨vs, rfl, by rw [← h1]; exact hh.1, fun j B hj => ?_⟩
  obtain ⟨A, hA, hAB⟩ := h2 j B hj
  obtain ⟨u, hu, hA', ho⟩ := hh.2 j A hA
  exact ⟨u, hu, hAB _ _ _ hA', ho⟩
theorem EntH.box {b : Nat} {T : TypeId} {cs ds : List VP} (h : Ents cs ds) : EntH (box b T cs) (box b T ds) := by
  rintro S r w ⟨hS, cur, hc, hh⟩
  obtain ⟨h1, h2⟩ := h.ok
  refine ⟨hS, cur, hc, by rw [← h1]; exact hh.1, fun j B hj => ?_⟩
  obtain ⟨A, hA, hAB⟩ := h2 j B hj
  obtain ⟨u, hu, hA', ho⟩ := hh.2 j A hA
  exact ⟨u, hu, hAB _ _ _ hA', ho⟩
section ops
variable {P : Program} {C : Cx P} {s : St} {dst : Option Tmp} {ty : TypeId} {pos : String} {after : Array Edge} {guard : Option (Nat × Bool)} {K : VP → List HP → Prop}
theorem zkf {t : TypeId} (h : isSl P t = true) : ∃ e, P.underlying t = some (.slice e) := by
  unfold isSl at h
  split at h
  · rename_i e hu; exact ⟨e, hu⟩
  · cases h
theorem zjk {t : TypeId} {x : Operand} (ht : isSl P t = true) (h : Ev s x (eqv (.slice none 0 0))) :
    OpQ C ⟨dst, .call { callee := .builtin .cap, args := #[x], argTypes := #[t] }, ty, pos, after, guard⟩ s (iv .i64 0) :=
  .val fun a r w hs => by
    have h3 := h a r w hs
    simp only [eqv] at h3
    obtain ⟨e, hu⟩ := zkf ht
    exact ⟨_, by simp [execOp, resolve, invoke, builtin, Builtin.cap_, run_underlying hu, goInt, h3], rfl⟩
theorem znx {t : TypeId} {x : Operand} (ht : isSl P t = true) (h : Ev s x (eqv (.slice none 0 0))) :
    OpQ C ⟨dst, .call { callee := .builtin .len, args := #[x], argTypes := #[t] }, ty, pos, after, guard⟩ s (iv .i64 0) :=
  .val fun a r w hs => by
    have h3 := h a r w hs
    simp only [eqv] at h3
    exact ⟨_, zb3 (by rw [h3]; exact zar w ht), rfl⟩
theorem zkl {t : TypeId} {x h : Operand} {E : TypeId} {sz by' : Nat} {k : IntKind} (ht : tsl P t = some (E, sz, by')) (hx : Ev s x (eqv (.slice none 0 0))) (hh : Ev s h (iv k 0)) :
    OpQ C ⟨dst, .slice t x none (some h) none, ty, pos, after, guard⟩ s (eqv (.slice none 0 0)) :=
  .val fun a r w hs => by
    have h1 := hx a r w hs
    have h2 := hh a r w hs
    simp only [eqv, iv] at h1 h2
    obtain ⟨i, z, hu, hi, hz, rfl, rfl, hzs, hpos⟩ := zaw ht
    have hu' : P.underlying t = some (.slice (P.elem t)) := by simp [Program.elem, hu]
    have he : P.elem t = E := by simp [Program.elem, hu]
    exact ⟨_, by
      simp only [execOp, Option.map_some, Option.map_none, h1, h2, Sem.run_bind, run_sliceAt_slice w t _ _ _ _ hu', run_slice_h w t none 0 0 hu' k 0 (by decide) (by decide)]
      simp [Go.sizeOf, typeInfo, he, hi, sliced], rfl⟩
theorem zq0 {α : Type} (i : Nat) {t E : TypeId} {e : α → List VP} {sz by' : Nat} {l : List α} {sv : Value} {x h : Operand} {k : IntKind} {n : Int} (ht : tsl P t = some (E, sz, by')) (he : ∀ x, (e x).length = sz)
    (hx : Ev s x (eqv sv)) (ho : s.objs[i]? = some (row E e sz l sv)) (hh : Ev s h (iv k n)) (h0 : 0 ≤ n) (h1 : n ≤ (l.length : Int))
    (kk : ∀ v', K (eqv v') (s.objs.set i (row E e sz (l.take n.toNat) v'))) : OpT C ⟨dst, .slice t x none (some h) none, ty, pos, after, guard⟩ s K := by
  intro a w r S Q hd hn hw hs
  have hx' := hx a r w hs
  have hh' := hh a r w hs
  simp only [eqv, iv] at hx' hh'
  have hi := (List.getElem?_eq_some_iff.1 ho).1
  obtain ⟨inf, z, hu, hinf, hz, rfl, rfl, hzs, hpos⟩ := zaw ht
  have hu' : P.underlying t = some (.slice (P.elem t)) := by simp [Program.elem, hu]
  have hel : P.elem t = E := by simp [Program.elem, hu]
  have hlen : (l.take n.toNat).length = n.toNat := by rw [List.length_take]; omega
  have key : ∃ v', (execOp a.eval ⟨dst, .slice t x none (some h) none, ty, pos, after, guard⟩).run P w = .ok (.value v') w ∧ (row E e inf.size (l.take n.toNat) v').h (S i) r w := by
    rcases hw.obj i _ ho with ⟨rfl, rfl⟩ | ⟨g, cap, cur, rfl, hS, hcur, hl, hm, hsz, hc⟩
    · have hn0 : n = 0 := by simp at h1; omega
      subst hn0
      refine ⟨.slice none 0 0, ?_, .inl ⟨rfl, rfl⟩⟩
      simp only [execOp, Option.map_some, Option.map_none, hx', hh', Sem.run_bind, run_sliceAt_slice w t _ _ _ _ hu', run_slice_h w t none 0 0 hu' k 0 (by decide) (by decide)]
      simp [Go.sizeOf, typeInfo, hel, hinf, sliced]
    · refine ⟨.slice (some ⟨g, 0, none⟩) (l.take n.toNat).length cap, ?_, .inr ⟨g, cap, cur, rfl, hS, hcur, ?_, hm, hsz, ?_⟩⟩
      · simp only [execOp, Option.map_some, Option.map_none, hx', hh', Sem.run_bind, run_sliceAt_slice w t _ _ _ _ hu', run_slice_h w t _ _ cap hu' k n h0 (by omega)]
        simp [Go.sizeOf, typeInfo, hel, hinf, sliced, Addr.add_lit, hlen]
      · omega
      · rw [hlen]
        have e2 : (l.take n.toNat).flatMap e = (l.flatMap e).take (n.toNat * inf.size) := by
          conv => rhs; rw [← List.take_append_drop n.toNat l, List.flatMap_append]
          rw [List.take_left']
          rw [z6u he, hlen]
        have e3 : cur.toList.take (n.toNat * inf.size) = (cur.toList.take (l.length * inf.size)).take (n.toNat * inf.size) := by
          rw [List.take_take, Nat.min_eq_left (Nat.mul_le_mul_right _ (by omega))]
        rw [e2, e3]
        refine ⟨by rw [List.length_take, List.length_take, hc.1], fun j A hj => ?_⟩
        rw [List.getElem?_take] at hj
        split at hj
        · rename_i hlt
          obtain ⟨u, hu2, hA⟩ := hc.2 j A hj
          exact ⟨u, by rw [List.getElem?_take, if_pos hlt]; exact hu2, hA⟩
        · cases hj
  obtain ⟨v', hr, hrow⟩ := key
  unfold Oper.wp
  rw [hr, Oper.upon_value]
  refine ⟨v', r, _, _, _, rfl, hw.evo_repl i (fun _ _ _ => rfl), hw.repl i _ (S i) hi rfl rfl rfl (Nat.le_refl _) (fun _ _ _ => rfl) (fun b hb => ?_) hrow, rfl, kk v'⟩
  obtain ⟨q1, q2, q3, q4⟩ := hw.own i b hb
  exact ⟨q2, q3, q4, fun j hj hSj => hj (hw.apart j i b hSj hb)⟩
theorem zgo {zs : Array Value} {n j : Nat} (hj : j < n * zs.size) : (Builtin.zeroCells zs n).toList[j]? = some (zs[j % zs.size]!) := by
  simp [Builtin.zeroCells, hj]
/-- append(nil, make([]T, n)...). -/
theorem zmm {α : Type} (i : Nat) {t tn E : TypeId} {e : α → List VP} {sz by' : Nat} {x y : Operand} {kn k : IntKind} {n : Int} (z : α) (zs : List Value) (ht : tsl P t = some (E, sz, by')) (htn : P.underlying tn = some (.int kn)) (he : ∀ x, (e x).length = sz)
    (hz : z7n P E = some zs) (hz1 : zs.all (·.oneCell') = true) (hze : e z = zs.map eqv) (hx : Ev s x (eqv (.slice none 0 0))) (ho : s.objs[i]? = some (row E e sz ([] : List α) (.slice none 0 0))) (hy : Ev s y (iv k n))
    (h0 : 0 < n) (hby : n.toNat * by' ≤ 140737488355328) (hmax : n.toNat ≤ maxLen)
    (kk : ∀ v', K (eqv v') (s.objs.set i (row E e sz (List.replicate n.toNat z) v'))) : OpT C ⟨dst, .call { callee := .builtin .append, args := #[x, y], argTypes := #[t, tn] }, ty, pos, after, guard⟩ s K := by
  intro a w r S Q hd hn hw hs
  have hx' := hx a r w hs
  have hy' := hy a r w hs
  simp only [eqv, iv] at hx' hy'
  have hi := (List.getElem?_eq_some_iff.1 ho).1
  obtain ⟨inf, zv, hu, hinf, hzv, rfl, rfl, hzs, hpos⟩ := zaw ht
  have hzv' : zv.cells.toList = zs := by
    unfold z7n at hz
    simp [hinf, hzv] at hz
    exact hz
  obtain ⟨m, rfl⟩ : ∃ m : Nat, n = m := ⟨n.toNat, by omega⟩
  simp only [Int.toNat_natCast] at hby hmax kk
  have hr := Lib.run_append_nil_zeros w t tn ty E inf zv k kn hu htn hinf hzv m (by omega) hpos (by simp [maxLen] at hmax; omega) (by omega)
  have hge := grownCap_ge w m 0 E
  have hcm := grownCap_le_maxLen w m 0 E hmax
  have hblk : ∀ b, b < w.heap.size → ¬ S i b → (w.drew.alloc (.cells (Builtin.zeroCells zv.cells m ++ Builtin.zeroCells zv.cells (grownCap w m 0 E - m)) E)).heap[b]? = w.heap[b]? := fun b hb _ => Below.heap_alloc w.drew _ b hb
  unfold Oper.wp
  rw [show (execOp a.eval ⟨dst, .call { callee := .builtin .append, args := #[x, y], argTypes := #[t, tn] }, ty, pos, after, guard⟩).run P w = .ok (.value _) _ from by
    simp [execOp, resolve, invoke, builtin, hx', hy', hr]; exact ⟨rfl, rfl⟩, Oper.upon_value]
  refine ⟨_, r, _, _, _, rfl, hw.evo_repl i hblk, hw.repl i (row E e inf.size (List.replicate m z) _) (fun b => b = w.heap.size) hi rfl rfl rfl (by simp) hblk (fun b hb => ?_) ?_, rfl, kk _⟩
  · subst hb
    exact ⟨hw.size, by simp, fun hb' => Nat.lt_irrefl _ (hw.old _ hb'), fun j hj hSj => Nat.lt_irrefl _ (hw.own j _ hSj).2.2.1⟩
  · refine .inr ⟨w.heap.size, grownCap w m 0 E, _, by simp, rfl, heap_alloc_new w.drew _, by simpa using hge, hcm, ?_, ?_⟩
    · simp only [Array.size_append, size_zeroCells, hzs, ← Nat.add_mul]
      congr 1
      omega
    · have hfl := z6u he (List.replicate m z)
      rw [List.length_replicate] at hfl ⊢
      have hzl : (Builtin.zeroCells zv.cells m).toList.length = m * inf.size := by simp [size_zeroCells, hzs]
      have e1 : (Builtin.zeroCells zv.cells m ++ Builtin.zeroCells zv.cells (grownCap w m 0 E - m)).toList.take (m * inf.size) = (Builtin.zeroCells zv.cells m).toList := by
        rw [Array.toList_append]
        exact List.take_left' hzl
      rw [e1]
      refine ⟨by rw [hfl, hzl], fun j A hj => ?_⟩
      have hlt : j < m * inf.size := by
        have := (List.getElem?_eq_some_iff.1 hj).1
        rwa [hfl] at this
      obtain ⟨y, hy2, hA⟩ := zda he hpos _ j A hj
      rw [List.getElem?_replicate] at hy2
      split at hy2
      · simp at hy2
        subst hy2
        rw [hze, List.getElem?_map, Option.map_eq_some_iff] at hA
        obtain ⟨u, hu', rfl⟩ := hA
        refine ⟨u, ?_, rfl, by simpa using List.all_eq_true.1 hz1 u (List.mem_of_getElem? hu')⟩
        rw [zgo (by rw [hzs]; exact hlt), hzs]
        have hml : j % inf.size < zv.cells.size := by rw [hzs]; exact Nat.mod_lt _ hpos
        rw [← hzv'] at hu'
        simp [hml] at hu' ⊢
        exact hu'
      · cases hy2
end ops
section freeze
variable {P : Program} {C : Cx P} {s : St} {Q : Exit → Act → World → Prop} {ops : Array Oper} {tab : Tab} {D : List Nat} {QR : List (Nat × VP)}
theorem zhn {a : Act} {w : World} {α : Type} {E : TypeId} {en : α → List VP} {sz : Nat} {l : List α} {sv : Value} (i : Nat) (ho : s.objs[i]? = some (row E en sz l sv)) (he : ∀ x, (en x).length = sz)
    (L : List (Nat × VP)) (O : List HP) (hL : zag sv (ro en sz l) s.slots L) (hO : zbf sv (ro en sz l) (s.objs.set i emp) O) {r : Nat → Prop} {S : Nat → Nat → Prop} (hw : WInv C.w0 C.base s.objs r S w) (hev : Evo C.base C.r0 C.wI r w) (hs : z1m s.slots a r w) :
    ∃ (r' : Nat → Prop) (S' : Nat → Nat → Prop), (∀ b, r b → r' b) ∧ WInv C.w0 C.base O r' S' w ∧ Evo C.base C.r0 C.wI r' w ∧ z1m (ovr s.slots L) a r' w := by
  have hi : i < s.objs.length := (List.getElem?_eq_some_iff.1 ho).1
  let r' : Nat → Prop := fun b => r b ∨ S i b
  have hrr : ∀ b, r b → r' b := fun b hb => .inl hb
  have hx : (ro en sz l).h r' w sv := by
    rcases hw.obj i _ ho with ⟨rfl, rfl⟩ | ⟨g, cap, cur, rfl, hS, hcur, hl, hm, hsz, hh⟩
    · exact .inl ⟨⟨none, 0, rfl⟩, rfl⟩
    · refine .inr ⟨g, 0, cap, rfl, fun k x hk => ⟨.inr hS, fun j A hj => ?_⟩⟩
      obtain ⟨u, hu, hA, h1⟩ := hh.2 _ A (z7i he l k x hk j A hj)
      refine ⟨u, ?_, A.mono hrr (fun _ _ => rfl) hA, h1⟩
      rw [Nat.zero_add, cell_of_row w g _ cur E (0, 0) hcur]
      rw [List.getElem?_take] at hu
      split at hu
      · simpa using hu
      · cases hu
  have hs' : z1m s.slots a r' w := fun t A ht => A.mono hrr (fun _ _ => rfl) (hs t A ht)
  have hlen := hO.at.1
  rw [List.length_set] at hlen
  refine ⟨r', fun j b => j ≠ i ∧ S j b, hrr, ⟨hw.below, hw.size, ?_, ?_, ?_, ?_⟩, ?_, hL.ok hx hs' hs'⟩
  · intro j B hj
    obtain ⟨A, hA, hf⟩ := hO.at.2 j B hj
    refine hf _ _ _ hx ?_
    rw [List.getElem?_set] at hA
    split at hA
    · rename_i e; subst e
      simp only [hi, if_true, Option.some.injEq] at hA; subst hA; trivial
    · rename_i e
      have : (fun b => j ≠ i ∧ S j b) = S j := by
        funext b; exact propext ⟨fun h => h.2, fun h => ⟨fun h => e h.symm, h⟩⟩
      rw [this]
      exact A.mono hrr (fun _ _ => rfl) (fun _ _ => rfl) (hw.obj j A hA)
  · rintro j b ⟨hne, hb⟩
    obtain ⟨h1, h2, h3, h4⟩ := hw.own j b hb
    refine ⟨hlen ▸ h1, h2, h3, ?_⟩
    rintro (q | q)
    · exact h4 q
    · exact hne (hw.apart j i b hb q)
  · rintro j k b ⟨_, hb⟩ ⟨_, hb'⟩
    exact hw.apart j k b hb hb'
  · rintro b (q | q)
    · exact hw.old b q
    · exact (hw.own i b q).2.2.1
  · refine ⟨fun b hb => .inl (hev.1 b hb), hev.2.1, ?_⟩
    rintro b (q | q)
    · exact hev.2.2 b q
    · exact .inr (hw.own i b q).2.1
theorem Reg.freeze {α : Type} {E : TypeId} {en : α → List VP} {sz : Nat} {xs : List α} {sv : Value} (i : Nat) (L : List (Nat × VP)) (O : List HP) (ho : s.objs[i]? = some (row E en sz xs sv)) (he : ∀ x, (en x).length = sz)
    (hL : zag sv (ro en sz xs) s.slots L) (hO : zbf sv (ro en sz xs) (s.objs.set i emp) O) (h : Reg C ops tab Q D ⟨ovr s.slots L, O⟩ QR) : Reg C ops tab Q D s QR := by
  intro fuel listed a w E r S hN hd hn hw hev hs hf
  obtain ⟨r', S', hrr, hw', hev', hs'⟩ := zhn i ho he L O hL hO hw hev hs
  exact h fuel listed a w E r' S' hN hd hn hw' hev' hs' fun q x t h1 h2 h3 => x.mono hrr (fun _ _ => rfl) (hf q x t h1 h2 h3)
end freeze
end Px
end
section
namespace Px
open Go Go.RowKit
set_option linter.unusedVariables false
theorem nf {p : Prop} : true = false → p := fun h => nomatch h
theorem ft {p : Prop} : false = true → p := fun h => nomatch h
def zik (s : zh) : List Nat → Bool
  | [] => true
  | t :: l => (s t).isNone && zik s l
theorem an {s : zh} : ∀ {l : List Nat}, zik s l = true → zbr s l
  | [], _ => trivial
  | t :: l, h => by
    simp only [zik, Bool.and_eq_true, Option.isNone_iff_eq_none] at h
    exact ⟨h.1, an h.2⟩
theorem qr {α : Type} {x : Option α} {G : α → Prop} {p : Prop} {o : α} (h1 : x = some o) (h : G o) : p → ∃ o, x = some o ∧ G o := fun _ => ⟨o, h1, h⟩
section
variable {P : Program} {C : Cx P} {ops : Array Oper} {i : Nat} {rest : List Nat} {s : St} {Q : Exit → Act → World → Prop} {o : Oper}
/-- A cell of a variable of the call's own. -/
theorem lb {dst : Option Tmp} {ty : TypeId} {pos : String} {after : Array Edge} {guard : Option (Nat × Bool)} {t : TypeId} {x : Operand} {n : Nat} {A : VP} {b off : Nat} {T : TypeId} {cells : List VP}
    (ht : z46 P t = some (false, n)) (i : Nat) (h : Ev s x (eqv (.pointer (some ⟨b, off, none⟩)))) (ho : s.objs[i]? = some (box b T cells)) (hc : cells[off]? = some A) : OpQ C ⟨dst, .load t x, ty, pos, after, guard⟩ s A := by
  refine z1n (cs := cells.drop (off + 1)) ht (Pt.box i h ho ?_)
  have hl := (List.getElem?_eq_some_iff.1 hc)
  obtain ⟨h1, h2⟩ := hl
  rw [← h2, List.getElem_cons_drop]
/-- The same, read only. -/
theorem lr {dst : Option Tmp} {ty : TypeId} {pos : String} {after : Array Edge} {guard : Option (Nat × Bool)} {t : TypeId} {x : Operand} {n : Nat} {A : VP} {cs : List VP}
    (ht : z46 P t = some (false, n)) (h : Ev s x (rop (A :: cs))) : OpQ C ⟨dst, .load t x, ty, pos, after, guard⟩ s A := z1n ht (Pt.rop h)
abbrev ef {As : VP} {x : Operand} (h : Ev s x As) : EvF C s x As := EvF.of h FEnt.refl
/-- A list of cells with others laid over it from a place on, in plain form. -/
def splN : List VP → Nat → List VP → Option (List VP)
  | l, _, [] => some l
  | [], _, _ :: _ => none
  | _ :: l, 0, a :: as => match splN l 0 as with | some r => some (a :: r) | none => none
  | c :: l, n + 1, a :: as => match splN l n (a :: as) with | some r => some (c :: r) | none => none
theorem zj0 : ∀ {l : List VP} {n : Nat} {as out : List VP}, splN l n as = some out → as = [] ∧ out = l ∨ n + as.length ≤ l.length ∧ l.take n ++ as ++ l.drop (n + as.length) = out
  | l, n, [], out, h => by
    simp only [splN, Option.some.injEq] at h; exact .inl ⟨rfl, h.symm⟩
  | [], n, a :: as, out, h => by simp [splN] at h
  | c :: l, 0, a :: as, out, h => by
    simp only [splN] at h
    split at h
    · rename_i r hr
      simp only [Option.some.injEq] at h; subst h
      right
      rcases zj0 hr with ⟨rfl, rfl⟩ | ⟨h1, h2⟩
      · simp
      · simp at h1 h2 ⊢; exact ⟨by omega, h2⟩
    · cases h
  | c :: l, n + 1, a :: as, out, h => by
    simp only [splN] at h
    split at h
    · rename_i r hr
      simp only [Option.some.injEq] at h; subst h
      right
      rcases zj0 hr with ⟨h0, _⟩ | ⟨h1, h2⟩
      · cases h0
      · simp only [List.length_cons] at h1 h2 ⊢
        refine ⟨by omega, ?_⟩
        have e : n + 1 + (as.length + 1) = (n + (as.length + 1)) + 1 := by omega
        rw [e, List.take_succ_cons, List.drop_succ_cons, ← h2]; rfl
    · cases h
/-- A store into a variable of the call's own. -/
theorem sto (i : Nat) {ty : TypeId} {pos : String} {after : Array Edge} {guard : Option (Nat × Bool)} {t T : TypeId} {g : Bool} {n b off : Nat} {x y : Operand} {cells cs out : List VP} {K : VP → List HP → Prop}
    (ht : z46 P t = some (g, n)) (hx : Ev s x (eqv (.pointer (some ⟨b, off, none⟩)))) (hy : Ce s y cs) (ho : s.objs[i]? = some (box b T cells)) (hl : cs.length = n)
    (hn : Nat.ble 1 n = true) (hout : splN cells off cs = some out) (k : K topv (s.objs.set i (box b T out))) : OpT C ⟨none, .store t x y, ty, pos, after, guard⟩ s K := by
  have hn' : 1 ≤ n := Nat.le_of_ble_eq_true hn
  rcases zj0 hout with ⟨rfl, _⟩ | ⟨h1, h2⟩
  · simp at hl; omega
  · exact zai i ht hx hy ho hl (by omega) (by rw [← hl]; exact h2) k
/-- The operation i of a region, if it has no guard and yields into the frame. -/
def sel1 (C : Cx P) (ops : Array Oper) (i : Nat) : Option Oper := match ops[i]? with
  | some o => match o.guard with
    | none => bif z5v C o then some o else none
    | some _ => none
  | none => none
theorem zdb {C : Cx P} (h : sel1 C ops i = some o) : ops[i]? = some o ∧ o.guard = none ∧ z5v C o = true := by
  unfold sel1 at h
  split at h
  · rename_i p hp
    split at h
    · rename_i hg
      cases hr : z5v C p with
      | false => rw [hr] at h; cases h
      | true => rw [hr] at h; cases h; exact ⟨hp, hg, hr⟩
    · cases h
  · cases h
/-- The same for one with a guard: what it waits for, and the slot of that. -/
def sel2 (C : Cx P) (ops : Array Oper) (i : Nat) : Option (Oper × Bool × Nat) := match ops[i]? with
  | some o => match o.guard with
    | some g => match (ops[g.1]?).bind (·.dst) with
      | some t => bif z5v C o then some (o, g.2, t) else none
      | none => none
    | none => none
  | none => none
theorem zcz {C : Cx P} {want : Bool} {t : Nat} (h : sel2 C ops i = some (o, want, t)) : ops[i]? = some o ∧ (∃ j, o.guard = some (j, want) ∧ (ops[j]?).bind (·.dst) = some t) ∧ z5v C o = true := by
  unfold sel2 at h
  split at h
  · rename_i p hp
    split at h
    · rename_i g hg
      split at h
      · rename_i t' ht
        cases hr : z5v C p with
        | false => rw [hr] at h; cases h
        | true => rw [hr] at h; cases h; exact ⟨hp, ⟨g.1, hg, ht⟩, hr⟩
      · cases h
    · cases h
  · cases h
theorem q1 {x : VP} (hs : sel1 C ops i = some o) (hq : OpQ C o s x) (h : zg C ops rest ⟨s.slots.set o.dst x, s.objs⟩ Q) : zg C ops (i :: rest) s Q :=
  zg.cons_q x (zdb hs).1 (zdb hs).2.1 (zdb hs).2.2 hq h
theorem n1 (hs : sel1 C ops i = some o) (h : OpT C o s fun x objs => zg C ops rest ⟨s.slots.set o.dst x, objs⟩ Q) : zg C ops (i :: rest) s Q :=
  zg.cons (zdb hs).1 (zdb hs).2.1 (zdb hs).2.2 h
theorem g1 {x : VP} {g want : Bool} {t : Nat} (hs : sel2 C ops i = some (o, want, t)) (ht : s.slots t = some (bv g)) (hq : g = want → OpQ C o s x)
    (h : zg C ops rest ⟨s.slots.set o.dst (cnd (g = want) x), s.objs⟩ Q) : zg C ops (i :: rest) s Q :=
  let ⟨_, h1, h2⟩ := (zcz hs).2.1
  zg.cons_g x g (zcz hs).1 h1 (zcz hs).2.2 h2 ht hq h
theorem zme {C : Cx P} {x : VP} {want : Bool} {t : Nat} {p : Prop} (hs : sel2 C ops i = some (o, want, t))
    (hy : ∀ j a ro w, (ops[j]?).bind (·.dst) = some t → z1m s.slots a ro w → (p → yielded ops a.tmps j = some want) ∧ (¬ p → yielded ops a.tmps j ≠ some want)) (hq : p → OpQ C o s x)
    (h : zg C ops rest ⟨s.slots.set o.dst (cnd p x), s.objs⟩ Q) : zg C ops (i :: rest) s Q :=
  let ⟨j, h1, h2⟩ := (zcz hs).2.1
  zg.cons_g' x p (zcz hs).1 h1 (zcz hs).2.2 (fun a ro w hsl => hy j a ro w h2 hsl) hq h
theorem gc {x : VP} {c : Prop} {g want : Bool} {t : Nat} (hs : sel2 C ops i = some (o, want, t)) (ht : s.slots t = some (cnd c (bv g))) (hq : c ∧ g = want → OpQ C o s x)
    (h : zg C ops rest ⟨s.slots.set o.dst (cnd (c ∧ g = want) x), s.objs⟩ Q) : zg C ops (i :: rest) s Q :=
  zme hs (fun _ _ _ _ h2 hsl => zj4 h2 ht hsl) hq h
theorem ln {ty : TypeId} {pos : String} {after : Array Edge} {guard : Option (Nat × Bool)} {dst : Option Tmp} {t : TypeId} {x : Operand} {n : Nat} {cs : List VP} (ht : z46 P t = some (true, n)) (h : Pt C s x cs) (hl : cs.length = n) :
    OpQ C ⟨dst, .load t x, ty, pos, after, guard⟩ s (agg cs) := z5r (by rw [hl]; exact ht) h
theorem ct {v : Value} : Ev s (.const v) (eqv v) := Ev.const v
theorem mc {t : Nat} {c : Prop} {A : VP} (h : s.slots t = some (cnd c A)) (hc : c) : Ev s (.tmp t) A := Ev.cnd (Ev.tmp h) hc
/-- A branch, with what the text says of it. -/
theorem cI {x y : Code} {ρ : Type} {g : Bool} {A B : Option ρ} {r : ρ} {t : Nat} (h : (if g = true then A else B) = some r) (hs : s.slots t = some (bv g)) (ht : g = true → A = some r → z2 C x s Q) (hf : g = false → B = some r → z2 C y s Q) :
    z2 C (.cond (.tmp t) x y) s Q := z2.cond g (zrz (Ev.tmp hs)) (fun e => ht e (by rw [if_pos e] at h; exact h)) (fun e => hf e (by rw [if_neg (znl e)] at h; exact h))
section calls
variable {ty : TypeId} {pos : String} {after : Array Edge} {guard : Option (Nat × Bool)} {dst : Option Tmp}
theorem oQ {f : FuncId} {as : Array Operand} {ts : Array TypeId} {args : List VP} {x : VP} (hf : FnOK P f) (h : z1q P f args fun y news => y = x ∧ news = []) (hx : x.flat) (ha : zib C s as.toList args) :
    OpQ C ⟨dst, .call { callee := .value (.func f), args := as, argTypes := ts }, ty, pos, after, guard⟩ s x := zqd hf ha h hx
theorem oF {f : FuncId} {as : Array Operand} {ts : Array TypeId} {args : List VP} {K : VP → List HP → Prop} {K' : VP → List HP → Prop} (hf : FnOK P f) (h : z1q P f args K') (ha : zib C s as.toList args)
    (k : ∀ x news, K' x news → x.flat ∧ (∀ H ∈ news, H.flat) ∧ K x (s.objs ++ news)) : OpT C ⟨dst, .call { callee := .value (.func f), args := as, argTypes := ts }, ty, pos, after, guard⟩ s K := zim hf ha h k
theorem oP {f : FuncId} {as : Array Operand} {ts : Array TypeId} {args : List VP} {K : VP → List HP → Prop} {K' : VP → List HP → Prop} (hf : FnOK P f) (h : z1q P f args K') (ha : Args s as.toList args)
    (k : ∀ x news, K' x news → K x (s.objs ++ news)) : OpT C ⟨dst, .call { callee := .value (.func f), args := as, argTypes := ts }, ty, pos, after, guard⟩ s K := zq3 hf ha h k
end calls
end
end Px
end
section
set_option linter.unusedVariables false
set_option linter.unusedSimpArgs false
set_option maxHeartbeats 4000000
set_option maxRecDepth 100000
namespace Px
open Go Go.RowKit
def zbe : ByteArray := ⟨#[0, 1, 2, 2, 3, 3, 3, 3, 4, 4, 4, 4, 4, 4, 4, 4, 5, 5, 5, 5, 5, 5, 5, 5, 5, 5, 5, 5, 5, 5, 5, 5, 6, 6, 6, 6, 6, 6, 6, 6, 6, 6, 6, 6, 6, 6, 6, 6, 6, 6, 6, 6, 6, 6, 6, 6, 6, 6, 6, 6, 6, 6, 6, 6, 7, 7, 7, 7, 7, 7, 7, 7, 7, 7, 7, 7, 7, 7, 7, 7, 7, 7, 7, 7, 7, 7, 7, 7, 7, 7, 7, 7, 7, 7, 7, 7, 7, 7, 7, 7, 7, 7, 7, 7, 7, 7, 7, 7, 7, 7, 7, 7, 7, 7, 7, 7, 7, 7, 7, 7, 7, 7, 7, 7, 7, 7, 7, 7, 8, 8, 8, 8, 8, 8, 8, 8, 8, 8, 8, 8, 8, 8, 8, 8, 8, 8, 8, 8, 8, 8, 8, 8, 8, 8, 8, 8, 8, 8, 8, 8, 8, 8, 8, 8, 8, 8, 8, 8, 8, 8, 8, 8, 8, 8, 8, 8, 8, 8, 8, 8, 8, 8, 8, 8, 8, 8, 8, 8, 8, 8, 8, 8, 8, 8, 8, 8, 8, 8, 8, 8, 8, 8, 8, 8, 8, 8, 8, 8, 8, 8, 8, 8, 8, 8, 8, 8, 8, 8, 8, 8, 8, 8, 8, 8, 8, 8, 8, 8, 8, 8, 8, 8, 8, 8, 8, 8, 8, 8, 8, 8, 8, 8, 8, 8, 8, 8, 8, 8, 8, 8, 8, 8, 8, 8, 8, 8]⟩
def zf3 : ByteArray := ⟨#[]⟩
structure z75 where
  fKind : Int
  fRailway : Int
  fOther : Int
instance : Inhabited z75 := ⟨⟨default, default, default⟩⟩
def z4w (x : z75) : List VP := [(iv .i64 x.fKind), (iv .i64 x.fRailway), (iv .i64 x.fOther)]
theorem zoh (x : z75) : (z4w x).length = 3 := rfl

structure Edge where
  fA : Int
  fB : Int
  fRailway : Int
  fMinutes : Int
  fKm : Int
instance : Inhabited Edge := ⟨⟨default, default, default, default, default⟩⟩
def z9v (x : Edge) : List VP := [(iv .i64 x.fA), (iv .i64 x.fB), (iv .i64 x.fRailway), (iv .i64 x.fMinutes), (iv .i64 x.fKm)]
structure z7w where
  fPlaces : (List z75)
  fEdges : (List Edge)
instance : Inhabited z7w := ⟨⟨default, default⟩⟩
def zcv (x : z7w) : List VP := [(ro z4w 3 x.fPlaces), (ro z9v 5 x.fEdges)]
structure z5j where
  fLoad : Int
  fTare : Int
  fLength : Int
  fGauge : Int
  fBrake : Int
  fClasses : Int
  fLife : Int
  fFloor : Int
instance : Inhabited z5j := ⟨⟨default, default, default, default, default, default, default, default⟩⟩
def z0y (x : z5j) : List VP := [(iv .i64 x.fLoad), (iv .i64 x.fTare), (iv .i64 x.fLength), (iv .i64 x.fGauge), (iv .i64 x.fBrake), (iv .u64 x.fClasses), (iv .i64 x.fLife), (iv .i64 x.fFloor)]
theorem zgb (x : z5j) : (z0y x).length = 8 := rfl

structure zbs where
  fType : Int
  fOwner : Int
  fHome : Int
  fBuilt : Int
  fWorth : Int
instance : Inhabited zbs := ⟨⟨default, default, default, default, default⟩⟩
def z5h (x : zbs) : List VP := [(iv .i64 x.fType), (iv .i64 x.fOwner), (iv .i64 x.fHome), (iv .i64 x.fBuilt), (iv .i64 x.fWorth)]
theorem zos (x : zbs) : (z5h x).length = 5 := rfl

structure Swap where
  fWanted : Int
  fGiven : Int
  fCost : Int
instance : Inhabited Swap := ⟨⟨default, default, default⟩⟩
def z9o (x : Swap) : List VP := [(iv .i64 x.fWanted), (iv .i64 x.fGiven), (iv .i64 x.fCost)]
structure Wash where
  fFrom : Int
  fTo : Int
  fMinutes : Int
instance : Inhabited Wash := ⟨⟨default, default, default⟩⟩
def z8z (x : Wash) : List VP := [(iv .i64 x.fFrom), (iv .i64 x.fTo), (iv .i64 x.fMinutes)]
structure z8m where
  fTypes : (List z5j)
  fWagons : (List zbs)
  fSwaps : (List Swap)
  fWashes : (List Wash)
instance : Inhabited z8m := ⟨⟨default, default, default, default⟩⟩
def z7l (x : z8m) : List VP := [(ro z0y 8 x.fTypes), (ro z5h 5 x.fWagons), (ro z9o 3 x.fSwaps), (ro z8z 3 x.fWashes)]
structure zca where
  fPlace : Int
  fLow : Int
  fHigh : Int
instance : Inhabited zca := ⟨⟨default, default, default⟩⟩
def z6v (x : zca) : List VP := [(iv .i64 x.fPlace), (iv .i64 x.fLow), (iv .i64 x.fHigh)]
structure zaa where
  fPlace : Int
instance : Inhabited zaa := ⟨⟨default⟩⟩
def z5c (x : zaa) : List VP := [(iv .i64 x.fPlace)]
structure Span where
  fFrom : Int
  fTo : Int
instance : Inhabited Span := ⟨⟨default, default⟩⟩
def zhj (x : Span) : List VP := [(iv .i64 x.fFrom), (iv .i64 x.fTo)]
theorem znm (x : Span) : (zhj x).length = 2 := rfl

structure z37 where
  fOpen : (Nat → Span)
  fHolidays : (List Int)
instance : Inhabited z37 := ⟨⟨(fun _ => default), default⟩⟩
def z83 (x : z37) : List VP := ([] ++ arr 7 zhj x.fOpen ++ [(ro eI64 1 x.fHolidays)])
structure z1r where
  fKey : Int
  fCalendar : z37
instance : Inhabited z1r := ⟨⟨default, default⟩⟩
def z0x (x : z1r) : List VP := ([(iv .u64 x.fKey)] ++ arr 7 zhj x.fCalendar.fOpen ++ [(ro eI64 1 x.fCalendar.fHolidays)])
theorem zdu (x : z1r) : (z0x x).length = 16 := rfl

structure Pool where
  fNetwork : z7w
  fFleet : z8m
  fReaders : (List zca)
  fShippers : (List zaa)
  fRailways : (List z1r)
instance : Inhabited Pool := ⟨⟨default, default, default, default, default⟩⟩
def z2k (x : Pool) : List VP := [(ro z4w 3 x.fNetwork.fPlaces), (ro z9v 5 x.fNetwork.fEdges), (ro z0y 8 x.fFleet.fTypes), (ro z5h 5 x.fFleet.fWagons), (ro z9o 3 x.fFleet.fSwaps), (ro z8z 3 x.fFleet.fWashes), (ro z6v 3 x.fReaders), (ro z5c 1 x.fShippers), (ro z0x 16 x.fRailways)]
structure Ref where
  fRailway : Int
  fNo : Int
instance : Inhabited Ref := ⟨⟨default, default⟩⟩
def eRef (x : Ref) : List VP := [(iv .i64 x.fRailway), (iv .i64 x.fNo)]
theorem lRef (x : Ref) : (eRef x).length = 2 := rfl

structure Part where
  fKind : Int
  fSerial : Int
  fFitted : Bool
instance : Inhabited Part := ⟨⟨default, default, default⟩⟩
def z9e (x : Part) : List VP := [(iv .i64 x.fKind), (iv .i64 x.fSerial), (bv x.fFitted)]
structure Item where
  fKind : Int
  fRef : Ref
  fWagon : Int
  fPlace : Int
  fOther : Int
  fNumber : Int
  fFrom : Int
  fTo : Int
  fCode : Int
  fDest : Int
  fClass : Int
  fWeight : Int
  fAmount : Int
  fText : ByteArray
  fParts : (List Part)
instance : Inhabited Item := ⟨⟨default, default, default, default, default, default, default, default, default, default, default, default, default, ⟨#[]⟩, default⟩⟩
def zb2 (x : Item) : List VP := [(iv .i64 x.fKind), (iv .i64 x.fRef.fRailway), (iv .i64 x.fRef.fNo), (iv .i64 x.fWagon), (iv .i64 x.fPlace), (iv .i64 x.fOther), (iv .i64 x.fNumber), (iv .i64 x.fFrom), (iv .i64 x.fTo), (iv .i64 x.fCode), (iv .i64 x.fDest), (iv .i64 x.fClass), (iv .i64 x.fWeight), (iv .i64 x.fAmount), (eqv (.string x.fText)), (ro z9e 3 x.fParts)]
structure zf where
  fRef : Ref
  fBy : Ref
  fTime : Int
  fItem : Item
instance : Inhabited zf := ⟨⟨default, default, default, default⟩⟩
def zd (x : zf) : List VP := [(iv .i64 x.fRef.fRailway), (iv .i64 x.fRef.fNo), (iv .i64 x.fBy.fRailway), (iv .i64 x.fBy.fNo), (iv .i64 x.fTime), (iv .i64 x.fItem.fKind), (iv .i64 x.fItem.fRef.fRailway), (iv .i64 x.fItem.fRef.fNo), (iv .i64 x.fItem.fWagon), (iv .i64 x.fItem.fPlace), (iv .i64 x.fItem.fOther), (iv .i64 x.fItem.fNumber), (iv .i64 x.fItem.fFrom), (iv .i64 x.fItem.fTo), (iv .i64 x.fItem.fCode), (iv .i64 x.fItem.fDest), (iv .i64 x.fItem.fClass), (iv .i64 x.fItem.fWeight), (iv .i64 x.fItem.fAmount), (eqv (.string x.fItem.fText)), (ro z9e 3 x.fItem.fParts)]
theorem z81 (x : zf) : (zd x).length = 21 := rfl

def z4x (x : (Nat → Int)) : List VP := arr 2 eI64 x
theorem zjt (x : (Nat → Int)) : (z4x x).length = 2 := rfl

structure z3 where
  fWagon : Int
  fPlace : Int
  fFrom : Int
  fTo : Int
  fAt : Int
  fCode : Int
  fDeliver : Ref
  fReceive : Ref
instance : Inhabited z3 := ⟨⟨default, default, default, default, default, default, default, default⟩⟩
def z5 (x : z3) : List VP := [(iv .i64 x.fWagon), (iv .i64 x.fPlace), (iv .i64 x.fFrom), (iv .i64 x.fTo), (iv .i64 x.fAt), (iv .i64 x.fCode), (iv .i64 x.fDeliver.fRailway), (iv .i64 x.fDeliver.fNo), (iv .i64 x.fReceive.fRailway), (iv .i64 x.fReceive.fNo)]
theorem z1t (x : z3) : (z5 x).length = 10 := rfl

structure zj where
  fRailway : Int
  fSpan : Span
  fRef : Ref
instance : Inhabited zj := ⟨⟨default, default, default⟩⟩
def z26 (x : zj) : List VP := [(iv .i64 x.fRailway), (iv .i64 x.fSpan.fFrom), (iv .i64 x.fSpan.fTo), (iv .i64 x.fRef.fRailway), (iv .i64 x.fRef.fNo)]
theorem z7f (x : zj) : (z26 x).length = 5 := rfl

def zbm (x : (List Int)) : List VP := [ro eI64 1 x]
theorem zkz (x : (List Int)) : (zbm x).length = 1 := rfl

def zi8 (x y : Ref) : Bool := (x.fRailway == y.fRailway) && ((x.fNo == y.fNo) && true)
def zex (x y : z3) : Bool := ((x.fWagon == y.fWagon) && ((x.fPlace == y.fPlace) && ((x.fFrom == y.fFrom) && ((x.fTo == y.fTo) && ((x.fAt == y.fAt) && ((x.fCode == y.fCode) && (((x.fDeliver.fRailway == y.fDeliver.fRailway) && ((x.fDeliver.fNo == y.fDeliver.fNo) && true)) && (((x.fReceive.fRailway == y.fReceive.fRailway) && ((x.fReceive.fNo == y.fReceive.fNo) && true)) && true))))))))
def zgj (x y : zj) : Bool := ((x.fRailway == y.fRailway) && (((x.fSpan.fFrom == y.fSpan.fFrom) && ((x.fSpan.fTo == y.fSpan.fTo) && true)) && (((x.fRef.fRailway == y.fRef.fRailway) && ((x.fRef.fNo == y.fRef.fNo) && true)) && true)))
theorem z59 (x : z3) : z9f (z5 x) := ⟨z7, z7, z7, z7, z7, z7, z7, z7, z7, z7, trivial⟩
theorem zok (x : (Nat → Int)) : z9f (z4x x) := ⟨z7, z7, trivial⟩
theorem zem (x : zj) : z9f (z26 x) := ⟨z7, z7, z7, z7, z7, trivial⟩
theorem fRef (x : Ref) : z9f (eRef x) := ⟨z7, z7, trivial⟩
def zad (φ : Nat)  : Option (Pool) := (some (Pool.mk (z7w.mk [(z75.mk 2 0 (-1)), (z75.mk 2 1 (-1)), (z75.mk 3 0 1)] ([] : List Edge)) (z8m.mk [(z5j.mk 0 0 0 0 0 0 1 0)] [(zbs.mk 0 0 0 0 0)] ([] : List Swap) ([] : List Wash)) ([] : List zca) ([] : List zaa) [(z1r.mk 4 (z37.mk (fun _ => (Span.mk 0 0)) ([] : List Int))), (z1r.mk 16 (z37.mk (fun _ => (Span.mk 0 0)) ([] : List Int)))]))
def z7e (φ : Nat) (v1 : Int) (v2 : Int) (v3 : Int) : Option (zf) := (some (zf.mk (Ref.mk 0 v1) (Ref.mk 0 0) 0 (Item.mk 3 (Ref.mk 0 0) 0 2 1 0 v2 0 v3 0 0 0 0 (⟨#[]⟩) ([] : List Part))))
def z7k (φ : Nat) (v1 : Int) (v2 : Int) (v3 : Int) : Option (zf) := (some (zf.mk (Ref.mk 1 v1) (Ref.mk 0 0) 0 (Item.mk 4 (Ref.mk 0 0) 0 2 0 0 v2 0 v3 0 0 0 0 (⟨#[]⟩) ([] : List Part))))
def z89 (φ : Nat) (v1 : z75) : Option (Bool) := (if (((decide (v1.fKind < 1) || decide (5 < v1.fKind)) || decide (v1.fRailway < 0)) || decide (16 ≤ v1.fRailway)) = true then (some false) else (if (v1.fKind != 3) = true then (some (v1.fOther == (-1))) else (some ((decide (0 ≤ v1.fOther) && decide (v1.fOther < 16)) && (v1.fOther != v1.fRailway)))))
def z4h (φ : Nat) : Option (Int) := (some 0)
def z4f (φ : Nat) (v1 : z7w) (k10 : (Option (Int))) : Nat → Int → Option (Int)
  | 0, _ => none
  | n12 + 1, v11 => (if (decide (v11 < (v1.fEdges.length : Int))) = true then ck ((0 : Int) ≤ v11 ∧ v11 < (v1.fEdges.length : Int)) ((if ((((((decide ((min2 (min2 (min2 ((gt v1.fEdges v11).fA) ((gt v1.fEdges v11).fB)) ((gt v1.fEdges v11).fRailway)) ((gt v1.fEdges v11).fKm)) < 0) || decide ((v1.fPlaces.length : Int) ≤ (max2 ((gt v1.fEdges v11).fA) ((gt v1.fEdges v11).fB)))) || ((gt v1.fEdges v11).fA == (gt v1.fEdges v11).fB)) || decide (16 ≤ (gt v1.fEdges v11).fRailway)) || decide ((gt v1.fEdges v11).fMinutes < 1)) || decide (100000 < (gt v1.fEdges v11).fMinutes)) || decide (10000 < (gt v1.fEdges v11).fKm)) = true then (some 1) else ((z4f φ v1 k10 n12) (W (v11 + 1))))) else k10)
def z49 (φ : Nat) (v1 : z7w) : Option (Int) := (z4f φ v1 (z4h φ) φ 0)
def z4j (φ : Nat) (v1 : z7w) (k9 : (Option (Int))) : Nat → Int → Option (Int)
  | 0, _ => none
  | n48 + 1, v47 => (if (decide (v47 < (v1.fPlaces.length : Int))) = true then ck ((0 : Int) ≤ v47 ∧ v47 < (v1.fPlaces.length : Int)) ((z89 φ (gt v1.fPlaces v47)).bind fun y52 => ((if (!y52) = true then (some 1) else ((z4j φ v1 k9 n48) (W (v47 + 1)))))) else k9)
def z88 (φ : Nat) (v1 : z7w) : Option (Int) := (if (decide (512 < (v1.fPlaces.length : Int)) || decide (2048 < (v1.fEdges.length : Int))) = true then (some 2) else (z4j φ v1 (z49 φ v1) φ 0))
def z1o (φ : Nat) (v1 : Int) (v2 : Int) (v3 : Int) : Option (Bool) := (some (decide (v2 ≤ v1) && decide (v1 ≤ v3)))
def z2n (φ : Nat) (v27 : Int) : Option (Int) := (some v27)
def z42 (φ : Nat) (v29 : Int) (k32 : (Int → Int → (Nat → Bool) → Option (Int))) (v55 : Int) (v56 : (Nat → Bool)) : Option (Int) := (k32 (W (v29 + 1)) v55 v56)
def z6p (φ : Nat) (v1 : z8m) (v29 : Int) (v31 : (Nat → Bool)) (k57 : (Int → (Nat → Bool) → Option (Int))) (v62 : Int) : Option (Int) := (k57 v62 (upd v31 (((gt v1.fWashes v29).fFrom : Int).toNat * 64 + ((gt v1.fWashes v29).fTo : Int).toNat) true))
def z5q (φ : Nat) (v1 : z8m) (v29 : Int) (v31 : (Nat → Bool)) (k32 : (Int → Int → (Nat → Bool) → Option (Int))) (y36 : (Bool)) (y40 : (Bool)) (y51 : (Bool)) (v53 : Int) : Option (Int) := (if (((y36 && y40) && ((gt v1.fWashes v29).fFrom != (gt v1.fWashes v29).fTo)) && y51) = true then ck ((0 : Int) ≤ (gt v1.fWashes v29).fFrom ∧ (gt v1.fWashes v29).fFrom < 64) (ck ((0 : Int) ≤ (gt v1.fWashes v29).fTo ∧ (gt v1.fWashes v29).fTo < 64) ((if (!(!(v31 (((gt v1.fWashes v29).fFrom : Int).toNat * 64 + ((gt v1.fWashes v29).fTo : Int).toNat)))) = true then ((z6p φ v1 v29 v31 (z42 φ v29 k32)) 1) else ((z6p φ v1 v29 v31 (z42 φ v29 k32)) v53)))) else ((z42 φ v29 k32) v53 v31))
def z1a (φ : Nat) (v1 : z8m) (k28 : (Int → Option (Int))) : Nat → Int → Int → (Nat → Bool) → Option (Int)
  | 0, _, _, _ => none
  | n32 + 1, v29, v30, v31 => (if (decide (v29 < (v1.fWashes.length : Int))) = true then ck ((0 : Int) ≤ v29 ∧ v29 < (v1.fWashes.length : Int)) ((z1o φ ((gt v1.fWashes v29).fFrom) 0 63).bind fun y36 => ((z5l (y36 = true) (z1o φ ((gt v1.fWashes v29).fTo) 0 63)).bind fun y40 => ((z5l (((y36 && y40) && ((gt v1.fWashes v29).fFrom != (gt v1.fWashes v29).fTo)) = true) (z1o φ ((gt v1.fWashes v29).fMinutes) 0 100000)).bind fun y51 => ((if (!(((y36 && y40) && ((gt v1.fWashes v29).fFrom != (gt v1.fWashes v29).fTo)) && y51)) = true then ((z5q φ v1 v29 v31 (z1a φ v1 k28 n32) y36 y40 y51) 1) else ((z5q φ v1 v29 v31 (z1a φ v1 k28 n32) y36 y40 y51) v30)))))) else (k28 v30))
def z4n (φ : Nat) (v1 : z8m) (v24 : Int) : Option (Int) := (z1a φ v1 (z2n φ) φ 0 v24 (fun _ => false))
def z6n (φ : Nat) (v67 : Int) (k69 : (Int → Int → Option (Int))) (v94 : Int) : Option (Int) := (k69 (W (v67 + 1)) v94)
def z3h (φ : Nat) (v1 : z8m) (k25 : (Int → Option (Int))) : Nat → Int → Int → Option (Int)
  | 0, _, _ => none
  | n69 + 1, v67, v68 => (if (decide (v67 < (v1.fSwaps.length : Int))) = true then ck ((0 : Int) ≤ v67 ∧ v67 < (v1.fSwaps.length : Int)) ((z1o φ ((gt v1.fSwaps v67).fWanted) 0 (W ((v1.fTypes.length : Int) - 1))).bind fun y73 => ((z5l (y73 = true) (z1o φ ((gt v1.fSwaps v67).fGiven) 0 (W ((v1.fTypes.length : Int) - 1)))).bind fun y81 => ((z5l (((y73 && y81) && ((gt v1.fSwaps v67).fWanted != (gt v1.fSwaps v67).fGiven)) = true) (z1o φ ((gt v1.fSwaps v67).fCost) 0 1000000000)).bind fun y92 => ((if (!(((y73 && y81) && ((gt v1.fSwaps v67).fWanted != (gt v1.fSwaps v67).fGiven)) && y92)) = true then ((z6n φ v67 (z3h φ v1 k25 n69)) 1) else ((z6n φ v67 (z3h φ v1 k25 n69)) v68)))))) else (k25 v68))
def z3f (φ : Nat) (v1 : z8m) (v22 : Int) : Option (Int) := (z3h φ v1 (z4n φ v1) φ 0 v22)
def z5x (φ : Nat) (v97 : Int) (k99 : (Int → Int → Option (Int))) (v122 : Int) : Option (Int) := (k99 (W (v97 + 1)) v122)
def z5z (φ : Nat) (v1 : z8m) (v97 : Int) (k99 : (Int → Int → Option (Int))) (v114 : Int) : Option (Int) := (z1o φ ((gt v1.fWagons v97).fBuilt) 0 1073741824).bind fun y116 => ((z5l (y116 = true) (z1o φ ((gt v1.fWagons v97).fWorth) 0 1099511627776)).bind fun y120 => ((if (!(y116 && y120)) = true then ((z5x φ v97 k99) 1) else ((z5x φ v97 k99) v114))))
def z2p (φ : Nat) (v1 : z8m) (k23 : (Int → Option (Int))) : Nat → Int → Int → Option (Int)
  | 0, _, _ => none
  | n99 + 1, v97, v98 => (if (decide (v97 < (v1.fWagons.length : Int))) = true then ck ((0 : Int) ≤ v97 ∧ v97 < (v1.fWagons.length : Int)) ((z1o φ ((gt v1.fWagons v97).fType) 0 (W ((v1.fTypes.length : Int) - 1))).bind fun y103 => ((z5l (y103 = true) (z1o φ ((gt v1.fWagons v97).fOwner) 0 63)).bind fun y107 => ((z5l ((y103 && y107) = true) (z1o φ ((gt v1.fWagons v97).fHome) 0 511)).bind fun y112 => ((if (!((y103 && y107) && y112)) = true then ((z5z φ v1 v97 (z2p φ v1 k23 n99)) 1) else ((z5z φ v1 v97 (z2p φ v1 k23 n99)) v98)))))) else (k23 v98))
def z1k (φ : Nat) (v1 : z8m) (v20 : Int) : Option (Int) := (z2p φ v1 (z3f φ v1) φ 0 v20)
def z2b (φ : Nat) (v126 : Int) (k128 : (Int → Int → Option (Int))) (v130 : Int) : Option (Int) := (k128 (W (v126 + 1)) v130)
def z63 (φ : Nat) (k131 : (Int → Option (Int))) (v148 : Int) : Option (Int) := (k131 v148)
def z48 (φ : Nat) (v1 : z8m) (v126 : Int) (k131 : (Int → Option (Int))) (v135 : Int) : Option (Int) := (z1o φ ((gt v1.fTypes v126).fGauge) 0 7).bind fun y137 => ((z5l (y137 = true) (z1o φ ((gt v1.fTypes v126).fLife) 1 1073741824)).bind fun y141 => ((z5l ((y137 && y141) = true) (z1o φ ((gt v1.fTypes v126).fFloor) 0 100)).bind fun y146 => ((if (!((y137 && y141) && y146)) = true then ((z63 φ k131) 1) else ((z63 φ k131) v135)))))
def z62 (φ : Nat) (v151 : Int) (k153 : (Int → Int → Option (Int))) (v157 : Int) : Option (Int) := (k153 (W (v151 + 1)) v157)
def z2l (φ : Nat) (v1 : z8m) (v126 : Int) (k136 : (Int → Option (Int))) : Nat → Int → Int → Option (Int)
  | 0, _, _ => none
  | n153 + 1, v151, v152 => (if (decide (v151 < ([(gt v1.fTypes v126).fLoad, (gt v1.fTypes v126).fTare, (gt v1.fTypes v126).fLength, (gt v1.fTypes v126).fBrake].length : Int))) = true then ck ((0 : Int) ≤ v151 ∧ v151 < ([(gt v1.fTypes v126).fLoad, (gt v1.fTypes v126).fTare, (gt v1.fTypes v126).fLength, (gt v1.fTypes v126).fBrake].length : Int)) ((z1o φ (gt [(gt v1.fTypes v126).fLoad, (gt v1.fTypes v126).fTare, (gt v1.fTypes v126).fLength, (gt v1.fTypes v126).fBrake] v151) 0 1000000).bind fun y156 => ((if (!y156) = true then ((z62 φ v151 (z2l φ v1 v126 k136 n153)) 1) else ((z62 φ v151 (z2l φ v1 v126 k136 n153)) v152)))) else (k136 v152))
def z11 (φ : Nat) (v1 : z8m) (k21 : (Int → Option (Int))) : Nat → Int → Int → Option (Int)
  | 0, _, _ => none
  | n128 + 1, v126, v127 => (if (decide (v126 < (v1.fTypes.length : Int))) = true then ck ((0 : Int) ≤ v126 ∧ v126 < (v1.fTypes.length : Int)) ((z2l φ v1 v126 (z48 φ v1 v126 (z2b φ v126 (z11 φ v1 k21 n128))) φ 0 v127)) else (k21 v127))
def z9d (φ : Nat) (v1 : z8m) : Option (Int) := (if (((decide (32 < (v1.fTypes.length : Int)) || decide (4096 < (v1.fWagons.length : Int))) || decide (1024 < (v1.fSwaps.length : Int))) || decide (4096 < (v1.fWashes.length : Int))) = true then (some 2) else (z11 φ v1 (z1k φ v1) φ 0 0))
def z4t (φ : Nat) : Option (Int) := (some 0)
def z4k (φ : Nat) (v1 : z37) (k4 : (Option (Int))) : Nat → Int → Int → Option (Int)
  | 0, _, _ => none
  | n7 + 1, v5, v6 => (if (decide (v6 < (v1.fHolidays.length : Int))) = true then ck ((0 : Int) ≤ v6 ∧ v6 < (v1.fHolidays.length : Int)) ((if (decide ((gt v1.fHolidays v6) ≤ v5) || decide (745654 < (gt v1.fHolidays v6))) = true then (some 1) else ((z4k φ v1 k4 n7) (gt v1.fHolidays v6) (W (v6 + 1))))) else k4)
def z4g (φ : Nat) (v1 : z37) : Option (Int) := (z4k φ v1 (z4t φ) φ (-1) 0)
def z3t (φ : Nat) (v1 : z37) (k3 : (Option (Int))) : Nat → Int → Option (Int)
  | 0, _ => none
  | n15 + 1, v14 => (if (decide (v14 < 7)) = true then ck ((0 : Int) ≤ v14 ∧ v14 < 7) ((if ((decide ((v1.fOpen (v14 : Int).toNat).fFrom < 0) || decide ((v1.fOpen (v14 : Int).toNat).fTo < (v1.fOpen (v14 : Int).toNat).fFrom)) || decide (1440 < (v1.fOpen (v14 : Int).toNat).fTo)) = true then (some 1) else ((z3t φ v1 k3 n15) (W (v14 + 1))))) else k3)
def z7o (φ : Nat) (v1 : z37) : Option (Int) := (z3t φ v1 (z4g φ v1) φ 0)
def z8g (φ : Nat) (v1 : Int) (v2 : Int) : Option (Int × Int) := (some ((U ((U ((U ((v1.fdiv 4294967296) * (v2.fdiv 4294967296))) + ((U ((U ((v1.fdiv 4294967296) * (U ((BitVec.ofInt (IntKind.bits .u64) v2 &&& BitVec.ofInt (IntKind.bits .u64) 4294967295).toNat)))) + ((U ((U ((BitVec.ofInt (IntKind.bits .u64) v1 &&& BitVec.ofInt (IntKind.bits .u64) 4294967295).toNat)) * (U ((BitVec.ofInt (IntKind.bits .u64) v2 &&& BitVec.ofInt (IntKind.bits .u64) 4294967295).toNat)))).fdiv 4294967296))).fdiv 4294967296))) + ((U ((U ((BitVec.ofInt (IntKind.bits .u64) (U ((U ((v1.fdiv 4294967296) * (U ((BitVec.ofInt (IntKind.bits .u64) v2 &&& BitVec.ofInt (IntKind.bits .u64) 4294967295).toNat)))) + ((U ((U ((BitVec.ofInt (IntKind.bits .u64) v1 &&& BitVec.ofInt (IntKind.bits .u64) 4294967295).toNat)) * (U ((BitVec.ofInt (IntKind.bits .u64) v2 &&& BitVec.ofInt (IntKind.bits .u64) 4294967295).toNat)))).fdiv 4294967296))) &&& BitVec.ofInt (IntKind.bits .u64) 4294967295).toNat)) + (U ((U ((BitVec.ofInt (IntKind.bits .u64) v1 &&& BitVec.ofInt (IntKind.bits .u64) 4294967295).toNat)) * (v2.fdiv 4294967296))))).fdiv 4294967296))), (U (v1 * v2))))
def z6c (φ : Nat) (v8 : Int) (v9 : Int) : Option (Int) := ck ((0 : Int) ≤ (IntKind.wrap .u8 (v8)) ∧ (IntKind.wrap .u8 (v8)) < 256) ((some (W (v9 + (W ((za4 zbe (IntKind.wrap .u8 (v8)))))))))
def z6t (φ : Nat) (v5 : Int) (v6 : Int) : Option (Int) := (if (decide (256 ≤ v5)) = true then ((z6c φ) (v5.fdiv 256) (W (v6 + 8))) else ((z6c φ) v5 v6))
def z6w (φ : Nat) (v2 : Int) (v3 : Int) : Option (Int) := (if (decide (65536 ≤ v2)) = true then ((z6t φ) (v2.fdiv 65536) (W (v3 + 16))) else ((z6t φ) v2 v3))
def z8i (φ : Nat) (v1 : Int) : Option (Int) := (if (decide (4294967296 ≤ v1)) = true then ((z6w φ) (v1.fdiv 4294967296) 32) else ((z6w φ) v1 0))
def z5o (φ : Nat) (v1 : Int) : Option (Int) := (z8i φ v1).bind fun y2 => ((some (W (64 - y2))))
def z6a (φ : Nat) (v1 : Int) (v2 : Int) (v3 : Int) (y8 : (Int)) (v12 : Int) (v15 : Int) : Option (Int × Int) := ck (0 ≤ (U (y8))) ((some ((U ((U (v12 * 4294967296)) + v15)), ((U ((U ((U ((U ((U ((U ((U ((BitVec.ofInt (IntKind.bits .u64) (U (v1 * 2 ^ (min ((U (y8)) : Int).toNat (IntKind.bits .u64)))) ||| BitVec.ofInt (IntKind.bits .u64) (v2.fdiv (2 ^ (min ((U (64 - (U (y8)))) : Int).toNat (IntKind.bits .u64))))).toNat)) * 4294967296)) + ((U (v2 * 2 ^ (min ((U (y8)) : Int).toNat (IntKind.bits .u64)))).fdiv 4294967296))) - (U (v12 * (U (v3 * 2 ^ (min ((U (y8)) : Int).toNat (IntKind.bits .u64)))))))) * 4294967296)) + (U ((BitVec.ofInt (IntKind.bits .u64) (U (v2 * 2 ^ (min ((U (y8)) : Int).toNat (IntKind.bits .u64)))) &&& BitVec.ofInt (IntKind.bits .u64) 4294967295).toNat)))) - (U (v15 * (U (v3 * 2 ^ (min ((U (y8)) : Int).toNat (IntKind.bits .u64)))))))).fdiv (2 ^ (min ((U (y8)) : Int).toNat (IntKind.bits .u64)))))))
def z53 (φ : Nat) (v2 : Int) (v3 : Int) (y8 : (Int)) (k16 : (Int → Option (Int × Int))) : Nat → Int → Int → Option (Int × Int)
  | 0, _, _ => none
  | n20 + 1, v18, v19 => (if (decide (4294967296 ≤ v19) || decide ((U ((U (4294967296 * v18)) + (U ((BitVec.ofInt (IntKind.bits .u64) (U (v2 * 2 ^ (min ((U (y8)) : Int).toNat (IntKind.bits .u64)))) &&& BitVec.ofInt (IntKind.bits .u64) 4294967295).toNat)))) < (U (v19 * (U ((BitVec.ofInt (IntKind.bits .u64) (U (v3 * 2 ^ (min ((U (y8)) : Int).toNat (IntKind.bits .u64)))) &&& BitVec.ofInt (IntKind.bits .u64) 4294967295).toNat)))))) = true then (if (decide (4294967296 ≤ (U (v18 + ((U (v3 * 2 ^ (min ((U (y8)) : Int).toNat (IntKind.bits .u64)))).fdiv 4294967296))))) = true then (k16 (U (v19 - 1))) else ((z53 φ v2 v3 y8 k16 n20) (U (v18 + ((U (v3 * 2 ^ (min ((U (y8)) : Int).toNat (IntKind.bits .u64)))).fdiv 4294967296))) (U (v19 - 1)))) else (k16 v19))
def z69 (φ : Nat) (v1 : Int) (v2 : Int) (v3 : Int) (y8 : (Int)) (v12 : Int) : Option (Int × Int) := ck (((U (v3 * 2 ^ (min ((U (y8)) : Int).toNat (IntKind.bits .u64)))).fdiv 4294967296) ≠ 0) ((z53 φ v2 v3 y8 (z6a φ v1 v2 v3 y8 v12) φ (U ((U ((U ((U ((U ((BitVec.ofInt (IntKind.bits .u64) (U (v1 * 2 ^ (min ((U (y8)) : Int).toNat (IntKind.bits .u64)))) ||| BitVec.ofInt (IntKind.bits .u64) (v2.fdiv (2 ^ (min ((U (64 - (U (y8)))) : Int).toNat (IntKind.bits .u64))))).toNat)) * 4294967296)) + ((U (v2 * 2 ^ (min ((U (y8)) : Int).toNat (IntKind.bits .u64)))).fdiv 4294967296))) - (U (v12 * (U (v3 * 2 ^ (min ((U (y8)) : Int).toNat (IntKind.bits .u64)))))))) - (U ((U ((U ((U ((U ((U ((BitVec.ofInt (IntKind.bits .u64) (U (v1 * 2 ^ (min ((U (y8)) : Int).toNat (IntKind.bits .u64)))) ||| BitVec.ofInt (IntKind.bits .u64) (v2.fdiv (2 ^ (min ((U (64 - (U (y8)))) : Int).toNat (IntKind.bits .u64))))).toNat)) * 4294967296)) + ((U (v2 * 2 ^ (min ((U (y8)) : Int).toNat (IntKind.bits .u64)))).fdiv 4294967296))) - (U (v12 * (U (v3 * 2 ^ (min ((U (y8)) : Int).toNat (IntKind.bits .u64)))))))).tdiv ((U (v3 * 2 ^ (min ((U (y8)) : Int).toNat (IntKind.bits .u64)))).fdiv 4294967296))) * ((U (v3 * 2 ^ (min ((U (y8)) : Int).toNat (IntKind.bits .u64)))).fdiv 4294967296))))) (U ((U ((U ((U ((U ((BitVec.ofInt (IntKind.bits .u64) (U (v1 * 2 ^ (min ((U (y8)) : Int).toNat (IntKind.bits .u64)))) ||| BitVec.ofInt (IntKind.bits .u64) (v2.fdiv (2 ^ (min ((U (64 - (U (y8)))) : Int).toNat (IntKind.bits .u64))))).toNat)) * 4294967296)) + ((U (v2 * 2 ^ (min ((U (y8)) : Int).toNat (IntKind.bits .u64)))).fdiv 4294967296))) - (U (v12 * (U (v3 * 2 ^ (min ((U (y8)) : Int).toNat (IntKind.bits .u64)))))))).tdiv ((U (v3 * 2 ^ (min ((U (y8)) : Int).toNat (IntKind.bits .u64)))).fdiv 4294967296)))))
def z51 (φ : Nat) (v2 : Int) (v3 : Int) (y8 : (Int)) (k13 : (Int → Option (Int × Int))) : Nat → Int → Int → Option (Int × Int)
  | 0, _, _ => none
  | n34 + 1, v32, v33 => (if (decide (4294967296 ≤ v32) || decide ((U ((U (4294967296 * v33)) + ((U (v2 * 2 ^ (min ((U (y8)) : Int).toNat (IntKind.bits .u64)))).fdiv 4294967296))) < (U (v32 * (U ((BitVec.ofInt (IntKind.bits .u64) (U (v3 * 2 ^ (min ((U (y8)) : Int).toNat (IntKind.bits .u64)))) &&& BitVec.ofInt (IntKind.bits .u64) 4294967295).toNat)))))) = true then (if (decide (4294967296 ≤ (U (v33 + ((U (v3 * 2 ^ (min ((U (y8)) : Int).toNat (IntKind.bits .u64)))).fdiv 4294967296))))) = true then (k13 (U (v32 - 1))) else ((z51 φ v2 v3 y8 k13 n34) (U (v32 - 1)) (U (v33 + ((U (v3 * 2 ^ (min ((U (y8)) : Int).toNat (IntKind.bits .u64)))).fdiv 4294967296))))) else (k13 v32))
def z7d (φ : Nat) (v1 : Int) (v2 : Int) (v3 : Int) : Option (Int × Int) := (if (v3 == 0) = true then none else (if (decide (v3 ≤ v1)) = true then none else (if (v1 == 0) = true then ck (v3 ≠ 0) ((some ((U (v2.tdiv v3)), (v2.tmod v3)))) else (z5o φ v3).bind fun y8 => (ck (0 ≤ (U (y8))) (ck (0 ≤ (U (64 - (U (y8))))) (ck (((U (v3 * 2 ^ (min ((U (y8)) : Int).toNat (IntKind.bits .u64)))).fdiv 4294967296) ≠ 0) ((z51 φ v2 v3 y8 (z69 φ v1 v2 v3 y8) φ (U ((U ((BitVec.ofInt (IntKind.bits .u64) (U (v1 * 2 ^ (min ((U (y8)) : Int).toNat (IntKind.bits .u64)))) ||| BitVec.ofInt (IntKind.bits .u64) (v2.fdiv (2 ^ (min ((U (64 - (U (y8)))) : Int).toNat (IntKind.bits .u64))))).toNat)).tdiv ((U (v3 * 2 ^ (min ((U (y8)) : Int).toNat (IntKind.bits .u64)))).fdiv 4294967296))) (U ((U ((BitVec.ofInt (IntKind.bits .u64) (U (v1 * 2 ^ (min ((U (y8)) : Int).toNat (IntKind.bits .u64)))) ||| BitVec.ofInt (IntKind.bits .u64) (v2.fdiv (2 ^ (min ((U (64 - (U (y8)))) : Int).toNat (IntKind.bits .u64))))).toNat)) - (U ((U ((U ((BitVec.ofInt (IntKind.bits .u64) (U (v1 * 2 ^ (min ((U (y8)) : Int).toNat (IntKind.bits .u64)))) ||| BitVec.ofInt (IntKind.bits .u64) (v2.fdiv (2 ^ (min ((U (64 - (U (y8)))) : Int).toNat (IntKind.bits .u64))))).toNat)).tdiv ((U (v3 * 2 ^ (min ((U (y8)) : Int).toNat (IntKind.bits .u64)))).fdiv 4294967296))) * ((U (v3 * 2 ^ (min ((U (y8)) : Int).toNat (IntKind.bits .u64)))).fdiv 4294967296)))))))))))))
def z5p (φ : Nat) (v5 : Int) : Option (Int) := (some v5)
def z77 (φ : Nat) (v8 : Int) (k9 : (Int → Int → Option (Int))) (v15 : Int) : Option (Int) := (k9 v15 (W (v8 + 1)))
def z58 (φ : Nat) (v1 : Int) (v2 : Int) (y4 : (Int)) (k6 : (Int → Option (Int))) : Nat → Int → Int → Option (Int)
  | 0, _, _ => none
  | n9 + 1, v7, v8 => (if (decide (v8 < y4)) = true then (z8g φ (v7.tmod 2305843009213690799) (v7.tmod 2305843009213690799)).bind fun y11 => ((z7d φ y11.1 y11.2 2305843009213690799).bind fun y12 => ((z8i φ v2).bind fun y13 => (ck (0 ≤ (W ((W (y13 - 1)) - v8))) ((if ((U ((BitVec.ofInt (IntKind.bits .u64) (v2.fdiv (2 ^ (min ((W ((W (y13 - 1)) - v8)) : Int).toNat (IntKind.bits .u64)))) &&& BitVec.ofInt (IntKind.bits .u64) 1).toNat)) == 1) = true then (z8g φ (y12.2.tmod 2305843009213690799) (v1.tmod 2305843009213690799)).bind fun y18 => ((z7d φ y18.1 y18.2 2305843009213690799).bind fun y19 => (((z77 φ v8 (z58 φ v1 v2 y4 k6 n9)) y19.2))) else ((z77 φ v8 (z58 φ v1 v2 y4 k6 n9)) y12.2)))))) else (k6 v7))
def zcq (φ : Nat) (v1 : Int) (v2 : Int) : Option (Int) := (z8i φ v2).bind fun y4 => ((z58 φ v1 v2 y4 (z5p φ) φ 1 0))
def za9 (φ : Nat) (v1 : Int) : Option (Bool) := (z5l ((decide (2 ≤ v1) && decide (v1 < 2305843009213690799)) = true) (zcq φ v1 1152921504606845399)).bind fun y7 => ((some ((decide (2 ≤ v1) && decide (v1 < 2305843009213690799)) && (y7 == 1))))
def z2e (φ : Nat) (v28 : Bool) : Option (Int) := (if v28 = true then (some 1) else (some 0))
def z3l (φ : Nat) (v1 : Pool) (k29 : (Bool → Option (Int))) : Nat → Bool → Int → Option (Int)
  | 0, _, _ => none
  | n33 + 1, v31, v32 => (if (decide (v32 < (v1.fRailways.length : Int))) = true then ck ((0 : Int) ≤ v32 ∧ v32 < (v1.fRailways.length : Int)) ((z5l (v31 = false) (z7o φ ((gt v1.fRailways v32).fCalendar))).bind fun y40 => ((z5l ((v31 || (y40 != 0)) = false) (za9 φ ((gt v1.fRailways v32).fKey))).bind fun y46 => (((z3l φ v1 k29 n33) ((v31 || (y40 != 0)) || (!y46)) (W (v32 + 1)))))) else (k29 v31))
def z2z (φ : Nat) (v1 : Pool) (v26 : Bool) : Option (Int) := (z3l φ v1 (z2e φ) φ v26 0)
def z3j (φ : Nat) (v1 : Pool) (k27 : (Bool → Option (Int))) : Nat → Bool → Int → Option (Int)
  | 0, _, _ => none
  | n51 + 1, v49, v50 => (if (decide (v50 < (v1.fNetwork.fEdges.length : Int))) = true then ck ((0 : Int) ≤ v50 ∧ v50 < (v1.fNetwork.fEdges.length : Int)) (((z3j φ v1 k27 n51) (v49 || decide ((v1.fRailways.length : Int) ≤ (gt v1.fNetwork.fEdges v50).fRailway)) (W (v50 + 1)))) else (k27 v49))
def z33 (φ : Nat) (v1 : Pool) (v24 : Bool) : Option (Int) := (z3j φ v1 (z2z φ v1) φ v24 0)
def z3g (φ : Nat) (v1 : Pool) (k25 : (Bool → Option (Int))) : Nat → Bool → Int → Option (Int)
  | 0, _, _ => none
  | n62 + 1, v60, v61 => (if (decide (v61 < (v1.fNetwork.fPlaces.length : Int))) = true then ck ((0 : Int) ≤ v61 ∧ v61 < (v1.fNetwork.fPlaces.length : Int)) (((z3g φ v1 k25 n62) ((v60 || decide ((v1.fRailways.length : Int) ≤ (gt v1.fNetwork.fPlaces v61).fRailway)) || decide ((v1.fRailways.length : Int) ≤ (gt v1.fNetwork.fPlaces v61).fOther)) (W (v61 + 1)))) else (k25 v60))
def z30 (φ : Nat) (v1 : Pool) (v22 : Bool) : Option (Int) := (z3g φ v1 (z33 φ v1) φ v22 0)
def z3n (φ : Nat) (v1 : Pool) (k23 : (Bool → Option (Int))) : Nat → Bool → Int → Option (Int)
  | 0, _, _ => none
  | n78 + 1, v76, v77 => (if (decide (v77 < (v1.fFleet.fWagons.length : Int))) = true then ck ((0 : Int) ≤ v77 ∧ v77 < (v1.fFleet.fWagons.length : Int)) (((z3n φ v1 k23 n78) (v76 || decide ((v1.fNetwork.fPlaces.length : Int) ≤ (gt v1.fFleet.fWagons v77).fHome)) (W (v77 + 1)))) else (k23 v76))
def z31 (φ : Nat) (v1 : Pool) (v20 : Bool) : Option (Int) := (z3n φ v1 (z30 φ v1) φ v20 0)
def z3m (φ : Nat) (v1 : Pool) (k21 : (Bool → Option (Int))) : Nat → Bool → Int → Option (Int)
  | 0, _, _ => none
  | n90 + 1, v88, v89 => (if (decide (v89 < (v1.fShippers.length : Int))) = true then ck ((0 : Int) ≤ v89 ∧ v89 < (v1.fShippers.length : Int)) ((z5l (v88 = false) (z1o φ ((gt v1.fShippers v89).fPlace) 0 (W ((v1.fNetwork.fPlaces.length : Int) - 1)))).bind fun y100 => (ck (((v88 || (!y100)) = false) → ((0 : Int) ≤ (gt v1.fShippers v89).fPlace ∧ (gt v1.fShippers v89).fPlace < (v1.fNetwork.fPlaces.length : Int))) (((z3m φ v1 k21 n90) ((v88 || (!y100)) || ((gt v1.fNetwork.fPlaces ((gt v1.fShippers v89).fPlace)).fKind != 4)) (W (v89 + 1)))))) else (k21 v88))
def z32 (φ : Nat) (v1 : Pool) (v18 : Bool) : Option (Int) := (z3m φ v1 (z31 φ v1) φ v18 0)
def z38 (φ : Nat) (v1 : Pool) (k19 : (Bool → Option (Int))) : Nat → Bool → Int → Option (Int)
  | 0, _, _ => none
  | n114 + 1, v112, v113 => (if (decide (v113 < (v1.fReaders.length : Int))) = true then ck ((0 : Int) ≤ v113 ∧ v113 < (v1.fReaders.length : Int)) ((z5l (v112 = false) (z1o φ ((gt v1.fReaders v113).fPlace) 0 (W ((v1.fNetwork.fPlaces.length : Int) - 1)))).bind fun y124 => (((z38 φ v1 k19 n114) ((((v112 || (!y124)) || decide ((gt v1.fReaders v113).fLow < (-1000))) || decide ((gt v1.fReaders v113).fHigh < (gt v1.fReaders v113).fLow)) || decide (1000 < (gt v1.fReaders v113).fHigh)) (W (v113 + 1))))) else (k19 v112))
def z41 (φ : Nat) (v1 : Pool) : Option (Int) := (z88 φ v1.fNetwork).bind fun y3 => ((if (y3 != 0) = true then (some y3) else (z9d φ v1.fFleet).bind fun y5 => ((if (y5 != 0) = true then (some y5) else (if ((decide (256 < (v1.fReaders.length : Int)) || decide (256 < (v1.fShippers.length : Int))) || decide (16 < (v1.fRailways.length : Int))) = true then (some 2) else (z38 φ v1 (z32 φ v1) φ ((v1.fRailways.length : Int) == 0) 0))))))
def z87 (φ : Nat) (v1 : Item) : Option (Bool) := (if (zi8 v1.fRef (Ref.mk 0 0)) = true then (some (v1.fKind != 14)) else (some (((decide (0 ≤ v1.fRef.fRailway) && decide (v1.fRef.fRailway < 16)) && decide (1 ≤ v1.fRef.fNo)) && decide (v1.fRef.fNo ≤ 4096))))
def z55 (φ : Nat) (v2 : Item) (v105 : Bool) : Option (Bool) := (some ((v105 && (v2.fText == zf3)) && ((v2.fParts.length : Int) == 0)))
def z4m (φ : Nat) (v2 : Item) (k106 : (Bool → Option (Bool))) : Nat → Int → Bool → Option (Bool)
  | 0, _, _ => none
  | n120 + 1, v118, v119 => (if (decide (v118 < 11)) = true then ck ((0 : Int) ≤ v118 ∧ v118 < 11) (((z4m φ v2 k106 n120) (W (v118 + 1)) (v119 && ((gt [0, 0, 0, v2.fNumber, 0, v2.fTo, 0, v2.fDest, v2.fClass, v2.fWeight, v2.fAmount] v118) == 0)))) else (k106 v119))
def z6y (φ : Nat) (v1 : Pool) (v2 : Item) (v41 : Int) (v42 : Int) (v43 : Int) : Option (Bool) := (z4m φ v2 (z55 φ v2) φ 0 (((((((((true && decide (0 ≤ v2.fWagon)) && decide (v2.fWagon ≤ (W ((v1.fFleet.fWagons.length : Int) - 1)))) && (v41 != 0)) && ((3 == 0) || (v41 == 3))) && ((v2.fOther == v42) || (v2.fOther == v43))) && decide (0 ≤ v2.fFrom)) && decide (v2.fFrom ≤ 1073741824)) && decide (0 ≤ v2.fCode)) && decide (v2.fCode ≤ 8)))
def z68 (φ : Nat) (v1 : Pool) (v2 : Item) (v23 : Bool) : Option (Bool) := (if v23 = true then (if (decide (0 ≤ v2.fPlace) && decide (v2.fPlace < (v1.fNetwork.fPlaces.length : Int))) = true then ck ((0 : Int) ≤ v2.fPlace ∧ v2.fPlace < (v1.fNetwork.fPlaces.length : Int)) (((z6y φ v1 v2) ((gt v1.fNetwork.fPlaces v2.fPlace).fKind) ((gt v1.fNetwork.fPlaces v2.fPlace).fRailway) ((gt v1.fNetwork.fPlaces v2.fPlace).fOther))) else ((z6y φ v1 v2) 0 0 0)) else none)
def z9a (φ : Nat) (v1 : Pool) (v2 : Item) : Option (Bool) := (if (decide (v2.fKind ≤ 7)) = true then (if (decide (v2.fKind < 1)) = true then none else (if (v2.fKind == 1) = true then none else (if (v2.fKind == 2) = true then none else (if (v2.fKind == 3) = true then ((z68 φ v1 v2) (v2.fKind == 3)) else ((z68 φ v1 v2) (v2.fKind == 4)))))) else none)
def z8r (φ : Nat) (v1 : Pool) (v2 : Item) : Option (Int) := (z41 φ v1).bind fun y5 => ((if (y5 != 0) = true then (some y5) else (z87 φ v2).bind fun y7 => ((z5l ((!y7) = false) (z9a φ v1 v2)).bind fun y11 => ((if ((!y7) || (!y11)) = true then (some 110) else (some 0))))))
def z4z (φ : Nat) (v5 : (List Int)) : Option ((List Int)) := (some v5)
def z6j (φ : Nat) (v8 : Int) (k11 : (Int → (List Int) → Option ((List Int)))) (v22 : (List Int)) : Option ((List Int)) := (k11 (W (v8 + 1)) v22)
def z3o (φ : Nat) (v1 : Pool) (v2 : (List zf)) (v3 : Int) (k7 : ((List Int) → Option ((List Int)))) : Nat → Int → (List Int) → Option ((List Int))
  | 0, _, _ => none
  | n11 + 1, v8, v9 => (if (decide (v8 < (v2.length : Int))) = true then ck ((0 : Int) ≤ v8 ∧ v8 < (v2.length : Int)) ((z5l (((gt v2 v8).fItem.fKind == v3) = true) (z8r φ v1 ((gt v2 v8).fItem))).bind fun y19 => ((if (((gt v2 v8).fItem.fKind == v3) && (y19 == 0)) = true then ck (fits (v9.length + [v8].length) 8) (((z6j φ v8 (z3o φ v1 v2 v3 k7 n11)) (v9 ++ [v8]))) else ((z6j φ v8 (z3o φ v1 v2 v3 k7 n11)) v9)))) else (k7 v9))
def z76 (φ : Nat) (v1 : Pool) (v2 : (List zf)) (v3 : Int) : Option ((List Int)) := (z3o φ v1 v2 v3 (z4z φ) φ 0 ([] : List Int))
def zh0 (r : ((List Int))) (x : VP) (news : List HP) : Prop := ∃ sv0, x = eqv sv0 ∧ news = [row 3 eI64 1 r sv0]
def zb1 (φ : Nat) (v1 : Int) : Option (Bool) := (some (v1 != v1))
def z5k (φ : Nat) (v1 : Int) (v2 : Int) : Option (Int) := (zb1 φ v1).bind fun y3 => ((zb1 φ v2).bind fun y4 => ((if y3 = true then (if y4 = true then (some 0) else (some (-1))) else (if y4 = true then (some 1) else (if (decide (v1 < v2)) = true then (some (-1)) else (if (decide (v2 < v1)) = true then (some 1) else (some 0)))))))
def z9n (φ : Nat) : Option (Int) := (some 0)
def z9i (φ : Nat) (v1 : (List Int)) (k2 : (Option (Int))) : Nat → Int → Option (Int)
  | 0, _ => none
  | n4 + 1, v3 => (if (decide (v3 < (v1.length : Int))) = true then ck ((0 : Int) ≤ v3 ∧ v3 < (v1.length : Int)) ((if ((gt v1 v3) != 0) = true then (some (gt v1 v3)) else ((z9i φ v1 k2 n4) (W (v3 + 1))))) else k2)
def zc5 (φ : Nat) (v1 : (List Int)) : Option (Int) := (z9i φ v1 (z9n φ) φ 0)
def z40 (φ : Nat) (v1 : Ref) (v2 : Ref) : Option (Int) := (z5k φ v1.fRailway v2.fRailway).bind fun y5 => ((z5k φ v1.fNo v2.fNo).bind fun y6 => ((zc5 φ [y5, y6]).bind fun y10 => ((some y10))))
def z0b (φ : Nat) (v6 : Int) (k8 : (Int → (List Int) → Option (List Int))) (v10 : (List Int)) : Option (List Int) := (k8 (W (v6 + 1)) v10)
def z0a (φ : Nat) (v3 : Int) (y5 : (Int → Int → Option Int)) (k11 : ((List Int) → Option (List Int))) : Nat → Int → (List Int) → Option (List Int)
  | 0, _, _ => none
  | n14 + 1, v12, v13 => ck ((decide (v3 < v12) = true) → ((0 : Int) ≤ v12 ∧ v12 < (v13.length : Int))) (ck ((decide (v3 < v12) = true) → ((0 : Int) ≤ (W (v12 - 1)) ∧ (W (v12 - 1)) < (v13.length : Int))) ((z5l (decide (v3 < v12) = true) (y5 (gt v13 v12) (gt v13 (W (v12 - 1))))).bind fun y28 => ((if (decide (v3 < v12) && decide (y28 < 0)) = true then ck ((0 : Int) ≤ (W (v12 - 1)) ∧ (W (v12 - 1)) < (v13.length : Int)) (ck ((0 : Int) ≤ v12 ∧ v12 < (v13.length : Int)) (ck ((0 : Int) ≤ (W (v12 - 1)) ∧ (W (v12 - 1)) < ((z2x v13 v12 (gt v13 (W (v12 - 1)))).length : Int)) (((z0a φ v3 y5 k11 n14) (W (v12 - 1)) (z2x (z2x v13 v12 (gt v13 (W (v12 - 1)))) (W (v12 - 1)) (gt v13 v12)))))) else (k11 v13)))))
def ze (φ : Nat) (v3 : Int) (v4 : Int) (y5 : (Int → Int → Option Int)) : Nat → Int → (List Int) → Option (List Int)
  | 0, _, _ => none
  | n8 + 1, v6, v7 => (if (decide (v6 < v4)) = true then (z0a φ v3 y5 (z0b φ v6 (ze φ v3 v4 y5 n8)) φ v6 v7) else (some v7))
def z18 (φ : Nat) (v1 : (List Int)) (v3 : Int) (v4 : Int) (y5 : (Int → Int → Option Int)) : Option (List Int) := (ze φ v3 v4 y5 φ (W (v3 + 1)) v1)
def z0z (φ : Nat) (v3 : Int) (v4 : Int) (v5 : Int) : Nat → Int → (List Int) → Option (List Int)
  | 0, _, _ => none
  | n9 + 1, v7, v8 => (if (decide (v7 < v5)) = true then ck ((0 : Int) ≤ (W (v4 + v7)) ∧ (W (v4 + v7)) < (v8.length : Int)) (ck ((0 : Int) ≤ (W (v3 + v7)) ∧ (W (v3 + v7)) < (v8.length : Int)) (ck ((0 : Int) ≤ (W (v4 + v7)) ∧ (W (v4 + v7)) < ((z2x v8 (W (v3 + v7)) (gt v8 (W (v4 + v7)))).length : Int)) (((z0z φ v3 v4 v5 n9) (W (v7 + 1)) (z2x (z2x v8 (W (v3 + v7)) (gt v8 (W (v4 + v7)))) (W (v4 + v7)) (gt v8 (W (v3 + v7)))))))) else (some v8))
def z1s (φ : Nat) (v1 : (List Int)) (v3 : Int) (v4 : Int) (v5 : Int) (y6 : (Int → Int → Option Int)) : Option (List Int) := (z0z φ v3 v4 v5 φ 0 v1)
def z1c (φ : Nat) (v4 : Int) (y6 : (Int → Int → Option Int)) (v7 : Int) (v8 : (List Int)) : Option (List Int) := (z1s φ v8 (W (v4 - v7)) v4 v7 y6).bind fun y10 => ((some y10))
def z16 (φ : Nat) (v4 : Int) (y6 : (Int → Int → Option Int)) (k9 : (Int → (List Int) → Option (List Int))) : Nat → Int → Int → (List Int) → Option (List Int)
  | 0, _, _, _ => none
  | n17 + 1, v14, v15, v16 => (if (v14 != v15) = true then (if (decide (v15 < v14)) = true then (z1s φ v16 (W (v4 - v14)) v4 v15 y6).bind fun y20 => (((z16 φ v4 y6 k9 n17) (W (v14 - v15)) v15 y20)) else (z1s φ v16 (W (v4 - v14)) (W ((W (v4 + v15)) - v14)) v14 y6).bind fun y24 => (((z16 φ v4 y6 k9 n17) v14 (W (v15 - v14)) y24))) else (k9 v14 v16))
def z44 (φ : Nat) (v1 : (List Int)) (v3 : Int) (v4 : Int) (v5 : Int) (y6 : (Int → Int → Option Int)) : Option (List Int) := (z16 φ v4 y6 (z1c φ v4 y6) φ (W (v4 - v3)) (W (v5 - v4)) v1)
def z1g (φ : Nat) (v11 : (List Int)) : Option (List Int) := (some v11)
def z1h (φ : Nat) (v9 : Int) (k12 : ((List Int) → Option (List Int))) : Nat → Int → (List Int) → Option (List Int)
  | 0, _, _ => none
  | n15 + 1, v13, v14 => (if (decide (v13 < (W (v9 - 1)))) = true then ck ((0 : Int) ≤ (W (v13 + 1)) ∧ (W (v13 + 1)) < (v14.length : Int)) (ck ((0 : Int) ≤ v13 ∧ v13 < (v14.length : Int)) (ck ((0 : Int) ≤ (W (v13 + 1)) ∧ (W (v13 + 1)) < ((z2x v14 v13 (gt v14 (W (v13 + 1)))).length : Int)) (((z1h φ v9 k12 n15) (W (v13 + 1)) (z2x (z2x v14 v13 (gt v14 (W (v13 + 1)))) (W (v13 + 1)) (gt v14 v13)))))) else (k12 v14))
def z02 (φ : Nat) (v1 : (List Int)) (v3 : Int) (v9 : Int) : Option (List Int) := (z1h φ v9 (z1g φ) φ v3 v1)
def z05 (φ : Nat) (v1 : (List Int)) (v3 : Int) (y6 : (Int → Int → Option Int)) (k10 : (Int → Option (List Int))) : Nat → Int → Int → Option (List Int)
  | 0, _, _ => none
  | n24 + 1, v22, v23 => (if (decide (v22 < v23)) = true then ck ((0 : Int) ≤ (W (((U ((W (v22 + v23)))).fdiv 2))) ∧ (W (((U ((W (v22 + v23)))).fdiv 2))) < (v1.length : Int)) (ck ((0 : Int) ≤ v3 ∧ v3 < (v1.length : Int)) ((y6 (gt v1 (W (((U ((W (v22 + v23)))).fdiv 2)))) (gt v1 v3)).bind fun y28 => ((if (decide (y28 < 0)) = true then ((z05 φ v1 v3 y6 k10 n24) (W ((W (((U ((W (v22 + v23)))).fdiv 2))) + 1)) v23) else ((z05 φ v1 v3 y6 k10 n24) v22 (W (((U ((W (v22 + v23)))).fdiv 2)))))))) else (k10 v22))
def z1e (φ : Nat) (v33 : (List Int)) : Option (List Int) := (some v33)
def z1f (φ : Nat) (v31 : Int) (k34 : ((List Int) → Option (List Int))) : Nat → Int → (List Int) → Option (List Int)
  | 0, _, _ => none
  | n37 + 1, v35, v36 => (if (decide (v31 < v35)) = true then ck ((0 : Int) ≤ (W (v35 - 1)) ∧ (W (v35 - 1)) < (v36.length : Int)) (ck ((0 : Int) ≤ v35 ∧ v35 < (v36.length : Int)) (ck ((0 : Int) ≤ (W (v35 - 1)) ∧ (W (v35 - 1)) < ((z2x v36 v35 (gt v36 (W (v35 - 1)))).length : Int)) (((z1f φ v31 k34 n37) (W (v35 - 1)) (z2x (z2x v36 v35 (gt v36 (W (v35 - 1)))) (W (v35 - 1)) (gt v36 v35)))))) else (k34 v36))
def z03 (φ : Nat) (v1 : (List Int)) (v4 : Int) (v31 : Int) : Option (List Int) := (z1f φ v31 (z1e φ) φ v4 v1)
def z01 (φ : Nat) (v1 : (List Int)) (v4 : Int) (y6 : (Int → Int → Option Int)) (k32 : (Int → Option (List Int))) : Nat → Int → Int → Option (List Int)
  | 0, _, _ => none
  | n46 + 1, v44, v45 => (if (decide (v44 < v45)) = true then ck ((0 : Int) ≤ v4 ∧ v4 < (v1.length : Int)) (ck ((0 : Int) ≤ (W (((U ((W (v44 + v45)))).fdiv 2))) ∧ (W (((U ((W (v44 + v45)))).fdiv 2))) < (v1.length : Int)) ((y6 (gt v1 v4) (gt v1 (W (((U ((W (v44 + v45)))).fdiv 2))))).bind fun y50 => ((if (!(decide (y50 < 0))) = true then ((z01 φ v1 v4 y6 k32 n46) (W ((W (((U ((W (v44 + v45)))).fdiv 2))) + 1)) v45) else ((z01 φ v1 v4 y6 k32 n46) v44 (W (((U ((W (v44 + v45)))).fdiv 2)))))))) else (k32 v44))
def z0v (φ : Nat) (v3 : Int) (v4 : Int) (v5 : Int) (y6 : (Int → Int → Option Int)) (y7 : ((List Int) → Int → Int → Int → (Int → Int → Option Int) → Option (List Int))) (v55 : Int) (v67 : (List Int)) : Option (List Int) := (if (decide ((W (((U ((W (v3 + v5)))).fdiv 2))) < (W ((W ((W (((U ((W (v3 + v5)))).fdiv 2))) + v4)) - v55))) && decide ((W ((W ((W (((U ((W (v3 + v5)))).fdiv 2))) + v4)) - v55)) < v5)) = true then (y7 v67 (W (((U ((W (v3 + v5)))).fdiv 2))) (W ((W ((W (((U ((W (v3 + v5)))).fdiv 2))) + v4)) - v55)) v5 y6).bind fun y74 => ((some y74)) else (some v67))
def z0w (φ : Nat) (v3 : Int) (v4 : Int) (v5 : Int) (y6 : (Int → Int → Option Int)) (y7 : ((List Int) → Int → Int → Int → (Int → Int → Option Int) → Option (List Int))) (v55 : Int) (v61 : (List Int)) : Option (List Int) := (if (decide (v3 < v55) && decide (v55 < (W (((U ((W (v3 + v5)))).fdiv 2))))) = true then (y7 v61 v3 v55 (W (((U ((W (v3 + v5)))).fdiv 2))) y6).bind fun y79 => (((z0v φ v3 v4 v5 y6 y7 v55) y79)) else ((z0v φ v3 v4 v5 y6 y7 v55) v61))
def z0g (φ : Nat) (v1 : (List Int)) (v3 : Int) (v4 : Int) (v5 : Int) (y6 : (Int → Int → Option Int)) (y7 : ((List Int) → Int → Int → Int → (Int → Int → Option Int) → Option (List Int))) (v55 : Int) : Option (List Int) := (if (decide (v55 < v4) && decide (v4 < (W ((W ((W (((U ((W (v3 + v5)))).fdiv 2))) + v4)) - v55)))) = true then (z44 φ v1 v55 v4 (W ((W ((W (((U ((W (v3 + v5)))).fdiv 2))) + v4)) - v55)) y6).bind fun y84 => (((z0w φ v3 v4 v5 y6 y7 v55) y84)) else ((z0w φ v3 v4 v5 y6 y7 v55) v1))
def z04 (φ : Nat) (v1 : (List Int)) (v3 : Int) (v4 : Int) (v5 : Int) (y6 : (Int → Int → Option Int)) (k56 : (Int → Option (List Int))) : Nat → Int → Int → Option (List Int)
  | 0, _, _ => none
  | n90 + 1, v88, v89 => (if (decide (v88 < v89)) = true then ck ((0 : Int) ≤ (W ((W ((W ((W (((U ((W (v3 + v5)))).fdiv 2))) + v4)) - 1)) - (W (((U ((W (v88 + v89)))).fdiv 2))))) ∧ (W ((W ((W ((W (((U ((W (v3 + v5)))).fdiv 2))) + v4)) - 1)) - (W (((U ((W (v88 + v89)))).fdiv 2))))) < (v1.length : Int)) (ck ((0 : Int) ≤ (W (((U ((W (v88 + v89)))).fdiv 2))) ∧ (W (((U ((W (v88 + v89)))).fdiv 2))) < (v1.length : Int)) ((y6 (gt v1 (W ((W ((W ((W (((U ((W (v3 + v5)))).fdiv 2))) + v4)) - 1)) - (W (((U ((W (v88 + v89)))).fdiv 2)))))) (gt v1 (W (((U ((W (v88 + v89)))).fdiv 2))))).bind fun y94 => ((if (!(decide (y94 < 0))) = true then ((z04 φ v1 v3 v4 v5 y6 k56 n90) (W ((W (((U ((W (v88 + v89)))).fdiv 2))) + 1)) v89) else ((z04 φ v1 v3 v4 v5 y6 k56 n90) v88 (W (((U ((W (v88 + v89)))).fdiv 2)))))))) else (k56 v88))
def z0f (φ : Nat) (v1 : (List Int)) (v3 : Int) (v4 : Int) (v5 : Int) (y6 : (Int → Int → Option Int)) (y7 : ((List Int) → Int → Int → Int → (Int → Int → Option Int) → Option (List Int))) (v52 : Int) (v53 : Int) : Option (List Int) := (z04 φ v1 v3 v4 v5 y6 (z0g φ v1 v3 v4 v5 y6 y7) φ v52 v53)
def z8 : Nat → (List Int) → Int → Int → Int → (Int → Int → Option Int) → Option (List Int)
  | 0, _, _, _, _, _ => none
  | φ + 1, v1, v3, v4, v5, y6 => (if ((W (v4 - v3)) == 1) = true then (z05 φ v1 v3 y6 (z02 φ v1 v3) φ v4 v5) else (if ((W (v5 - v4)) == 1) = true then (z01 φ v1 v4 y6 (z03 φ v1 v4) φ v3 v4) else (if (decide ((W (((U ((W (v3 + v5)))).fdiv 2))) < v4)) = true then ((z0f φ v1 v3 v4 v5 y6 (z8 φ)) (W ((W ((W (((U ((W (v3 + v5)))).fdiv 2))) + v4)) - v5)) (W (((U ((W (v3 + v5)))).fdiv 2)))) else ((z0f φ v1 v3 v4 v5 y6 (z8 φ)) v3 v4))))
def z2a (φ : Nat) (v12 : Int) (k14 : (Int → (List Int) → Option (List Int))) (v19 : (List Int)) : Option (List Int) := (k14 (W (v12 * 2)) v19)
def z15 (φ : Nat) (v3 : Int) (y4 : (Int → Int → Option Int)) (v12 : Int) (k14 : (Int → (List Int) → Option (List Int))) (v16 : Int) (v17 : (List Int)) : Option (List Int) := (if (decide ((W (v16 + v12)) < v3)) = true then (z8 φ v17 v16 (W (v16 + v12)) v3 y4).bind fun y22 => (((z2a φ v12 k14) y22)) else ((z2a φ v12 k14) v17))
def z1p (φ : Nat) (v3 : Int) (y4 : (Int → Int → Option Int)) (v12 : Int) (k18 : (Int → (List Int) → Option (List Int))) : Nat → Int → Int → (List Int) → Option (List Int)
  | 0, _, _, _ => none
  | n29 + 1, v26, v27, v28 => (if (decide (v27 ≤ v3)) = true then (z8 φ v28 v26 (W (v26 + v12)) v27 y4).bind fun y31 => (((z1p φ v3 y4 v12 k18 n29) v27 (W (v27 + (W (2 * v12)))) y31)) else (k18 v26 v28))
def zk (φ : Nat) (v3 : Int) (y4 : (Int → Int → Option Int)) : Nat → Int → (List Int) → Option (List Int)
  | 0, _, _ => none
  | n14 + 1, v12, v13 => (if (decide (v12 < v3)) = true then (z1p φ v3 y4 v12 (z15 φ v3 y4 v12 (zk φ v3 y4 n14)) φ 0 (W (2 * v12)) v13) else (some v13))
def z0l (φ : Nat) (v3 : Int) (y4 : (Int → Int → Option Int)) (v5 : Int) (v6 : (List Int)) : Option (List Int) := (z18 φ v6 v5 v3 y4).bind fun y8 => ((zk φ v3 y4 φ 20 y8))
def z14 (φ : Nat) (v3 : Int) (y4 : (Int → Int → Option Int)) (k7 : (Int → (List Int) → Option (List Int))) : Nat → Int → Int → (List Int) → Option (List Int)
  | 0, _, _, _ => none
  | n38 + 1, v35, v36, v37 => (if (decide (v36 ≤ v3)) = true then (z18 φ v37 v35 v36 y4).bind fun y40 => (((z14 φ v3 y4 k7 n38) v36 (W (v36 + 20)) y40)) else (k7 v35 v37))
def z50 (φ : Nat) (v1 : (List Int)) (v3 : Int) (y4 : (Int → Int → Option Int)) : Option (List Int) := (z14 φ v3 y4 (z0l φ v3 y4) φ 0 20 v1)
def z3s (φ : Nat) (v1 : (List Int)) (y3 : (Int → Int → Option Int)) : Option (List Int) := (z50 φ v1 (v1.length : Int) y3).bind fun y4 => ((some y4))
def z78 (φ : Nat) (v1 : Pool) (v2 : zf) : Option (Bool) := ck ((0 : Int) ≤ v2.fItem.fPlace ∧ v2.fItem.fPlace < (v1.fNetwork.fPlaces.length : Int)) ((some ((v2.fRef.fRailway != v2.fItem.fOther) && ((((gt v1.fNetwork.fPlaces v2.fItem.fPlace).fRailway == v2.fRef.fRailway) && ((gt v1.fNetwork.fPlaces v2.fItem.fPlace).fOther == v2.fItem.fOther)) || (((gt v1.fNetwork.fPlaces v2.fItem.fPlace).fRailway == v2.fItem.fOther) && ((gt v1.fNetwork.fPlaces v2.fItem.fPlace).fOther == v2.fRef.fRailway))))))
def z7y (φ : Nat) (v1 : zf) (v2 : zf) : Option (Int) := (some (max2 (W (v1.fItem.fFrom - v2.fItem.fFrom)) (W (v2.fItem.fFrom - v1.fItem.fFrom))))
def z4d (φ : Nat) (v1 : Int) (v2 : Int) (v3 : (List zf)) : Option (Int) := ck ((0 : Int) ≤ v1 ∧ v1 < (v3.length : Int)) (ck ((0 : Int) ≤ v2 ∧ v2 < (v3.length : Int)) ((z5k φ ((gt v3 v1).fItem.fFrom) ((gt v3 v2).fItem.fFrom)).bind fun y6 => ((z40 φ ((gt v3 v1).fRef) ((gt v3 v2).fRef)).bind fun y7 => ((zc5 φ [y6, y7]).bind fun y11 => ((some y11))))))
def z0t (φ : Nat) (v24 : (List (Nat → Int))) : Option ((List (Nat → Int))) := (some v24)
def z1b (φ : Nat) (v27 : Int) (k31 : (Int → (List (Int × Bool)) → (List (Nat → Int)) → Option ((List (Nat → Int))))) (v33 : (List (Int × Bool))) (v34 : (List (Nat → Int))) : Option ((List (Nat → Int))) := (k31 (W (v27 + 1)) v33 v34)
def z3b (φ : Nat) (y19 : (List Int)) (v27 : Int) (v28 : (List (Int × Bool))) (v29 : (List (Nat → Int))) (k36 : ((List (Int × Bool)) → (List (Nat → Int)) → Option ((List (Nat → Int))))) (v42 : Int) : Option ((List (Nat → Int))) := (if (decide (0 ≤ v42)) = true then ck (fits (v29.length + [(ofL [(gt y19 v27), v42])].length) 16) ((k36 (mset v28 v42 true) (v29 ++ [(ofL [(gt y19 v27), v42])]))) else (k36 v28 v29))
def z4o (φ : Nat) (v49 : Int) (k50 : (Int → Int → Option ((List (Nat → Int))))) (v52 : Int) : Option ((List (Nat → Int))) := (k50 v52 (W (v49 + 1)))
def z0s (φ : Nat) (v2 : (List zf)) (y14 : ((List Int))) (y19 : (List Int)) (v27 : Int) (v28 : (List (Int × Bool))) (k43 : (Int → Option ((List (Nat → Int))))) : Nat → Int → Int → Option ((List (Nat → Int)))
  | 0, _, _ => none
  | n50 + 1, v48, v49 => (if (decide (v49 < (y14.length : Int))) = true then ck ((0 : Int) ≤ v49 ∧ v49 < (y14.length : Int)) (ck ((0 : Int) ≤ (gt y14 v49) ∧ (gt y14 v49) < (v2.length : Int)) ((z5l (((((((mget v28 (gt y14 v49)).getD false) || ((gt v2 (gt y14 v49)).fRef.fRailway != (gt v2 (gt y19 v27)).fItem.fOther)) || ((gt v2 (gt y14 v49)).fItem.fOther != (gt v2 (gt y19 v27)).fRef.fRailway)) || ((gt v2 (gt y14 v49)).fItem.fWagon != (gt v2 (gt y19 v27)).fItem.fWagon)) || ((gt v2 (gt y14 v49)).fItem.fPlace != (gt v2 (gt y19 v27)).fItem.fPlace)) = false) (z7y φ (gt v2 (gt y19 v27)) (gt v2 (gt y14 v49)))).bind fun y92 => ((if (((((((mget v28 (gt y14 v49)).getD false) || ((gt v2 (gt y14 v49)).fRef.fRailway != (gt v2 (gt y19 v27)).fItem.fOther)) || ((gt v2 (gt y14 v49)).fItem.fOther != (gt v2 (gt y19 v27)).fRef.fRailway)) || ((gt v2 (gt y14 v49)).fItem.fWagon != (gt v2 (gt y19 v27)).fItem.fWagon)) || ((gt v2 (gt y14 v49)).fItem.fPlace != (gt v2 (gt y19 v27)).fItem.fPlace)) || decide (60 < y92)) = true then ((z4o φ v49 (z0s φ v2 y14 y19 v27 v28 k43 n50)) v48) else ck ((decide (0 ≤ v48) = true) → ((0 : Int) ≤ v48 ∧ v48 < (v2.length : Int))) ((z5l (decide (0 ≤ v48) = true) (z7y φ (gt v2 (gt y19 v27)) (gt v2 v48))).bind fun y103 => ((z5l (decide (0 ≤ v48) = true) (z7y φ (gt v2 (gt y19 v27)) (gt v2 (gt y14 v49)))).bind fun y107 => ((z5l (decide (0 ≤ v48) = true) (z5k φ y103 y107)).bind fun y109 => ((z5l (decide (0 ≤ v48) = true) (z40 φ ((gt v2 v48).fRef) ((gt v2 (gt y14 v49)).fRef))).bind fun y118 => ((z5l (decide (0 ≤ v48) = true) (zc5 φ [y109, y118])).bind fun y125 => ((if (decide (0 ≤ v48) && decide (y125 ≤ 0)) = true then ((z4o φ v49 (z0s φ v2 y14 y19 v27 v28 k43 n50)) v48) else ((z4o φ v49 (z0s φ v2 y14 y19 v27 v28 k43 n50)) (gt y14 v49))))))))))))) else (k43 v48))
def z0d (φ : Nat) (v1 : Pool) (v2 : (List zf)) (y14 : ((List Int))) (y19 : (List Int)) (k26 : ((List (Nat → Int)) → Option ((List (Nat → Int))))) : Nat → Int → (List (Int × Bool)) → (List (Nat → Int)) → Option ((List (Nat → Int)))
  | 0, _, _, _ => none
  | n31 + 1, v27, v28, v29 => (if (decide (v27 < (y19.length : Int))) = true then ck ((0 : Int) ≤ v27 ∧ v27 < (y19.length : Int)) (ck ((0 : Int) ≤ (gt y19 v27) ∧ (gt y19 v27) < (v2.length : Int)) ((z78 φ v1 (gt v2 (gt y19 v27))).bind fun y40 => ((if (!y40) = true then ((z1b φ v27 (z0d φ v1 v2 y14 y19 k26 n31)) v28 v29) else (z0s φ v2 y14 y19 v27 v28 (z3b φ y19 v27 v28 v29 (z1b φ v27 (z0d φ v1 v2 y14 y19 k26 n31))) φ (-1) 0))))) else (k26 v29))
def z52 (φ : Nat) (v1 : Pool) (v2 : (List zf)) : Option ((List (Nat → Int))) := (z41 φ v1).bind fun y5 => ((if (y5 != 0) = true then (some ([] : List (Nat → Int))) else (z76 φ v1 v2 3).bind fun y8 => ((z76 φ v1 v2 4).bind fun y14 => ((z3s φ y8 (fun a b => z4d φ a b v2)).bind fun y19 => ((z0d φ v1 v2 y14 y19 (z0t φ) φ 0 ([] : List (Int × Bool)) ([] : List (Nat → Int))))))))
def zea (r : ((List (Nat → Int)))) (x : VP) (news : List HP) : Prop := ∃ sv0, x = eqv sv0 ∧ news = [row 89 z4x 2 r sv0]
def zt (φ : Nat) (v6 : Int) (k8 : (Int → (List z3) → Option (List z3))) (v10 : (List z3)) : Option (List z3) := (k8 (W (v6 + 1)) v10)
def zr (φ : Nat) (v3 : Int) (y5 : (z3 → z3 → Option Int)) (k11 : ((List z3) → Option (List z3))) : Nat → Int → (List z3) → Option (List z3)
  | 0, _, _ => none
  | n14 + 1, v12, v13 => ck ((decide (v3 < v12) = true) → ((0 : Int) ≤ v12 ∧ v12 < (v13.length : Int))) (ck ((decide (v3 < v12) = true) → ((0 : Int) ≤ (W (v12 - 1)) ∧ (W (v12 - 1)) < (v13.length : Int))) ((z5l (decide (v3 < v12) = true) (y5 (gt v13 v12) (gt v13 (W (v12 - 1))))).bind fun y28 => ((if (decide (v3 < v12) && decide (y28 < 0)) = true then ck ((0 : Int) ≤ (W (v12 - 1)) ∧ (W (v12 - 1)) < (v13.length : Int)) (ck ((0 : Int) ≤ v12 ∧ v12 < (v13.length : Int)) (ck ((0 : Int) ≤ (W (v12 - 1)) ∧ (W (v12 - 1)) < ((z2x v13 v12 (gt v13 (W (v12 - 1)))).length : Int)) (((zr φ v3 y5 k11 n14) (W (v12 - 1)) (z2x (z2x v13 v12 (gt v13 (W (v12 - 1)))) (W (v12 - 1)) (gt v13 v12)))))) else (k11 v13)))))
def za (φ : Nat) (v3 : Int) (v4 : Int) (y5 : (z3 → z3 → Option Int)) : Nat → Int → (List z3) → Option (List z3)
  | 0, _, _ => none
  | n8 + 1, v6, v7 => (if (decide (v6 < v4)) = true then (zr φ v3 y5 (zt φ v6 (za φ v3 v4 y5 n8)) φ v6 v7) else (some v7))
def z0m (φ : Nat) (v1 : (List z3)) (v3 : Int) (v4 : Int) (y5 : (z3 → z3 → Option Int)) : Option (List z3) := (za φ v3 v4 y5 φ (W (v3 + 1)) v1)
def z08 (φ : Nat) (v3 : Int) (v4 : Int) (v5 : Int) : Nat → Int → (List z3) → Option (List z3)
  | 0, _, _ => none
  | n9 + 1, v7, v8 => (if (decide (v7 < v5)) = true then ck ((0 : Int) ≤ (W (v4 + v7)) ∧ (W (v4 + v7)) < (v8.length : Int)) (ck ((0 : Int) ≤ (W (v3 + v7)) ∧ (W (v3 + v7)) < (v8.length : Int)) (ck ((0 : Int) ≤ (W (v4 + v7)) ∧ (W (v4 + v7)) < ((z2x v8 (W (v3 + v7)) (gt v8 (W (v4 + v7)))).length : Int)) (((z08 φ v3 v4 v5 n9) (W (v7 + 1)) (z2x (z2x v8 (W (v3 + v7)) (gt v8 (W (v4 + v7)))) (W (v4 + v7)) (gt v8 (W (v3 + v7)))))))) else (some v8))
def z12 (φ : Nat) (v1 : (List z3)) (v3 : Int) (v4 : Int) (v5 : Int) (y6 : (z3 → z3 → Option Int)) : Option (List z3) := (z08 φ v3 v4 v5 φ 0 v1)
def z0n (φ : Nat) (v4 : Int) (y6 : (z3 → z3 → Option Int)) (v7 : Int) (v8 : (List z3)) : Option (List z3) := (z12 φ v8 (W (v4 - v7)) v4 v7 y6).bind fun y10 => ((some y10))
def z0j (φ : Nat) (v4 : Int) (y6 : (z3 → z3 → Option Int)) (k9 : (Int → (List z3) → Option (List z3))) : Nat → Int → Int → (List z3) → Option (List z3)
  | 0, _, _, _ => none
  | n17 + 1, v14, v15, v16 => (if (v14 != v15) = true then (if (decide (v15 < v14)) = true then (z12 φ v16 (W (v4 - v14)) v4 v15 y6).bind fun y20 => (((z0j φ v4 y6 k9 n17) (W (v14 - v15)) v15 y20)) else (z12 φ v16 (W (v4 - v14)) (W ((W (v4 + v15)) - v14)) v14 y6).bind fun y24 => (((z0j φ v4 y6 k9 n17) v14 (W (v15 - v14)) y24))) else (k9 v14 v16))
def z2y (φ : Nat) (v1 : (List z3)) (v3 : Int) (v4 : Int) (v5 : Int) (y6 : (z3 → z3 → Option Int)) : Option (List z3) := (z0j φ v4 y6 (z0n φ v4 y6) φ (W (v4 - v3)) (W (v5 - v4)) v1)
def z0o (φ : Nat) (v11 : (List z3)) : Option (List z3) := (some v11)
def z0q (φ : Nat) (v9 : Int) (k12 : ((List z3) → Option (List z3))) : Nat → Int → (List z3) → Option (List z3)
  | 0, _, _ => none
  | n15 + 1, v13, v14 => (if (decide (v13 < (W (v9 - 1)))) = true then ck ((0 : Int) ≤ (W (v13 + 1)) ∧ (W (v13 + 1)) < (v14.length : Int)) (ck ((0 : Int) ≤ v13 ∧ v13 < (v14.length : Int)) (ck ((0 : Int) ≤ (W (v13 + 1)) ∧ (W (v13 + 1)) < ((z2x v14 v13 (gt v14 (W (v13 + 1)))).length : Int)) (((z0q φ v9 k12 n15) (W (v13 + 1)) (z2x (z2x v14 v13 (gt v14 (W (v13 + 1)))) (W (v13 + 1)) (gt v14 v13)))))) else (k12 v14))
def zm (φ : Nat) (v1 : (List z3)) (v3 : Int) (v9 : Int) : Option (List z3) := (z0q φ v9 (z0o φ) φ v3 v1)
def zq (φ : Nat) (v1 : (List z3)) (v3 : Int) (y6 : (z3 → z3 → Option Int)) (k10 : (Int → Option (List z3))) : Nat → Int → Int → Option (List z3)
  | 0, _, _ => none
  | n24 + 1, v22, v23 => (if (decide (v22 < v23)) = true then ck ((0 : Int) ≤ (W (((U ((W (v22 + v23)))).fdiv 2))) ∧ (W (((U ((W (v22 + v23)))).fdiv 2))) < (v1.length : Int)) (ck ((0 : Int) ≤ v3 ∧ v3 < (v1.length : Int)) ((y6 (gt v1 (W (((U ((W (v22 + v23)))).fdiv 2)))) (gt v1 v3)).bind fun y28 => ((if (decide (y28 < 0)) = true then ((zq φ v1 v3 y6 k10 n24) (W ((W (((U ((W (v22 + v23)))).fdiv 2))) + 1)) v23) else ((zq φ v1 v3 y6 k10 n24) v22 (W (((U ((W (v22 + v23)))).fdiv 2)))))))) else (k10 v22))
def z0p (φ : Nat) (v33 : (List z3)) : Option (List z3) := (some v33)
def z0r (φ : Nat) (v31 : Int) (k34 : ((List z3) → Option (List z3))) : Nat → Int → (List z3) → Option (List z3)
  | 0, _, _ => none
  | n37 + 1, v35, v36 => (if (decide (v31 < v35)) = true then ck ((0 : Int) ≤ (W (v35 - 1)) ∧ (W (v35 - 1)) < (v36.length : Int)) (ck ((0 : Int) ≤ v35 ∧ v35 < (v36.length : Int)) (ck ((0 : Int) ≤ (W (v35 - 1)) ∧ (W (v35 - 1)) < ((z2x v36 v35 (gt v36 (W (v35 - 1)))).length : Int)) (((z0r φ v31 k34 n37) (W (v35 - 1)) (z2x (z2x v36 v35 (gt v36 (W (v35 - 1)))) (W (v35 - 1)) (gt v36 v35)))))) else (k34 v36))
def zn (φ : Nat) (v1 : (List z3)) (v4 : Int) (v31 : Int) : Option (List z3) := (z0r φ v31 (z0p φ) φ v4 v1)
def zp (φ : Nat) (v1 : (List z3)) (v4 : Int) (y6 : (z3 → z3 → Option Int)) (k32 : (Int → Option (List z3))) : Nat → Int → Int → Option (List z3)
  | 0, _, _ => none
  | n46 + 1, v44, v45 => (if (decide (v44 < v45)) = true then ck ((0 : Int) ≤ v4 ∧ v4 < (v1.length : Int)) (ck ((0 : Int) ≤ (W (((U ((W (v44 + v45)))).fdiv 2))) ∧ (W (((U ((W (v44 + v45)))).fdiv 2))) < (v1.length : Int)) ((y6 (gt v1 v4) (gt v1 (W (((U ((W (v44 + v45)))).fdiv 2))))).bind fun y50 => ((if (!(decide (y50 < 0))) = true then ((zp φ v1 v4 y6 k32 n46) (W ((W (((U ((W (v44 + v45)))).fdiv 2))) + 1)) v45) else ((zp φ v1 v4 y6 k32 n46) v44 (W (((U ((W (v44 + v45)))).fdiv 2)))))))) else (k32 v44))
def z09 (φ : Nat) (v3 : Int) (v4 : Int) (v5 : Int) (y6 : (z3 → z3 → Option Int)) (y7 : ((List z3) → Int → Int → Int → (z3 → z3 → Option Int) → Option (List z3))) (v55 : Int) (v67 : (List z3)) : Option (List z3) := (if (decide ((W (((U ((W (v3 + v5)))).fdiv 2))) < (W ((W ((W (((U ((W (v3 + v5)))).fdiv 2))) + v4)) - v55))) && decide ((W ((W ((W (((U ((W (v3 + v5)))).fdiv 2))) + v4)) - v55)) < v5)) = true then (y7 v67 (W (((U ((W (v3 + v5)))).fdiv 2))) (W ((W ((W (((U ((W (v3 + v5)))).fdiv 2))) + v4)) - v55)) v5 y6).bind fun y74 => ((some y74)) else (some v67))
def z07 (φ : Nat) (v3 : Int) (v4 : Int) (v5 : Int) (y6 : (z3 → z3 → Option Int)) (y7 : ((List z3) → Int → Int → Int → (z3 → z3 → Option Int) → Option (List z3))) (v55 : Int) (v61 : (List z3)) : Option (List z3) := (if (decide (v3 < v55) && decide (v55 < (W (((U ((W (v3 + v5)))).fdiv 2))))) = true then (y7 v61 v3 v55 (W (((U ((W (v3 + v5)))).fdiv 2))) y6).bind fun y79 => (((z09 φ v3 v4 v5 y6 y7 v55) y79)) else ((z09 φ v3 v4 v5 y6 y7 v55) v61))
def zw (φ : Nat) (v1 : (List z3)) (v3 : Int) (v4 : Int) (v5 : Int) (y6 : (z3 → z3 → Option Int)) (y7 : ((List z3) → Int → Int → Int → (z3 → z3 → Option Int) → Option (List z3))) (v55 : Int) : Option (List z3) := (if (decide (v55 < v4) && decide (v4 < (W ((W ((W (((U ((W (v3 + v5)))).fdiv 2))) + v4)) - v55)))) = true then (z2y φ v1 v55 v4 (W ((W ((W (((U ((W (v3 + v5)))).fdiv 2))) + v4)) - v55)) y6).bind fun y84 => (((z07 φ v3 v4 v5 y6 y7 v55) y84)) else ((z07 φ v3 v4 v5 y6 y7 v55) v1))
def zo (φ : Nat) (v1 : (List z3)) (v3 : Int) (v4 : Int) (v5 : Int) (y6 : (z3 → z3 → Option Int)) (k56 : (Int → Option (List z3))) : Nat → Int → Int → Option (List z3)
  | 0, _, _ => none
  | n90 + 1, v88, v89 => (if (decide (v88 < v89)) = true then ck ((0 : Int) ≤ (W ((W ((W ((W (((U ((W (v3 + v5)))).fdiv 2))) + v4)) - 1)) - (W (((U ((W (v88 + v89)))).fdiv 2))))) ∧ (W ((W ((W ((W (((U ((W (v3 + v5)))).fdiv 2))) + v4)) - 1)) - (W (((U ((W (v88 + v89)))).fdiv 2))))) < (v1.length : Int)) (ck ((0 : Int) ≤ (W (((U ((W (v88 + v89)))).fdiv 2))) ∧ (W (((U ((W (v88 + v89)))).fdiv 2))) < (v1.length : Int)) ((y6 (gt v1 (W ((W ((W ((W (((U ((W (v3 + v5)))).fdiv 2))) + v4)) - 1)) - (W (((U ((W (v88 + v89)))).fdiv 2)))))) (gt v1 (W (((U ((W (v88 + v89)))).fdiv 2))))).bind fun y94 => ((if (!(decide (y94 < 0))) = true then ((zo φ v1 v3 v4 v5 y6 k56 n90) (W ((W (((U ((W (v88 + v89)))).fdiv 2))) + 1)) v89) else ((zo φ v1 v3 v4 v5 y6 k56 n90) v88 (W (((U ((W (v88 + v89)))).fdiv 2)))))))) else (k56 v88))
def zx (φ : Nat) (v1 : (List z3)) (v3 : Int) (v4 : Int) (v5 : Int) (y6 : (z3 → z3 → Option Int)) (y7 : ((List z3) → Int → Int → Int → (z3 → z3 → Option Int) → Option (List z3))) (v52 : Int) (v53 : Int) : Option (List z3) := (zo φ v1 v3 v4 v5 y6 (zw φ v1 v3 v4 v5 y6 y7) φ v52 v53)
def z6 : Nat → (List z3) → Int → Int → Int → (z3 → z3 → Option Int) → Option (List z3)
  | 0, _, _, _, _, _ => none
  | φ + 1, v1, v3, v4, v5, y6 => (if ((W (v4 - v3)) == 1) = true then (zq φ v1 v3 y6 (zm φ v1 v3) φ v4 v5) else (if ((W (v5 - v4)) == 1) = true then (zp φ v1 v4 y6 (zn φ v1 v4) φ v3 v4) else (if (decide ((W (((U ((W (v3 + v5)))).fdiv 2))) < v4)) = true then ((zx φ v1 v3 v4 v5 y6 (z6 φ)) (W ((W ((W (((U ((W (v3 + v5)))).fdiv 2))) + v4)) - v5)) (W (((U ((W (v3 + v5)))).fdiv 2)))) else ((zx φ v1 v3 v4 v5 y6 (z6 φ)) v3 v4))))
def z1j (φ : Nat) (v12 : Int) (k14 : (Int → (List z3) → Option (List z3))) (v19 : (List z3)) : Option (List z3) := (k14 (W (v12 * 2)) v19)
def z0i (φ : Nat) (v3 : Int) (y4 : (z3 → z3 → Option Int)) (v12 : Int) (k14 : (Int → (List z3) → Option (List z3))) (v16 : Int) (v17 : (List z3)) : Option (List z3) := (if (decide ((W (v16 + v12)) < v3)) = true then (z6 φ v17 v16 (W (v16 + v12)) v3 y4).bind fun y22 => (((z1j φ v12 k14) y22)) else ((z1j φ v12 k14) v17))
def z10 (φ : Nat) (v3 : Int) (y4 : (z3 → z3 → Option Int)) (v12 : Int) (k18 : (Int → (List z3) → Option (List z3))) : Nat → Int → Int → (List z3) → Option (List z3)
  | 0, _, _, _ => none
  | n29 + 1, v26, v27, v28 => (if (decide (v27 ≤ v3)) = true then (z6 φ v28 v26 (W (v26 + v12)) v27 y4).bind fun y31 => (((z10 φ v3 y4 v12 k18 n29) v27 (W (v27 + (W (2 * v12)))) y31)) else (k18 v26 v28))
def zb (φ : Nat) (v3 : Int) (y4 : (z3 → z3 → Option Int)) : Nat → Int → (List z3) → Option (List z3)
  | 0, _, _ => none
  | n14 + 1, v12, v13 => (if (decide (v12 < v3)) = true then (z10 φ v3 y4 v12 (z0i φ v3 y4 v12 (zb φ v3 y4 n14)) φ 0 (W (2 * v12)) v13) else (some v13))
def zy (φ : Nat) (v3 : Int) (y4 : (z3 → z3 → Option Int)) (v5 : Int) (v6 : (List z3)) : Option (List z3) := (z0m φ v6 v5 v3 y4).bind fun y8 => ((zb φ v3 y4 φ 20 y8))
def z0h (φ : Nat) (v3 : Int) (y4 : (z3 → z3 → Option Int)) (k7 : (Int → (List z3) → Option (List z3))) : Nat → Int → Int → (List z3) → Option (List z3)
  | 0, _, _, _ => none
  | n38 + 1, v35, v36, v37 => (if (decide (v36 ≤ v3)) = true then (z0m φ v37 v35 v36 y4).bind fun y40 => (((z0h φ v3 y4 k7 n38) v36 (W (v36 + 20)) y40)) else (k7 v35 v37))
def z3u (φ : Nat) (v1 : (List z3)) (v3 : Int) (y4 : (z3 → z3 → Option Int)) : Option (List z3) := (z0h φ v3 y4 (zy φ v3 y4) φ 0 20 v1)
def z2m (φ : Nat) (v1 : (List z3)) (y3 : (z3 → z3 → Option Int)) : Option (List z3) := (z3u φ v1 (v1.length : Int) y3).bind fun y4 => ((some y4))
def z4e (φ : Nat) (v1 : z3) (v2 : z3) : Option (Int) := (z5k φ v1.fAt v2.fAt).bind fun y5 => ((z5k φ v1.fWagon v2.fWagon).bind fun y6 => ((z40 φ v1.fDeliver v2.fDeliver).bind fun y7 => ((zc5 φ [y5, y6, y7]).bind fun y11 => ((some y11)))))
def z3a (φ : Nat) (v9 : (List z3)) : Option ((List z3)) := (z2m φ v9 (fun a b => z4e φ a b)).bind fun y12 => ((some y12))
def z66 (φ : Nat) (v2 : (List zf)) (y4 : ((List (Nat → Int)))) (v16 : Int) (v17 : (List z3)) (k19 : (Int → (List z3) → Option ((List z3)))) : Option ((List z3)) := ck (fits (v17.length + [(z3.mk (gt v2 ((gt y4 v16) 0)).fItem.fWagon (gt v2 ((gt y4 v16) 0)).fItem.fPlace (gt v2 ((gt y4 v16) 0)).fRef.fRailway (gt v2 ((gt y4 v16) 1)).fRef.fRailway (W ((W (((gt v2 ((gt y4 v16) 0)).fItem.fFrom) + ((gt v2 ((gt y4 v16) 1)).fItem.fFrom))).tdiv 2)) (max2 ((gt v2 ((gt y4 v16) 0)).fItem.fCode) ((gt v2 ((gt y4 v16) 1)).fItem.fCode)) (gt v2 ((gt y4 v16) 0)).fRef (gt v2 ((gt y4 v16) 1)).fRef)].length) 80) ((k19 (W (v16 + 1)) (v17 ++ [(z3.mk (gt v2 ((gt y4 v16) 0)).fItem.fWagon (gt v2 ((gt y4 v16) 0)).fItem.fPlace (gt v2 ((gt y4 v16) 0)).fRef.fRailway (gt v2 ((gt y4 v16) 1)).fRef.fRailway (W ((W (((gt v2 ((gt y4 v16) 0)).fItem.fFrom) + ((gt v2 ((gt y4 v16) 1)).fItem.fFrom))).tdiv 2)) (max2 ((gt v2 ((gt y4 v16) 0)).fItem.fCode) ((gt v2 ((gt y4 v16) 1)).fItem.fCode)) (gt v2 ((gt y4 v16) 0)).fRef (gt v2 ((gt y4 v16) 1)).fRef)])))
def z2d (φ : Nat) (v2 : (List zf)) (y4 : ((List (Nat → Int)))) (k11 : ((List z3) → Option ((List z3)))) : Nat → Int → (List z3) → Option ((List z3))
  | 0, _, _ => none
  | n19 + 1, v16, v17 => (if (decide (v16 < (y4.length : Int))) = true then ck ((0 : Int) ≤ v16 ∧ v16 < (y4.length : Int)) (ck ((0 : Int) ≤ ((gt y4 v16) 0) ∧ ((gt y4 v16) 0) < (v2.length : Int)) (ck ((0 : Int) ≤ ((gt y4 v16) 1) ∧ ((gt y4 v16) 1) < (v2.length : Int)) ((z66 φ v2 y4 v16 v17 (z2d φ v2 y4 k11 n19))))) else (k11 v17))
def z4l (φ : Nat) (v1 : Pool) (v2 : (List zf)) : Option ((List z3)) := (z52 φ v1 v2).bind fun y4 => ((z2d φ v2 y4 (z3a φ) φ 0 ([] : List z3)))
def zeg (r : ((List z3))) (x : VP) (news : List HP) : Prop := ∃ sv0, x = eqv sv0 ∧ news = [row 70 z5 10 r sv0]
def z6x (φ : Nat) (v1 : Pool) (v2 : Int) (v3 : Int) : Option (Int) := (z41 φ v1).bind fun y5 => ((if (y5 != 0) = true then (some y5) else (if (((decide (v2 < 0) || decide ((v1.fFleet.fWagons.length : Int) ≤ v2)) || decide (v3 < 0)) || decide (1073741824 < v3)) = true then (some 1) else (some 0))))
def z2v (φ : Nat) (v15 : (List zj)) : Option ((List zj)) := (some v15)
def z57 (φ : Nat) (v18 : Int) (k21 : (Int → (List zj) → Option ((List zj)))) (v40 : (List zj)) : Option ((List zj)) := (k21 (W (v18 + 1)) v40)
def z24 (φ : Nat) (v3 : Int) (y10 : ((List z3))) (k17 : ((List zj) → Option ((List zj)))) : Nat → Int → (List zj) → Option ((List zj))
  | 0, _, _ => none
  | n21 + 1, v18, v19 => (if (decide (v18 < (y10.length : Int))) = true then ck ((0 : Int) ≤ v18 ∧ v18 < (y10.length : Int)) (ck ((0 : Int) ≤ (W ((v19.length : Int) - 1)) ∧ (W ((v19.length : Int) - 1)) < (v19.length : Int)) ((if ((((gt y10 v18).fWagon == v3) && ((gt y10 v18).fFrom == (gt v19 (W ((v19.length : Int) - 1))).fRailway)) && decide ((gt v19 (W ((v19.length : Int) - 1))).fSpan.fFrom < (gt y10 v18).fAt)) = true then ck (fits (v19.length + [(zj.mk (gt y10 v18).fTo (Span.mk (gt y10 v18).fAt 0) (gt y10 v18).fReceive)].length) 40) (((z57 φ v18 (z24 φ v3 y10 k17 n21)) (v19 ++ [(zj.mk (gt y10 v18).fTo (Span.mk (gt y10 v18).fAt 0) (gt y10 v18).fReceive)]))) else ((z57 φ v18 (z24 φ v3 y10 k17 n21)) v19)))) else (k17 v19))
def z6e (φ : Nat) (v1 : Pool) (v2 : (List zf)) (v3 : Int) : Option ((List zj)) := ck ((0 : Int) ≤ v3 ∧ v3 < (v1.fFleet.fWagons.length : Int)) (ck ((0 : Int) ≤ (gt v1.fFleet.fWagons v3).fHome ∧ (gt v1.fFleet.fWagons v3).fHome < (v1.fNetwork.fPlaces.length : Int)) ((z4l φ v1 v2).bind fun y10 => ((z24 φ v3 y10 (z2v φ) φ 0 [(zj.mk (gt v1.fNetwork.fPlaces ((gt v1.fFleet.fWagons v3).fHome)).fRailway (Span.mk 0 0) (Ref.mk 0 0))]))))
def zei (r : ((List zj))) (x : VP) (news : List HP) : Prop := ∃ sv0, x = eqv sv0 ∧ news = [row 64 z26 5 r sv0]
def z3v (φ : Nat) (v13 : (List zj)) : Option ((List zj) × Int) := (some (v13, 0))
def z67 (φ : Nat) (v4 : Int) (y8 : ((List zj))) (v16 : Int) (k19 : (Int → (List zj) → Option ((List zj) × Int))) (v24 : (List zj)) : Option ((List zj) × Int) := ck (fits (v24.length + [(zj.mk (gt y8 v16).fRailway (Span.mk (gt y8 v16).fSpan.fFrom v4) (gt y8 v16).fRef)].length) 40) ((k19 (W (v16 + 1)) (v24 ++ [(zj.mk (gt y8 v16).fRailway (Span.mk (gt y8 v16).fSpan.fFrom v4) (gt y8 v16).fRef)])))
def z3w (φ : Nat) (v4 : Int) (y8 : ((List zj))) (k15 : ((List zj) → Option ((List zj) × Int))) : Nat → Int → (List zj) → Option ((List zj) × Int)
  | 0, _, _ => none
  | n19 + 1, v16, v17 => (if (decide (v16 < (y8.length : Int))) = true then ck ((0 : Int) ≤ v16 ∧ v16 < (y8.length : Int)) ((if (decide (v4 ≤ (gt y8 v16).fSpan.fFrom)) = true then (k15 v17) else (if (decide (0 < (v17.length : Int))) = true then ck ((0 : Int) ≤ (W ((v17.length : Int) - 1)) ∧ (W ((v17.length : Int) - 1)) < (v17.length : Int)) (((z67 φ v4 y8 v16 (z3w φ v4 y8 k15 n19)) (z2x v17 (W ((v17.length : Int) - 1)) (zj.mk (gt v17 (W ((v17.length : Int) - 1))).fRailway (Span.mk (gt v17 (W ((v17.length : Int) - 1))).fSpan.fFrom (gt y8 v16).fSpan.fFrom) (gt v17 (W ((v17.length : Int) - 1))).fRef)))) else ((z67 φ v4 y8 v16 (z3w φ v4 y8 k15 n19)) v17)))) else (k15 v17))
def z8n (φ : Nat) (v1 : Pool) (v2 : (List zf)) (v3 : Int) (v4 : Int) : Option ((List zj) × Int) := (z6x φ v1 v3 v4).bind fun y6 => ((if (y6 != 0) = true then (some (([] : List zj), y6)) else (z6e φ v1 v2 v3).bind fun y8 => ((z3w φ v4 y8 (z3v φ) φ 0 ([] : List zj)))))
def ze7 (r : ((List zj) × Int)) (x : VP) (news : List HP) : Prop := ∃ sv0, x = tupv [eqv sv0, (iv .i64 r.2)] ∧ news = [row 64 z26 5 r.1 sv0]
def z54 (φ : Nat) (y8 : ((List zj))) (v13 : Int) : Option (Int × Int) := ck ((0 : Int) ≤ v13 ∧ v13 < (y8.length : Int)) ((some ((gt y8 v13).fRailway, 0)))
def z5s (φ : Nat) (v4 : Int) (y8 : ((List zj))) (k14 : (Int → Option (Int × Int))) : Nat → Int → Option (Int × Int)
  | 0, _ => none
  | n17 + 1, v16 => ck ((0 : Int) ≤ v16 ∧ v16 < (y8.length : Int)) ((if (decide (v4 < (gt y8 v16).fSpan.fFrom)) = true then ((z5s φ v4 y8 k14 n17) (W (v16 - 1))) else (k14 v16)))
def z7b (φ : Nat) (v1 : Pool) (v2 : (List zf)) (v3 : Int) (v4 : Int) : Option (Int × Int) := (z6x φ v1 v3 v4).bind fun y6 => ((if (y6 != 0) = true then (some (0, y6)) else (z6e φ v1 v2 v3).bind fun y8 => ((z5s φ v4 y8 (z54 φ y8) φ (W ((y8.length : Int) - 1))))))
def z3x (φ : Nat) : Option (Bool) := (some true)
def z4s (φ : Nat) (v1 : (List z3)) (v2 : (List z3)) (k4 : (Option (Bool))) : Nat → Int → Option (Bool)
  | 0, _ => none
  | n6 + 1, v5 => (if (decide (v5 < (v1.length : Int))) = true then ck ((0 : Int) ≤ v5 ∧ v5 < (v1.length : Int)) (ck ((0 : Int) ≤ v5 ∧ v5 < (v2.length : Int)) ((if (!(zex (gt v1 v5) (gt v2 v5))) = true then (some false) else ((z4s φ v1 v2 k4 n6) (W (v5 + 1)))))) else k4)
def z7v (φ : Nat) (v1 : (List z3)) (v2 : (List z3)) : Option (Bool) := (if ((v1.length : Int) != (v2.length : Int)) = true then (some false) else (z4s φ v1 v2 (z3x φ) φ 0))
def z7j (φ : Nat) : Option (Bool) := (some true)
def z80 (φ : Nat) (v1 : (List zj)) (v2 : (List zj)) (k4 : (Option (Bool))) : Nat → Int → Option (Bool)
  | 0, _ => none
  | n6 + 1, v5 => (if (decide (v5 < (v1.length : Int))) = true then ck ((0 : Int) ≤ v5 ∧ v5 < (v1.length : Int)) (ck ((0 : Int) ≤ v5 ∧ v5 < (v2.length : Int)) ((if (!(zgj (gt v1 v5) (gt v2 v5))) = true then (some false) else ((z80 φ v1 v2 k4 n6) (W (v5 + 1)))))) else k4)
def zd1 (φ : Nat) (v1 : (List zj)) (v2 : (List zj)) : Option (Bool) := (if ((v1.length : Int) != (v2.length : Int)) = true then (some false) else (z80 φ v1 v2 (z7j φ) φ 0))
def z7q (φ : Nat) (v3 : (List Int)) : Option (List Int) := (some v3)
def zbl (φ : Nat) (v1 : Int) : Option (List Int) := (if (decide (v1 < 0)) = true then none else (if (decide (0 < (W (v1 - (W (0 - (([] : List Int).length : Int))))))) = true then ck (0 < (W (v1 - (W (0 - (([] : List Int).length : Int)))))) (ck (fits ((W (v1 - (W (0 - (([] : List Int).length : Int))))) : Int).toNat 8) (ck ((0 : Int) ≤ 0 ∧ 0 ≤ ((List.replicate ((W (v1 - (W (0 - (([] : List Int).length : Int))))) : Int).toNat (0 : Int)).length : Int)) (((z7q φ) ((List.replicate ((W (v1 - (W (0 - (([] : List Int).length : Int))))) : Int).toNat (0 : Int)).take (0 : Int).toNat))))) else ((z7q φ) ([] : List Int))))
def zgr (r : (List Int)) (x : VP) (news : List HP) : Prop := ∃ sv0, x = eqv sv0 ∧ news = [row 3 eI64 1 r sv0]
def z5d (φ : Nat) (v9 : (List Int)) : Option ((List Int)) := (some v9)
def z6i (φ : Nat) (v1 : (List (List Int))) (k11 : ((List Int) → Option ((List Int)))) : Nat → Int → (List Int) → Option ((List Int))
  | 0, _, _ => none
  | n15 + 1, v12, v13 => (if (decide (v12 < (v1.length : Int))) = true then ck ((0 : Int) ≤ v12 ∧ v12 < (v1.length : Int)) (ck (fits (v13.length + (gt v1 v12).length) 8) (((z6i φ v1 k11 n15) (W (v12 + 1)) (v13 ++ (gt v1 v12))))) else (k11 v13))
def z60 (φ : Nat) (v1 : (List (List Int))) (v2 : Int) : Option ((List Int)) := (zbl φ v2).bind fun y4 => ((z6i φ v1 (z5d φ) φ 0 y4))
def z6k (φ : Nat) (v1 : (List (List Int))) (k3 : (Int → Option ((List Int)))) : Nat → Int → Int → Option ((List Int))
  | 0, _, _ => none
  | n22 + 1, v20, v21 => (if (decide (v21 < (v1.length : Int))) = true then ck ((0 : Int) ≤ v21 ∧ v21 < (v1.length : Int)) ((if (decide ((W (v20 + ((gt v1 v21).length : Int))) < 0)) = true then none else ((z6k φ v1 k3 n22) (W (v20 + ((gt v1 v21).length : Int))) (W (v21 + 1))))) else (k3 v20))
def zaj (φ : Nat) (v1 : (List (List Int))) : Option ((List Int)) := (z6k φ v1 (z60 φ v1) φ 0 0)
def zf0 (r : ((List Int))) (x : VP) (news : List HP) : Prop := ∃ sv0, x = eqv sv0 ∧ news = [row 3 eI64 1 r sv0]
def z19 (φ : Nat) (v6 : Int) (k8 : (Int → (List Ref) → Option (List Ref))) (v10 : (List Ref)) : Option (List Ref) := (k8 (W (v6 + 1)) v10)
def z1u (φ : Nat) (v3 : Int) (y5 : (Ref → Ref → Option Int)) (k11 : ((List Ref) → Option (List Ref))) : Nat → Int → (List Ref) → Option (List Ref)
  | 0, _, _ => none
  | n14 + 1, v12, v13 => ck ((decide (v3 < v12) = true) → ((0 : Int) ≤ v12 ∧ v12 < (v13.length : Int))) (ck ((decide (v3 < v12) = true) → ((0 : Int) ≤ (W (v12 - 1)) ∧ (W (v12 - 1)) < (v13.length : Int))) ((z5l (decide (v3 < v12) = true) (y5 (gt v13 v12) (gt v13 (W (v12 - 1))))).bind fun y28 => ((if (decide (v3 < v12) && decide (y28 < 0)) = true then ck ((0 : Int) ≤ (W (v12 - 1)) ∧ (W (v12 - 1)) < (v13.length : Int)) (ck ((0 : Int) ≤ v12 ∧ v12 < (v13.length : Int)) (ck ((0 : Int) ≤ (W (v12 - 1)) ∧ (W (v12 - 1)) < ((z2x v13 v12 (gt v13 (W (v12 - 1)))).length : Int)) (((z1u φ v3 y5 k11 n14) (W (v12 - 1)) (z2x (z2x v13 v12 (gt v13 (W (v12 - 1)))) (W (v12 - 1)) (gt v13 v12)))))) else (k11 v13)))))
def zz (φ : Nat) (v3 : Int) (v4 : Int) (y5 : (Ref → Ref → Option Int)) : Nat → Int → (List Ref) → Option (List Ref)
  | 0, _, _ => none
  | n8 + 1, v6, v7 => (if (decide (v6 < v4)) = true then (z1u φ v3 y5 (z19 φ v6 (zz φ v3 v4 y5 n8)) φ v6 v7) else (some v7))
def z3e (φ : Nat) (v1 : (List Ref)) (v3 : Int) (v4 : Int) (y5 : (Ref → Ref → Option Int)) : Option (List Ref) := (zz φ v3 v4 y5 φ (W (v3 + 1)) v1)
def z2o (φ : Nat) (v3 : Int) (v4 : Int) (v5 : Int) : Nat → Int → (List Ref) → Option (List Ref)
  | 0, _, _ => none
  | n9 + 1, v7, v8 => (if (decide (v7 < v5)) = true then ck ((0 : Int) ≤ (W (v4 + v7)) ∧ (W (v4 + v7)) < (v8.length : Int)) (ck ((0 : Int) ≤ (W (v3 + v7)) ∧ (W (v3 + v7)) < (v8.length : Int)) (ck ((0 : Int) ≤ (W (v4 + v7)) ∧ (W (v4 + v7)) < ((z2x v8 (W (v3 + v7)) (gt v8 (W (v4 + v7)))).length : Int)) (((z2o φ v3 v4 v5 n9) (W (v7 + 1)) (z2x (z2x v8 (W (v3 + v7)) (gt v8 (W (v4 + v7)))) (W (v4 + v7)) (gt v8 (W (v3 + v7)))))))) else (some v8))
def z3c (φ : Nat) (v1 : (List Ref)) (v3 : Int) (v4 : Int) (v5 : Int) (y6 : (Ref → Ref → Option Int)) : Option (List Ref) := (z2o φ v3 v4 v5 φ 0 v1)
def z2f (φ : Nat) (v4 : Int) (y6 : (Ref → Ref → Option Int)) (v7 : Int) (v8 : (List Ref)) : Option (List Ref) := (z3c φ v8 (W (v4 - v7)) v4 v7 y6).bind fun y10 => ((some y10))
def z2c (φ : Nat) (v4 : Int) (y6 : (Ref → Ref → Option Int)) (k9 : (Int → (List Ref) → Option (List Ref))) : Nat → Int → Int → (List Ref) → Option (List Ref)
  | 0, _, _, _ => none
  | n17 + 1, v14, v15, v16 => (if (v14 != v15) = true then (if (decide (v15 < v14)) = true then (z3c φ v16 (W (v4 - v14)) v4 v15 y6).bind fun y20 => (((z2c φ v4 y6 k9 n17) (W (v14 - v15)) v15 y20)) else (z3c φ v16 (W (v4 - v14)) (W ((W (v4 + v15)) - v14)) v14 y6).bind fun y24 => (((z2c φ v4 y6 k9 n17) v14 (W (v15 - v14)) y24))) else (k9 v14 v16))
def z6d (φ : Nat) (v1 : (List Ref)) (v3 : Int) (v4 : Int) (v5 : Int) (y6 : (Ref → Ref → Option Int)) : Option (List Ref) := (z2c φ v4 y6 (z2f φ v4 y6) φ (W (v4 - v3)) (W (v5 - v4)) v1)
def z1x (φ : Nat) (v11 : (List Ref)) : Option (List Ref) := (some v11)
def z2u (φ : Nat) (v9 : Int) (k12 : ((List Ref) → Option (List Ref))) : Nat → Int → (List Ref) → Option (List Ref)
  | 0, _, _ => none
  | n15 + 1, v13, v14 => (if (decide (v13 < (W (v9 - 1)))) = true then ck ((0 : Int) ≤ (W (v13 + 1)) ∧ (W (v13 + 1)) < (v14.length : Int)) (ck ((0 : Int) ≤ v13 ∧ v13 < (v14.length : Int)) (ck ((0 : Int) ≤ (W (v13 + 1)) ∧ (W (v13 + 1)) < ((z2x v14 v13 (gt v14 (W (v13 + 1)))).length : Int)) (((z2u φ v9 k12 n15) (W (v13 + 1)) (z2x (z2x v14 v13 (gt v14 (W (v13 + 1)))) (W (v13 + 1)) (gt v14 v13)))))) else (k12 v14))
def z1w (φ : Nat) (v1 : (List Ref)) (v3 : Int) (v9 : Int) : Option (List Ref) := (z2u φ v9 (z1x φ) φ v3 v1)
def z20 (φ : Nat) (v1 : (List Ref)) (v3 : Int) (y6 : (Ref → Ref → Option Int)) (k10 : (Int → Option (List Ref))) : Nat → Int → Int → Option (List Ref)
  | 0, _, _ => none
  | n24 + 1, v22, v23 => (if (decide (v22 < v23)) = true then ck ((0 : Int) ≤ (W (((U ((W (v22 + v23)))).fdiv 2))) ∧ (W (((U ((W (v22 + v23)))).fdiv 2))) < (v1.length : Int)) (ck ((0 : Int) ≤ v3 ∧ v3 < (v1.length : Int)) ((y6 (gt v1 (W (((U ((W (v22 + v23)))).fdiv 2)))) (gt v1 v3)).bind fun y28 => ((if (decide (y28 < 0)) = true then ((z20 φ v1 v3 y6 k10 n24) (W ((W (((U ((W (v22 + v23)))).fdiv 2))) + 1)) v23) else ((z20 φ v1 v3 y6 k10 n24) v22 (W (((U ((W (v22 + v23)))).fdiv 2)))))))) else (k10 v22))
def z1v (φ : Nat) (v33 : (List Ref)) : Option (List Ref) := (some v33)
def z2t (φ : Nat) (v31 : Int) (k34 : ((List Ref) → Option (List Ref))) : Nat → Int → (List Ref) → Option (List Ref)
  | 0, _, _ => none
  | n37 + 1, v35, v36 => (if (decide (v31 < v35)) = true then ck ((0 : Int) ≤ (W (v35 - 1)) ∧ (W (v35 - 1)) < (v36.length : Int)) (ck ((0 : Int) ≤ v35 ∧ v35 < (v36.length : Int)) (ck ((0 : Int) ≤ (W (v35 - 1)) ∧ (W (v35 - 1)) < ((z2x v36 v35 (gt v36 (W (v35 - 1)))).length : Int)) (((z2t φ v31 k34 n37) (W (v35 - 1)) (z2x (z2x v36 v35 (gt v36 (W (v35 - 1)))) (W (v35 - 1)) (gt v36 v35)))))) else (k34 v36))
def z22 (φ : Nat) (v1 : (List Ref)) (v4 : Int) (v31 : Int) : Option (List Ref) := (z2t φ v31 (z1v φ) φ v4 v1)
def z21 (φ : Nat) (v1 : (List Ref)) (v4 : Int) (y6 : (Ref → Ref → Option Int)) (k32 : (Int → Option (List Ref))) : Nat → Int → Int → Option (List Ref)
  | 0, _, _ => none
  | n46 + 1, v44, v45 => (if (decide (v44 < v45)) = true then ck ((0 : Int) ≤ v4 ∧ v4 < (v1.length : Int)) (ck ((0 : Int) ≤ (W (((U ((W (v44 + v45)))).fdiv 2))) ∧ (W (((U ((W (v44 + v45)))).fdiv 2))) < (v1.length : Int)) ((y6 (gt v1 v4) (gt v1 (W (((U ((W (v44 + v45)))).fdiv 2))))).bind fun y50 => ((if (!(decide (y50 < 0))) = true then ((z21 φ v1 v4 y6 k32 n46) (W ((W (((U ((W (v44 + v45)))).fdiv 2))) + 1)) v45) else ((z21 φ v1 v4 y6 k32 n46) v44 (W (((U ((W (v44 + v45)))).fdiv 2)))))))) else (k32 v44))
def z2q (φ : Nat) (v3 : Int) (v4 : Int) (v5 : Int) (y6 : (Ref → Ref → Option Int)) (y7 : ((List Ref) → Int → Int → Int → (Ref → Ref → Option Int) → Option (List Ref))) (v55 : Int) (v67 : (List Ref)) : Option (List Ref) := (if (decide ((W (((U ((W (v3 + v5)))).fdiv 2))) < (W ((W ((W (((U ((W (v3 + v5)))).fdiv 2))) + v4)) - v55))) && decide ((W ((W ((W (((U ((W (v3 + v5)))).fdiv 2))) + v4)) - v55)) < v5)) = true then (y7 v67 (W (((U ((W (v3 + v5)))).fdiv 2))) (W ((W ((W (((U ((W (v3 + v5)))).fdiv 2))) + v4)) - v55)) v5 y6).bind fun y74 => ((some y74)) else (some v67))
def z2r (φ : Nat) (v3 : Int) (v4 : Int) (v5 : Int) (y6 : (Ref → Ref → Option Int)) (y7 : ((List Ref) → Int → Int → Int → (Ref → Ref → Option Int) → Option (List Ref))) (v55 : Int) (v61 : (List Ref)) : Option (List Ref) := (if (decide (v3 < v55) && decide (v55 < (W (((U ((W (v3 + v5)))).fdiv 2))))) = true then (y7 v61 v3 v55 (W (((U ((W (v3 + v5)))).fdiv 2))) y6).bind fun y79 => (((z2q φ v3 v4 v5 y6 y7 v55) y79)) else ((z2q φ v3 v4 v5 y6 y7 v55) v61))
def z1y (φ : Nat) (v1 : (List Ref)) (v3 : Int) (v4 : Int) (v5 : Int) (y6 : (Ref → Ref → Option Int)) (y7 : ((List Ref) → Int → Int → Int → (Ref → Ref → Option Int) → Option (List Ref))) (v55 : Int) : Option (List Ref) := (if (decide (v55 < v4) && decide (v4 < (W ((W ((W (((U ((W (v3 + v5)))).fdiv 2))) + v4)) - v55)))) = true then (z6d φ v1 v55 v4 (W ((W ((W (((U ((W (v3 + v5)))).fdiv 2))) + v4)) - v55)) y6).bind fun y84 => (((z2r φ v3 v4 v5 y6 y7 v55) y84)) else ((z2r φ v3 v4 v5 y6 y7 v55) v1))
def z23 (φ : Nat) (v1 : (List Ref)) (v3 : Int) (v4 : Int) (v5 : Int) (y6 : (Ref → Ref → Option Int)) (k56 : (Int → Option (List Ref))) : Nat → Int → Int → Option (List Ref)
  | 0, _, _ => none
  | n90 + 1, v88, v89 => (if (decide (v88 < v89)) = true then ck ((0 : Int) ≤ (W ((W ((W ((W (((U ((W (v3 + v5)))).fdiv 2))) + v4)) - 1)) - (W (((U ((W (v88 + v89)))).fdiv 2))))) ∧ (W ((W ((W ((W (((U ((W (v3 + v5)))).fdiv 2))) + v4)) - 1)) - (W (((U ((W (v88 + v89)))).fdiv 2))))) < (v1.length : Int)) (ck ((0 : Int) ≤ (W (((U ((W (v88 + v89)))).fdiv 2))) ∧ (W (((U ((W (v88 + v89)))).fdiv 2))) < (v1.length : Int)) ((y6 (gt v1 (W ((W ((W ((W (((U ((W (v3 + v5)))).fdiv 2))) + v4)) - 1)) - (W (((U ((W (v88 + v89)))).fdiv 2)))))) (gt v1 (W (((U ((W (v88 + v89)))).fdiv 2))))).bind fun y94 => ((if (!(decide (y94 < 0))) = true then ((z23 φ v1 v3 v4 v5 y6 k56 n90) (W ((W (((U ((W (v88 + v89)))).fdiv 2))) + 1)) v89) else ((z23 φ v1 v3 v4 v5 y6 k56 n90) v88 (W (((U ((W (v88 + v89)))).fdiv 2)))))))) else (k56 v88))
def z2s (φ : Nat) (v1 : (List Ref)) (v3 : Int) (v4 : Int) (v5 : Int) (y6 : (Ref → Ref → Option Int)) (y7 : ((List Ref) → Int → Int → Int → (Ref → Ref → Option Int) → Option (List Ref))) (v52 : Int) (v53 : Int) : Option (List Ref) := (z23 φ v1 v3 v4 v5 y6 (z1y φ v1 v3 v4 v5 y6 y7) φ v52 v53)
def zl : Nat → (List Ref) → Int → Int → Int → (Ref → Ref → Option Int) → Option (List Ref)
  | 0, _, _, _, _, _ => none
  | φ + 1, v1, v3, v4, v5, y6 => (if ((W (v4 - v3)) == 1) = true then (z20 φ v1 v3 y6 (z1w φ v1 v3) φ v4 v5) else (if ((W (v5 - v4)) == 1) = true then (z21 φ v1 v4 y6 (z22 φ v1 v4) φ v3 v4) else (if (decide ((W (((U ((W (v3 + v5)))).fdiv 2))) < v4)) = true then ((z2s φ v1 v3 v4 v5 y6 (zl φ)) (W ((W ((W (((U ((W (v3 + v5)))).fdiv 2))) + v4)) - v5)) (W (((U ((W (v3 + v5)))).fdiv 2)))) else ((z2s φ v1 v3 v4 v5 y6 (zl φ)) v3 v4))))
def z34 (φ : Nat) (v12 : Int) (k14 : (Int → (List Ref) → Option (List Ref))) (v19 : (List Ref)) : Option (List Ref) := (k14 (W (v12 * 2)) v19)
def z29 (φ : Nat) (v3 : Int) (y4 : (Ref → Ref → Option Int)) (v12 : Int) (k14 : (Int → (List Ref) → Option (List Ref))) (v16 : Int) (v17 : (List Ref)) : Option (List Ref) := (if (decide ((W (v16 + v12)) < v3)) = true then (zl φ v17 v16 (W (v16 + v12)) v3 y4).bind fun y22 => (((z34 φ v12 k14) y22)) else ((z34 φ v12 k14) v17))
def z36 (φ : Nat) (v3 : Int) (y4 : (Ref → Ref → Option Int)) (v12 : Int) (k18 : (Int → (List Ref) → Option (List Ref))) : Nat → Int → Int → (List Ref) → Option (List Ref)
  | 0, _, _, _ => none
  | n29 + 1, v26, v27, v28 => (if (decide (v27 ≤ v3)) = true then (zl φ v28 v26 (W (v26 + v12)) v27 y4).bind fun y31 => (((z36 φ v3 y4 v12 k18 n29) v27 (W (v27 + (W (2 * v12)))) y31)) else (k18 v26 v28))
def z00 (φ : Nat) (v3 : Int) (y4 : (Ref → Ref → Option Int)) : Nat → Int → (List Ref) → Option (List Ref)
  | 0, _, _ => none
  | n14 + 1, v12, v13 => (if (decide (v12 < v3)) = true then (z36 φ v3 y4 v12 (z29 φ v3 y4 v12 (z00 φ v3 y4 n14)) φ 0 (W (2 * v12)) v13) else (some v13))
def z2g (φ : Nat) (v3 : Int) (y4 : (Ref → Ref → Option Int)) (v5 : Int) (v6 : (List Ref)) : Option (List Ref) := (z3e φ v6 v5 v3 y4).bind fun y8 => ((z00 φ v3 y4 φ 20 y8))
def z35 (φ : Nat) (v3 : Int) (y4 : (Ref → Ref → Option Int)) (k7 : (Int → (List Ref) → Option (List Ref))) : Nat → Int → Int → (List Ref) → Option (List Ref)
  | 0, _, _, _ => none
  | n38 + 1, v35, v36, v37 => (if (decide (v36 ≤ v3)) = true then (z3e φ v37 v35 v36 y4).bind fun y40 => (((z35 φ v3 y4 k7 n38) v36 (W (v36 + 20)) y40)) else (k7 v35 v37))
def z6b (φ : Nat) (v1 : (List Ref)) (v3 : Int) (y4 : (Ref → Ref → Option Int)) : Option (List Ref) := (z35 φ v3 y4 (z2g φ v3 y4) φ 0 20 v1)
def z5w (φ : Nat) (v1 : (List Ref)) (y3 : (Ref → Ref → Option Int)) : Option (List Ref) := (z6b φ v1 (v1.length : Int) y3).bind fun y4 => ((some y4))
def z2i (φ : Nat) (v35 : (List Ref)) : Option ((List Ref)) := (z5w φ v35 (fun a b => z40 φ a b)).bind fun y38 => ((some y38))
def z4r (φ : Nat) (v42 : Int) (k45 : (Int → (List Ref) → Option ((List Ref)))) (v48 : (List Ref)) : Option ((List Ref)) := (k45 (W (v42 + 1)) v48)
def z2j (φ : Nat) (v2 : (List zf)) (v12 : (List (Int × Bool))) (y30 : ((List Int))) (k37 : ((List Ref) → Option ((List Ref)))) : Nat → Int → (List Ref) → Option ((List Ref))
  | 0, _, _ => none
  | n45 + 1, v42, v43 => (if (decide (v42 < (y30.length : Int))) = true then ck ((0 : Int) ≤ v42 ∧ v42 < (y30.length : Int)) ((if (!((mget v12 (gt y30 v42)).getD false)) = true then ck ((0 : Int) ≤ (gt y30 v42) ∧ (gt y30 v42) < (v2.length : Int)) (ck (fits (v43.length + [(gt v2 (gt y30 v42)).fRef].length) 16) (((z4r φ v42 (z2j φ v2 v12 y30 k37 n45)) (v43 ++ [(gt v2 (gt y30 v42)).fRef])))) else ((z4r φ v42 (z2j φ v2 v12 y30 k37 n45)) v43))) else (k37 v43))
def z3y (φ : Nat) (v1 : Pool) (v2 : (List zf)) (v12 : (List (Int × Bool))) : Option ((List Ref)) := (z76 φ v1 v2 3).bind fun y15 => ((z76 φ v1 v2 4).bind fun y21 => ((zaj φ [y15, y21]).bind fun y30 => ((z2j φ v2 v12 y30 (z2i φ) φ 0 ([] : List Ref)))))
def z4q (φ : Nat) (y7 : ((List (Nat → Int)))) (k13 : ((List (Int × Bool)) → Option ((List Ref)))) : Nat → Int → (List (Int × Bool)) → Option ((List Ref))
  | 0, _, _ => none
  | n58 + 1, v56, v57 => (if (decide (v56 < (y7.length : Int))) = true then ck ((0 : Int) ≤ v56 ∧ v56 < (y7.length : Int)) (((z4q φ y7 k13 n58) (W (v56 + 1)) (mset (mset v57 ((gt y7 v56) 0) true) ((gt y7 v56) 1) true))) else (k13 v57))
def z86 (φ : Nat) (v1 : Pool) (v2 : (List zf)) : Option ((List Ref)) := (z41 φ v1).bind fun y4 => ((if (y4 != 0) = true then (some ([] : List Ref)) else (z52 φ v1 v2).bind fun y7 => ((z4q φ y7 (z3y φ v1 v2) φ 0 ([] : List (Int × Bool))))))
def zb9 (r : ((List Ref))) (x : VP) (news : List HP) : Prop := ∃ sv0, x = eqv sv0 ∧ news = [row 43 eRef 2 r sv0]
def z5f (φ : Nat) : Option (Bool) := (some true)
def z6m (φ : Nat) (v1 : (List Ref)) (v2 : (List Ref)) (k4 : (Option (Bool))) : Nat → Int → Option (Bool)
  | 0, _ => none
  | n6 + 1, v5 => (if (decide (v5 < (v1.length : Int))) = true then ck ((0 : Int) ≤ v5 ∧ v5 < (v1.length : Int)) (ck ((0 : Int) ≤ v5 ∧ v5 < (v2.length : Int)) ((if (!(zi8 (gt v1 v5) (gt v2 v5))) = true then (some false) else ((z6m φ v1 v2 k4 n6) (W (v5 + 1)))))) else k4)
def z9u (φ : Nat) (v1 : (List Ref)) (v2 : (List Ref)) : Option (Bool) := (if ((v1.length : Int) != (v2.length : Int)) = true then (some false) else (z6m φ v1 v2 (z5f φ) φ 0))
def zb4 (φ : Nat)  : Option (Bool) := (zad φ).bind fun y1 => ((z7e φ 1 100 1).bind fun y6 => ((z7k φ 1 111 3).bind fun y10 => ((z7e φ 1 100 1).bind fun y15 => ((z7k φ 1 161 3).bind fun y19 => ((z7e φ 1 100 0).bind fun y24 => ((z7e φ 2 120 0).bind fun y28 => ((z7k φ 1 119 0).bind fun y32 => ((z7k φ 2 130 0).bind fun y36 => ((z4l φ y1 [y6, y10]).bind fun y41 => ((z8n φ y1 [y6, y10] 0 500).bind fun y46 => ((z8n φ y1 [y15, y19] 0 500).bind fun y51 => ((z7b φ y1 [y24, y28, y32, y36] 0 108).bind fun y56 => ((z7b φ y1 [y24, y28, y32, y36] 0 109).bind fun y57 => ((z4l φ y1 [y24, y28, y32, y36]).bind fun y58 => ((z7v φ y41 [(z3.mk 0 2 0 1 105 3 (Ref.mk 0 1) (Ref.mk 1 1))]).bind fun y64 => (ck ((((!y64) || ((y58.length : Int) != 2)) = false) → ((0 : Int) ≤ 0 ∧ 0 < (y58.length : Int))) (ck (((((!y64) || ((y58.length : Int) != 2)) || ((gt y58 0).fAt != 109)) = false) → ((0 : Int) ≤ 1 ∧ 1 < (y58.length : Int))) ((if ((((!y64) || ((y58.length : Int) != 2)) || ((gt y58 0).fAt != 109)) || ((gt y58 1).fAt != 125)) = true then (some false) else (z5l ((y46.2 == 0) = true) (zd1 φ y46.1 [(zj.mk 0 (Span.mk 0 105) (Ref.mk 0 0)), (zj.mk 1 (Span.mk 105 500) (Ref.mk 1 1))])).bind fun y93 => ((z5l (((((y46.2 == 0) && y93) && (y51.2 == 0)) && ((y51.1.length : Int) == 1)) = true) (z4l φ y1 [y15, y19])).bind fun y105 => ((z5l ((((((y46.2 == 0) && y93) && (y51.2 == 0)) && ((y51.1.length : Int) == 1)) && ((y105.length : Int) == 0)) = true) (z86 φ y1 [y15, y19])).bind fun y113 => ((z5l ((((((y46.2 == 0) && y93) && (y51.2 == 0)) && ((y51.1.length : Int) == 1)) && ((y105.length : Int) == 0)) = true) (z9u φ y113 [(Ref.mk 0 1), (Ref.mk 1 1)])).bind fun y120 => ((some ((((((((((y46.2 == 0) && y93) && (y51.2 == 0)) && ((y51.1.length : Int) == 1)) && ((y105.length : Int) == 0)) && y120) && (y56.2 == 0)) && (y56.1 == 0)) && (y57.2 == 0)) && (y57.1 == 1))))))))))))))))))))))))))
def z4a (φ : Nat) : Option (Bool) := (some true)
def z3k (φ : Nat) (v1 : Pool) (k38 : (Option (Bool))) : Nat → Int → Option (Bool)
  | 0, _ => none
  | n40 + 1, v39 => (if (decide (v39 < (v1.fRailways.length : Int))) = true then ck ((0 : Int) ≤ v39 ∧ v39 < (v1.fRailways.length : Int)) ((if (decide (100 < (((gt v1.fRailways v39).fCalendar.fHolidays).length : Int))) = true then (some false) else ((z3k φ v1 k38 n40) (W (v39 + 1))))) else k38)
def z79 (φ : Nat) (v1 : Pool) : Option (Bool) := (if ((((((decide (16 < (v1.fNetwork.fPlaces.length : Int)) || decide (40 < (v1.fNetwork.fEdges.length : Int))) || decide (8 < (v1.fFleet.fWagons.length : Int))) || decide (8 < (v1.fReaders.length : Int))) || decide (100 < (v1.fFleet.fSwaps.length : Int))) || decide (100 < (v1.fFleet.fWashes.length : Int))) || decide (17 < (v1.fRailways.length : Int))) = true then (some false) else (z3k φ v1 (z4a φ) φ 0))
def z4b (φ : Nat) : Option (Bool) := (some true)
def z3i (φ : Nat) (v1 : (List zf)) (k4 : (Option (Bool))) : Nat → Int → Option (Bool)
  | 0, _ => none
  | n6 + 1, v5 => (if (decide (v5 < (v1.length : Int))) = true then ck ((0 : Int) ≤ v5 ∧ v5 < (v1.length : Int)) ((if (decide (40 < (((gt v1 v5).fItem.fParts).length : Int)) || decide (2000 < (((gt v1 v5).fItem.fText).size : Int))) = true then (some false) else ((z3i φ v1 k4 n6) (W (v5 + 1))))) else k4)
def z61 (φ : Nat) (v1 : (List zf)) (v2 : Int) : Option (Bool) := (if (decide (v2 < (v1.length : Int))) = true then (some false) else (z3i φ v1 (z4b φ) φ 0))
def zat (φ : Nat) (v1 : Pool) (v2 : (List zf)) : Option (Bool) := (z79 φ v1).bind fun y4 => ((z5l (y4 = true) (z61 φ v2 60)).bind fun y7 => ((some (y4 && y7))))
def za3 (φ : Nat) (v2 : (List zf)) (k31 : ((List zf) → Option (Bool))) : Nat → Int → (List zf) → Option (Bool)
  | 0, _, _ => none
  | n102 + 1, v99, v100 => (if (decide (0 ≤ v99)) = true then ck ((0 : Int) ≤ v99 ∧ v99 < (v2.length : Int)) (ck (fits (v100.length + [(gt v2 v99)].length) 192) (((za3 φ v2 k31 n102) (W (v99 - 1)) (v100 ++ [(gt v2 v99)])))) else (k31 v100))
def z1i (φ : Nat) (v1 : Pool) (v2 : (List zf)) (v3 : Int) (v4 : Int) (v10 : (List zf)) : Option (Bool) := (z7b φ v1 v2 v3 v4).bind fun y13 => ((z7b φ v1 v10 v3 v4).bind fun y14 => ((some ((y13.1 == y14.1) && (y13.2 == y14.2)))))
def z3r (φ : Nat) (v19 : Int) (k22 : (Int → (List zf) → Option (Bool))) (v40 : (List zf)) : Option (Bool) := (k22 (W (v19 + 1)) v40)
def z13 (φ : Nat) (v2 : (List zf)) (v3 : Int) (v4 : Int) (k12 : ((List zf) → Option (Bool))) : Nat → Int → (List zf) → Option (Bool)
  | 0, _, _ => none
  | n22 + 1, v19, v20 => (if (decide (v19 < (v2.length : Int))) = true then ck ((0 : Int) ≤ v19 ∧ v19 < (v2.length : Int)) ((if (((gt v2 v19).fItem.fWagon == v3) && (decide (1073741824 < v4) || decide ((gt v2 v19).fItem.fFrom ≤ (W (v4 + 120))))) = true then ck (fits (v20.length + [(gt v2 v19)].length) 192) (((z3r φ v19 (z13 φ v2 v3 v4 k12 n22)) (v20 ++ [(gt v2 v19)]))) else ((z3r φ v19 (z13 φ v2 v3 v4 k12 n22)) v20))) else (k12 v20))
def z6s (φ : Nat) (v1 : Pool) (v2 : (List zf)) (v3 : Int) (v4 : Int) : Option (Bool) := (zb4 φ).bind fun y6 => ((if (!y6) = true then (some false) else (zat φ v1 v2).bind fun y8 => ((if (!y8) = true then (some true) else (z13 φ v2 v3 v4 (z1i φ v1 v2 v3 v4) φ 0 ([] : List zf))))))
end Px
end
