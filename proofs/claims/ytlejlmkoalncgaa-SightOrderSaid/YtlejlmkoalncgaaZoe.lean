/- A part of the proof of sightOrder_holds. Conditions: none. -/
import Derived.Test.YtlejlmkoalncgaaZod
import Derived.Ground.SlsfProg
import Derived.Ground.NamesProg
import Derived.Test.YtlejlmkoalncgaaProg
import Derived.KernelRfl
section
namespace Go.Proofs
open Go.Shelf
def Try.sortEv_ren : Go.Shelf.Ren := ⟨fun | 6 => 28 | 15 => 43 | 14 => 42 | 28 => 59 | 29 => 48 | 20 => 51 | 21 => 52 | 22 => 53 | 23 => 54 | 24 => 55 | 25 => 56 | 26 => 57 | 27 => 58 | 46 => 68 | 47 => 69 | 48 => 70 | 49 => 71 | 50 => 72 | 57 => 83 | n => n, fun | 22 => 81 | 24 => 83 | 25 => 120 | 3 => 3 | 39 => 143 | 0 => 0 | 53 => 166 | 55 => 41 | 4 => 4 | 46 => 160 | 45 => 159 | 50 => 86 | 5 => 5 | 9 => 9 | 66 => 179 | 70 => 175 | 76 => 191 | 77 => 192 | n => n, fun | n => n⟩
theorem Try.sortEv : Go.Proofs.SlLaysF0.n6 Try.prog Try.sortEv_ren := {
  mixed := by kernel_rfl
  f6 := ⟨Try.f28.name, by decide, Try.func28.trans (congrArg some (by kernel_rfl))⟩
  f14 := ⟨Try.f42.name, by decide, Try.func42.trans (congrArg some (by kernel_rfl))⟩
  f15 := Try.func43.trans (congrArg some (by kernel_rfl))
  f20 := ⟨Try.f51.name, by decide, Try.func51.trans (congrArg some (by kernel_rfl))⟩
  f21 := ⟨Try.f52.name, by decide, Try.func52.trans (congrArg some (by kernel_rfl))⟩
  f22 := ⟨Try.f53.name, by decide, Try.func53.trans (congrArg some (by kernel_rfl))⟩
  f23 := ⟨Try.f54.name, by decide, Try.func54.trans (congrArg some (by kernel_rfl))⟩
  f24 := ⟨Try.f55.name, by decide, Try.func55.trans (congrArg some (by kernel_rfl))⟩
  f25 := ⟨Try.f56.name, by decide, Try.func56.trans (congrArg some (by kernel_rfl))⟩
  f26 := ⟨Try.f57.name, by decide, Try.func57.trans (congrArg some (by kernel_rfl))⟩
  f27 := ⟨Try.f58.name, by decide, Try.func58.trans (congrArg some (by kernel_rfl))⟩
  f28 := Try.func59.trans (congrArg some (by kernel_rfl))
  f29 := Try.func48.trans (congrArg some (by kernel_rfl))
  f46 := ⟨Try.f68.name, by decide, Try.func68.trans (congrArg some (by kernel_rfl))⟩
  f47 := Try.func69.trans (congrArg some (by kernel_rfl))
  f48 := Try.func70.trans (congrArg some (by kernel_rfl))
  f49 := ⟨Try.f71.name, by decide, Try.func71.trans (congrArg some (by kernel_rfl))⟩
  f50 := ⟨Try.f72.name, by decide, Try.func72.trans (congrArg some (by kernel_rfl))⟩
  f57 := ⟨Try.f83.name, by decide, Try.func83.trans (congrArg some (by kernel_rfl))⟩
  t0 := Try.underlying0
  a0 := Try.isAgg0
  z0 := Try.sizeOf0
  v0 := Try.zeroValue0
  t3 := Try.underlying3
  a3 := Try.isAgg3
  z3 := Try.sizeOf3
  v3 := Try.zeroValue3
  t4 := Try.underlying4
  a4 := Try.isAgg4
  z4 := Try.sizeOf4
  v4 := Try.zeroValue4
  t5 := Try.underlying5
  a5 := Try.isAgg5
  z5 := Try.sizeOf5
  v5 := Try.zeroValue5
  t9 := Try.underlying9
  a9 := Try.isAgg9
  z9 := Try.sizeOf9
  v9 := Try.zeroValue9
  t22 := Try.underlying81
  a22 := Try.isAgg81
  z22 := Try.sizeOf81
  v22 := Try.zeroValue81
  t25 := Try.underlying120
  a25 := Try.isAgg120
  z25 := Try.sizeOf120
  v25 := Try.zeroValue120
  t39 := Try.underlying143
  a39 := Try.isAgg143
  z39 := Try.sizeOf143
  v39 := Try.zeroValue143
  t45 := Try.underlying159
  a45 := Try.isAgg159
  z45 := Try.sizeOf159
  v45 := Try.zeroValue159
  t46 := Try.underlying160
  a46 := Try.isAgg160
  z46 := Try.sizeOf160
  v46 := Try.zeroValue160
  t50 := Try.underlying86
  a50 := Try.isAgg86
  z50 := Try.sizeOf86
  v50 := Try.zeroValue86
  t53 := Try.underlying166
  a53 := Try.isAgg166
  z53 := Try.sizeOf166
  v53 := Try.zeroValue166
  t55 := Try.underlying41
  a55 := Try.isAgg41
  z55 := Try.sizeOf41
  v55 := Try.zeroValue41
  t66 := Try.underlying179
  a66 := Try.isAgg179
  z66 := Try.sizeOf179
  v66 := Try.zeroValue179
  t70 := Try.underlying175
  a70 := Try.isAgg175
  z70 := Try.sizeOf175
  v70 := Try.zeroValue175
  t76 := Try.underlying191
  a76 := Try.isAgg191
  z76 := Try.sizeOf191
  v76 := Try.zeroValue191
  t77 := Try.underlying192
  a77 := Try.isAgg192
  z77 := Try.sizeOf192
  v77 := Try.zeroValue192 }
def Try.lays189_ren : Go.Shelf.Ren := ⟨fun | 189 => 61 | 125 => 43 | 257 => 73 | 128 => 59 | 129 => 48 | 294 => 84 | 295 => 85 | 296 => 86 | 297 => 87 | 298 => 88 | 299 => 89 | 216 => 90 | 300 => 91 | 301 => 92 | 328 => 93 | 329 => 69 | 330 => 70 | 331 => 94 | 332 => 95 | 215 => 44 | 343 => 96 | n => n, fun | 28 => 104 | 3 => 3 | 46 => 143 | 0 => 0 | 51 => 166 | 53 => 41 | 4 => 4 | 183 => 160 | 182 => 159 | 131 => 86 | 5 => 5 | 9 => 9 | 218 => 179 | 222 => 175 | 228 => 191 | 229 => 192 | n => n, fun | n => n⟩
theorem Try.lays189 : Go.Proofs.Lays.n189 Try.prog Try.lays189_ren := {
  mixed := by kernel_rfl
  f125 := Try.func43.trans (congrArg some (by kernel_rfl))
  f128 := Try.func59.trans (congrArg some (by kernel_rfl))
  f129 := Try.func48.trans (congrArg some (by kernel_rfl))
  f189 := Try.func61.trans (congrArg some (by kernel_rfl))
  f215 := Try.func44.trans (congrArg some (by kernel_rfl))
  f216 := Try.func90.trans (congrArg some (by kernel_rfl))
  f257 := Try.func73.trans (congrArg some (by kernel_rfl))
  f294 := Try.func84.trans (congrArg some (by kernel_rfl))
  f295 := Try.func85.trans (congrArg some (by kernel_rfl))
  f296 := Try.func86.trans (congrArg some (by kernel_rfl))
  f297 := Try.func87.trans (congrArg some (by kernel_rfl))
  f298 := Try.func88.trans (congrArg some (by kernel_rfl))
  f299 := Try.func89.trans (congrArg some (by kernel_rfl))
  f300 := Try.func91.trans (congrArg some (by kernel_rfl))
  f301 := Try.func92.trans (congrArg some (by kernel_rfl))
  f328 := Try.func93.trans (congrArg some (by kernel_rfl))
  f329 := Try.func69.trans (congrArg some (by kernel_rfl))
  f330 := Try.func70.trans (congrArg some (by kernel_rfl))
  f331 := Try.func94.trans (congrArg some (by kernel_rfl))
  f332 := Try.func95.trans (congrArg some (by kernel_rfl))
  f343 := Try.func96.trans (congrArg some (by kernel_rfl))
  t0 := Try.underlying0
  a0 := Try.isAgg0
  z0 := Try.sizeOf0
  v0 := Try.zeroValue0
  t3 := Try.underlying3
  a3 := Try.isAgg3
  z3 := Try.sizeOf3
  v3 := Try.zeroValue3
  t4 := Try.underlying4
  a4 := Try.isAgg4
  z4 := Try.sizeOf4
  v4 := Try.zeroValue4
  t5 := Try.underlying5
  a5 := Try.isAgg5
  z5 := Try.sizeOf5
  v5 := Try.zeroValue5
  t9 := Try.underlying9
  a9 := Try.isAgg9
  z9 := Try.sizeOf9
  v9 := Try.zeroValue9
  t28 := Try.underlying104
  a28 := Try.isAgg104
  z28 := Try.sizeOf104
  v28 := Try.zeroValue104
  t46 := Try.underlying143
  a46 := Try.isAgg143
  z46 := Try.sizeOf143
  v46 := Try.zeroValue143
  t51 := Try.underlying166
  a51 := Try.isAgg166
  z51 := Try.sizeOf166
  v51 := Try.zeroValue166
  t53 := Try.underlying41
  a53 := Try.isAgg41
  z53 := Try.sizeOf41
  v53 := Try.zeroValue41
  t131 := Try.underlying86
  a131 := Try.isAgg86
  z131 := Try.sizeOf86
  v131 := Try.zeroValue86
  t182 := Try.underlying159
  a182 := Try.isAgg159
  z182 := Try.sizeOf159
  v182 := Try.zeroValue159
  t183 := Try.underlying160
  a183 := Try.isAgg160
  z183 := Try.sizeOf160
  v183 := Try.zeroValue160
  t218 := Try.underlying179
  a218 := Try.isAgg179
  z218 := Try.sizeOf179
  v218 := Try.zeroValue179
  t222 := Try.underlying175
  a222 := Try.isAgg175
  z222 := Try.sizeOf175
  v222 := Try.zeroValue175
  t228 := Try.underlying191
  a228 := Try.isAgg191
  z228 := Try.sizeOf191
  v228 := Try.zeroValue191
  t229 := Try.underlying192
  a229 := Try.isAgg192
  z229 := Try.sizeOf192
  v229 := Try.zeroValue192 }
end Go.Proofs
end
section
namespace Px
open Go
set_option linter.unusedVariables false
set_option linter.unusedSimpArgs false
/-- A loop that counts up. -/
theorem zs2 {σ ρ : Type} (L : Nat → Int → σ → Option ρ) (len : Nat) (Inv : Nat → σ → Prop) (G : Option ρ → Prop)
    (step : ∀ n i s, i < len → Inv i s → (∀ s', Inv (i + 1) s' → G (L n ((i : Int) + 1) s')) → G (L (n + 1) i s))
    (done : ∀ n s, Inv len s → G (L (n + 1) len s)) : ∀ n i s, i ≤ len → Inv i s → len - i < n → G (L n i s) := by
  intro n
  induction n with
  | zero => intro i s _ _ h; omega
  | succ n ih =>
    intro i s hi hI hn
    by_cases h : i = len
    · subst h; exact done n s hI
    · refine step n i s (by omega) hI fun s' hs' => ?_
      have := ih (i + 1) s' (by omega) hs' (by omega)
      simpa using this
/-- The same from the start. -/
theorem zm {σ ρ : Type} (L : Nat → Int → σ → Option ρ) (len : Nat) (Inv : Nat → σ → Prop) (G : Option ρ → Prop)
    (step : ∀ n i s, i < len → Inv i s → (∀ s', Inv (i + 1) s' → G (L n ((i : Int) + 1) s')) → G (L (n + 1) i s))
    (done : ∀ n s, Inv len s → G (L (n + 1) len s)) (n : Nat) (s : σ) (h : Inv 0 s) (hn : len < n) : G (L n 0 s) := by
  simpa using zs2 L len Inv G step done n 0 s (Nat.zero_le _) h (by omega)
theorem y1m (x : Int) : W x = if x % 18446744073709551616 ≥ 9223372036854775808 then x % 18446744073709551616 - 18446744073709551616 else x % 18446744073709551616 := by
  simp [W, IntKind.wrap, IntKind.bits, IntKind.signed]
theorem zpm (x : Int) : U x = x % 18446744073709551616 := by
  simp [U, IntKind.wrap, IntKind.bits, IntKind.signed]
theorem W_id {x : Int} (h : -9223372036854775808 ≤ x) (h' : x ≤ 9223372036854775807) : W x = x := by
  rw [y1m]; split <;> omega
theorem U_id {x : Int} (h : 0 ≤ x) (h' : x ≤ 18446744073709551615) : U x = x := by
  rw [zpm]; omega
theorem zjl {α : Type} [Inhabited α] (ok : α → Bool) (l : List α) (i : Nat) (h : i < l.length) : (l.take (i + 1)).all ok = ((l.take i).all ok && ok (gt l (i : Int))) := by
  rw [List.take_succ_eq_append_getElem h, List.all_append]
  simp [gt, h]
theorem zd0 {α : Type} [Inhabited α] (ok : α → Bool) (l : List α) (i : Nat) (h : i < l.length) : (l.take (i + 1)).any ok = ((l.take i).any ok || ok (gt l (i : Int))) := by
  rw [List.take_succ_eq_append_getElem h, List.any_append]
  simp [gt, h]
theorem z10 {α : Type} [Inhabited α] (l : List α) (i : Nat) (h : i < l.length) : l.take (i + 1) = l.take i ++ [gt l (i : Int)] := by
  rw [List.take_succ_eq_append_getElem h]
  simp [gt, h]
theorem z8e {α : Type} [Inhabited α] {l : List α} {i : Int} (h0 : 0 ≤ i) (h : i < (l.length : Int)) : gt l i ∈ l := by
  have hlt : i.toNat < l.length := by omega
  simp [gt, hlt]
theorem z44 {α : Type} [Inhabited α] {l : List α} {i : Nat} (h : i < l.length) : gt l (i : Int) = l[i] := by
  simp [gt, h]
theorem zdx {α : Type} [Inhabited α] (l : List α) (i : Nat) (h : i < l.length) : l.drop i = gt l (i : Int) :: l.drop (i + 1) := by
  rw [z44 h, List.getElem_cons_drop]
theorem ztw {α : Type} [Inhabited α] {l : List α} {x : α} (h : x ∈ l) : ∃ i : Nat, i < l.length ∧ gt l (i : Int) = x := by
  obtain ⟨i, hi, e⟩ := List.getElem_of_mem h
  exact ⟨i, hi, by rw [z44 hi, e]⟩
theorem z0y {α : Type} [Inhabited α] (l : List α) (i j : Int) (x : α) (hi : 0 ≤ i) (h : i < (l.length : Int)) (hj : 0 ≤ j) : gt (z05 l i x) j = if j = i then x else gt l j := by
  unfold gt z05
  by_cases e : j = i
  · subst e
    have : j.toNat < l.length := by omega
    simp [List.getD, List.getElem?_set, this]
  · have : i.toNat ≠ j.toNat := by omega
    simp [List.getD, List.getElem?_set, this, e]
theorem z8i {α : Type} [Inhabited α] (n : Nat) (x : α) (j : Int) (hj : 0 ≤ j) (h : j < n) : gt (List.replicate n x) j = x := by
  have : j.toNat < n := by omega
  simp [gt, List.getD, List.getElem?_replicate, this]
/-- A loop over a list that remembers whether all its elements were in order. -/
theorem zff {α ρ : Type} [Inhabited α] (L : Nat → Int → Int → Option ρ) (k : Int → Option ρ) (l : List α) (ok : α → Bool)
    (step : ∀ (n i : Nat) (s : Int), i < l.length → L (n + 1) i s = L n ((i : Int) + 1) (bif ok (gt l i) then s else 1)) (done : ∀ n s, L (n + 1) l.length s = k s) :
    ∀ n s, l.length < n → L n 0 s = k (bif l.all ok then s else 1) := by
  intro n s hn
  refine zs2 L l.length (fun i t => t = bif (l.take i).all ok then s else 1) (fun o => o = k (bif l.all ok then s else 1)) ?_ ?_ n 0 s (Nat.zero_le _) (by simp) (by omega)
  · intro n i t hi ht hs
    rw [step n i t hi]
    refine hs _ ?_
    rw [zjl ok l i hi, ht]
    cases (l.take i).all ok <;> cases ok (gt l (i : Int)) <;> simp
  · intro n t ht
    rw [done, ht, List.take_length]
/-- A loop over a list that ends at the first element of a kind. -/
theorem ztn {α ρ : Type} [Inhabited α] (L : Nat → Int → Option ρ) (k : Option ρ) (l : List α) (p : α → Bool) (g : α → Option ρ)
    (step : ∀ n i : Nat, i < l.length → L (n + 1) i = bif p (gt l i) then g (gt l i) else L n ((i : Int) + 1)) (done : ∀ n, L (n + 1) l.length = k) :
    ∀ n, l.length < n → L n 0 = match l.find? p with | some x => g x | none => k := by
  intro n hn
  refine zm (fun n i (_ : Unit) => L n i) l.length (fun i _ => ∀ x ∈ l.take i, p x = false) (fun o => o = match l.find? p with | some x => g x | none => k) ?_ ?_ n () (by simp) hn
  · intro n i _ hi hI hs
    simp only [step n i hi]
    cases e : p (gt l (i : Int)) with
    | false =>
      refine hs () ?_
      rw [z10 l i hi]
      intro x hx
      rcases List.mem_append.1 hx with h | h
      · exact hI x h
      · simp at h; rw [h]; exact e
    | true =>
      have : l.find? p = some (gt l (i : Int)) := by
        have h1 : l = l.take i ++ (gt l (i : Int) :: l.drop (i + 1)) := by
          rw [z44 hi, List.getElem_cons_drop, List.take_append_drop]
        generalize gt l (i : Int) = y at *
        rw [h1, List.find?_append, List.find?_eq_none.2 (fun x hx => by simp [hI x hx])]
        simp [List.find?_cons, e]
      rw [this]; rfl
  · intro n _ hI
    simp only [done]
    rw [List.take_length] at hI
    rw [List.find?_eq_none.2 (fun x hx => by simp [hI x hx])]
theorem zug {α ρ : Type} (l : List α) (p : α → Bool) (r k : ρ) : (match l.find? p with | some _ => r | none => k) = bif l.any p then r else k := by
  induction l with
  | nil => rfl
  | cons x l ih =>
    rw [List.find?_cons, List.any_cons]
    cases p x
    · simpa using ih
    · rfl
theorem zj0 {α ρ : Type} [Inhabited α] (L : Nat → Int → Option ρ) (k r : Option ρ) (l : List α) (p : α → Bool)
    (step : ∀ n i : Nat, i < l.length → L (n + 1) i = bif p (gt l i) then r else L n ((i : Int) + 1)) (done : ∀ n, L (n + 1) l.length = k)
    (n : Nat) (hn : l.length < n) : L n 0 = bif l.any p then r else k := by
  rw [ztn L k l p (fun _ => r) step done n hn, zug]
def bet (a b c : Int) : Bool := decide (b ≤ a) && decide (a ≤ c)
theorem znt {a b c : Int} : bet a b c = true ↔ b ≤ a ∧ a ≤ c := by simp [bet]
theorem zto {a b c : Int} (h : bet a b c = true) : b ≤ a ∧ a ≤ c := znt.1 h
theorem mk_t (n : Int) (b : Nat) (h0 : 0 ≤ n) (h : n ≤ 100000) (hb : b ≤ 1000000) : z35 n b := by
  refine ⟨h0, ?_, by omega⟩
  have : (b : Int) * n ≤ 1000000 * 100000 := Int.mul_le_mul (by omega) h h0 (by omega)
  omega
theorem zz0 {x y z : Int} : min2 x y < z ↔ x < z ∨ y < z := by unfold min2; split <;> omega
end Px
end
section
namespace Px
open Go
set_option linter.unusedVariables false
set_option linter.unusedSimpArgs false
theorem znf {a b : Int} : cmpI a b < 0 ↔ a < b := by unfold cmpI; (repeat' split) <;> omega
theorem zmw {a b : Int} : cmpI a b = 0 ↔ a = b := by unfold cmpI; (repeat' split) <;> omega
theorem y0k {a b c d e : Int} : or5 a b c d e < 0 ↔ a < 0 ∨ (a = 0 ∧ (b < 0 ∨ (b = 0 ∧ (c < 0 ∨ (c = 0 ∧ (d < 0 ∨ (d = 0 ∧ e < 0))))))) := by
  unfold or5
  by_cases h1 : a = 0
  · by_cases h2 : b = 0
    · by_cases h3 : c = 0
      · by_cases h4 : d = 0
        · simp [h1, h2, h3, h4]
        · simp [h1, h2, h3, h4]
      · simp [h1, h2, h3]
    · simp [h1, h2]
  · simp [h1]
/-- Is an event before another one? -/
theorem z8q {a b : z1} : cfEv a b < 0 ↔ a.visit.early < b.visit.early ∨ (a.visit.early = b.visit.early ∧ (a.visit.ref.railway < b.visit.ref.railway ∨ (a.visit.ref.railway = b.visit.ref.railway ∧ (a.visit.ref.no < b.visit.ref.no ∨ (a.visit.ref.no = b.visit.ref.no ∧
    (ordB a.second < ordB b.second ∨ (ordB a.second = ordB b.second ∧ a.report < b.report))))))) := by
  unfold cfEv
  rw [y0k, znf, znf, znf, zmw, zmw, zmw]
  have e1 : ∀ x y : Int, (x - y < 0) = (x < y) := fun x y => propext ⟨fun h => by omega, fun h => by omega⟩
  have e2 : ∀ x y : Int, (x - y = 0) = (x = y) := fun x y => propext ⟨fun h => by omega, fun h => by omega⟩
  rw [e1, e1, e2]
theorem zv4 : Sort.SWO (Proofs.ltOf fun a b : {y : z1 // okEv y = true} => cfEv a.1 b.1) where
  irrefl := fun x => by
    simp only [Proofs.ltOf, decide_eq_false_iff_not]
    rw [z8q]
    omega
  trans := fun x y z h1 h2 => by
    simp only [Proofs.ltOf, decide_eq_true_eq] at *
    rw [z8q] at *
    omega
  ntrans := fun x y z h1 h2 => by
    simp only [Proofs.ltOf, decide_eq_false_iff_not] at *
    rw [z8q] at *
    omega
theorem zpl (φ : Nat) (a b : Int) : z68 φ a b = some (cmpI a b, ()) := by
  unfold z68 cmpI
  simp only [bne_self_eq_false, Bool.false_eq_true, if_false, decide_eq_true_eq]
  split
  · rfl
  · split <;> rfl
theorem zu9 (φ : Nat) (b : Bool) : z7q φ b = some (ordB b, ()) := by
  unfold z7q ordB
  split <;> rfl
theorem y1d (φ : Nat) (h : 6 ≤ φ) (a b c d e : Int) : zog φ [a, b, c, d, e] = some (or5 a b c d e, ()) := by
  obtain ⟨n, rfl⟩ : ∃ n, φ = n + 6 := ⟨φ - 6, by omega⟩
  unfold zog or5
  simp only [zde, List.length_cons, List.length_nil]
  have w : ∀ x : Int, 0 ≤ x → x < 100 → W (x + 1) = x + 1 := fun x h1 h2 => W_id (by omega) (by omega)
  have g0 : gt [a, b, c, d, e] 0 = a := rfl
  have g1 : gt [a, b, c, d, e] 1 = b := rfl
  have g2 : gt [a, b, c, d, e] 2 = c := rfl
  have g3 : gt [a, b, c, d, e] 3 = d := rfl
  have g4 : gt [a, b, c, d, e] 4 = e := rfl
  rw [w 0 (by omega) (by omega), show (0 : Int) + 1 = 1 by rfl, w 1 (by omega) (by omega), show (1 : Int) + 1 = 2 by rfl, w 2 (by omega) (by omega), show (2 : Int) + 1 = 3 by rfl, w 3 (by omega) (by omega), show (3 : Int) + 1 = 4 by rfl, w 4 (by omega) (by omega), show (4 : Int) + 1 = 5 by rfl, g0, g1, g2, g3, g4]
  simp [ck]
  repeat' (split; try rfl)
  all_goals simp_all
theorem zkl (φ : Nat) (h : 6 ≤ φ) (a b : z1) (ha : okEv a = true) (hb : okEv b = true) : z6j φ a b = some (cfEv a b, ()) := by
  simp only [okEv, decide_eq_true_eq] at ha hb
  unfold z6j cfEv
  simp only [zpl, zu9, Option.bind_some]
  have w1 : W (ordB a.second - ordB b.second) = ordB a.second - ordB b.second := by
    have : ∀ x : Bool, 0 ≤ ordB x ∧ ordB x ≤ 1 := fun x => by cases x <;> decide
    have h1 := this a.second
    have h2 := this b.second
    exact W_id (by omega) (by omega)
  rw [w1, W_id (by omega) (by omega), y1d φ h]
  rfl
theorem zmy (a b : z1) (ha : okEv a = true) (hb : okEv b = true) : z6j 10 a b = some (cfEv a b, ()) := zkl 10 (by omega) a b ha hb
end Px
end
section
set_option linter.unusedVariables false
set_option linter.unusedSimpArgs false
set_option maxHeartbeats 4000000
set_option maxRecDepth 100000
namespace Px
open Go Go.RowKit Go.Proofs
def z7g (φ : Nat) : H TV (RTup TT [.val 0]) := .x
def z9o (P : Program) (φ : Nat) : Env TV := ⟨P, lk [], lk [], lk []⟩
theorem zjn (φ : Nat) (a) : (z9r φ).F a = fnX TV (z9o Try.prog φ) φ Try.f31 [0, 0] [.val 0] (z7g φ) a := by kernel_rfl
theorem zji (φ : Nat) : fnO TV (z9o Try.prog φ) φ Try.f31 [.val 0] (z7g φ) := by
  unfold fnO
  show obl _ _ _ _ _ _ _
  unfold z7g
  repeat' (first | exact trivial | (refine ⟨?_, ?_⟩) | (intro _) | kernel_rfl)
theorem zje (φ : Nat) : z2p TV Try.prog 31 (z9r φ) :=
  z33 (N := z9o Try.prog φ) (z0r trivial trivial trivial) (z7g φ) Try.func31 (by kernel_rfl) (zjn φ) (zji φ)
def zco : Msp TV := ⟨3, 0, [], z8s⟩
theorem zgy : zs4 TV Try.prog 61 zco := fun l l' sv h => zke (ρ := Try.lays189_ren) Try.lays189 h
def z7b (φ : Nat) : H TV (RTup TT [.val 0]) := .x
def z9d (P : Program) (φ : Nat) : Env TV := ⟨P, lk [], lk [], lk []⟩
theorem zii (φ : Nat) (a) : (z9c φ).F a = fnX TV (z9d Try.prog φ) φ Try.f32 [2] [.val 0] (z7b φ) a := by kernel_rfl
theorem zj2 (φ : Nat) : fnO TV (z9d Try.prog φ) φ Try.f32 [.val 0] (z7b φ) := by
  unfold fnO
  show obl _ _ _ _ _ _ _
  unfold z7b
  repeat' (first | exact trivial | (refine ⟨?_, ?_⟩) | (intro _) | kernel_rfl)
theorem zjo (φ : Nat) : z2p TV Try.prog 32 (z9c φ) :=
  z33 (N := z9d Try.prog φ) (z0r trivial trivial trivial) (z7b φ) Try.func32 (by kernel_rfl) (zii φ) (zj2 φ)
def zfj (φ : Nat) : H TV (RTup TT [.val 0]) := (.seq .x (.seq .x (.seq (.seq .x (.body (.loop ⟨[(18, [(3, .val 0), (6, .val 5), (7, .val 0), (8, .val 0)])], []⟩ (fun n z => zde φ n z.1 z.2.1 z.2.2.1 z.2.2.2.1) (fun zk6 => .x)))) .x)))
def ziy (P : Program) (φ : Nat) : Env TV := ⟨P, lk [], lk [], lk []⟩
theorem zv0 (φ : Nat) (a) : (ziq φ).F a = fnX TV (ziy Try.prog φ) φ Try.f30 [5] [.val 0] (zfj φ) a := by kernel_rfl
theorem zvp (φ : Nat) : fnO TV (ziy Try.prog φ) φ Try.f30 [.val 0] (zfj φ) := by
  unfold fnO
  show obl _ _ _ _ _ _ _
  unfold zfj
  repeat' (first | exact trivial | (refine ⟨?_, ?_⟩) | (intro _) | kernel_rfl)
theorem zun (φ : Nat) : z2p TV Try.prog 30 (ziq φ) :=
  z33 (N := ziy Try.prog φ) (z0r trivial trivial trivial) (zfj φ) Try.func30 (by kernel_rfl) (zv0 φ) (zvp φ)
def z4o (φ : Nat) : H TV (RTup TT [.val 0]) := .x
def z6v (P : Program) (φ : Nat) : Env TV := ⟨P, lk [(31, z9r φ), (32, z9c φ), (30, ziq φ)], lk [], lk []⟩
theorem zf2 (φ : Nat) (a) : (z9x φ).F a = fnX TV (z6v Try.prog φ) φ Try.f29 [4, 4] [.val 0] (z4o φ) a := by kernel_rfl
theorem zex (φ : Nat) : fnO TV (z6v Try.prog φ) φ Try.f29 [.val 0] (z4o φ) := by
  unfold fnO
  show obl _ _ _ _ _ _ _
  unfold z4o
  repeat' (first | exact trivial | (refine ⟨?_, ?_⟩) | (intro _) | kernel_rfl)
theorem zf1 (φ : Nat) : z2p TV Try.prog 29 (z9x φ) :=
  z33 (N := z6v Try.prog φ) (z0r ⟨zje φ, zjo φ, zun φ, trivial⟩ trivial trivial) (z4o φ) Try.func29 (by kernel_rfl) (zf2 φ) (zex φ)
def zoy : Msp TV := ⟨83, 4, [29], sortEv⟩
theorem zva : zs4 TV Try.prog 28 zoy :=
  zr8 (V := TV) (c := 4) (ρ := Try.sortEv_ren) Try.sortEv Try.isAgg83 (by rw [show TV.sz 4 = 11 by kernel_rfl]; exact Try.sizeOf83) (by kernel_rfl) (by kernel_rfl) ⟨Try.f29, Try.func29, by kernel_rfl, by kernel_rfl⟩ zv4 fun a b ha hb =>
    (zf1 10 (a, b, ()) (cfEv a b, ()) (zmy a b ha hb)).mono fun x news ⟨B, hB, h1, h2⟩ => by
      cases B with
      | nil => exact ⟨h1, h2⟩
      | cons y B => cases hB
def z57 (φ : Nat) : H TV (RTup TT [.val 30]) := .x
def z7y (P : Program) (φ : Nat) : Env TV := ⟨P, lk [], lk [], lk []⟩
theorem zfs (φ : Nat) (a) : (z88 φ).F a = fnX TV (z7y Try.prog φ) φ Try.f13 [] [.val 30] (z57 φ) a := by kernel_rfl
theorem zh7 (φ : Nat) : fnO TV (z7y Try.prog φ) φ Try.f13 [.val 30] (z57 φ) := by
  unfold fnO
  show obl _ _ _ _ _ _ _
  unfold z57
  repeat' (first | exact trivial | (refine ⟨?_, ?_⟩) | (intro _) | kernel_rfl)
theorem zh5 (φ : Nat) : z2p TV Try.prog 13 (z88 φ) :=
  z33 (N := z7y Try.prog φ) (z0r trivial trivial trivial) (z57 φ) Try.func13 (by kernel_rfl) (zfs φ) (zh7 φ)
def z5f (φ : Nat) : H TV (RTup TT [.val 2]) := .x
def z7s (P : Program) (φ : Nat) : Env TV := ⟨P, lk [], lk [], lk []⟩
theorem zgf (φ : Nat) (a) : (z86 φ).F a = fnX TV (z7s Try.prog φ) φ Try.f37 [6] [.val 2] (z5f φ) a := by kernel_rfl
theorem zgs (φ : Nat) : fnO TV (z7s Try.prog φ) φ Try.f37 [.val 2] (z5f φ) := by
  unfold fnO
  show obl _ _ _ _ _ _ _
  unfold z5f
  repeat' (first | exact trivial | (refine ⟨?_, ?_⟩) | (intro _) | kernel_rfl)
theorem zgm (φ : Nat) : z2p TV Try.prog 37 (z86 φ) :=
  z33 (N := z7s Try.prog φ) (z0r trivial trivial trivial) (z5f φ) Try.func37 (by kernel_rfl) (zgf φ) (zgs φ)
def z5n (φ : Nat) : H TV (RTup TT [.val 0]) := (.seq .x (.seq .x (.seq .x (.seq (.seq .x (.body (.loop ⟨[(84, [(1, .ptr 0 0), (3, .val 0), (20, .val 7), (21, .val 0), (22, .val 0)])], [.box 25 [.val 10]]⟩ (fun n z => z2g φ n z.1 z.2.1 z.2.2.1 z.2.2.2.1 z.2.2.2.2.1) (fun zk7 => .x)))) (.seq (.seq .x (.body (.loop ⟨[(84, [(3, .val 0), (31, .val 9), (32, .val 0), (33, .val 0)])], []⟩ (fun n z => z14 φ n z.1 z.2.1 z.2.2.1 z.2.2.2.1) (fun zk13 => .x)))) .x)))))
def z7t (P : Program) (φ : Nat) : Env TV := ⟨P, lk [(37, z86 φ)], lk [], lk []⟩
theorem zh8 (φ : Nat) (a) : (z2w φ).F a = fnX TV (z7t Try.prog φ) φ Try.f21 [10] [.val 0] (z5n φ) a := by kernel_rfl
theorem zgu (φ : Nat) : fnO TV (z7t Try.prog φ) φ Try.f21 [.val 0] (z5n φ) := by
  unfold fnO
  show obl _ _ _ _ _ _ _
  unfold z5n
  repeat' (first | exact trivial | (refine ⟨?_, ?_⟩) | (intro _) | kernel_rfl)
theorem z5p (φ : Nat) : z2p TV Try.prog 21 (z2w φ) :=
  z33 (N := z7t Try.prog φ) (z0r ⟨zgm φ, trivial⟩ trivial trivial) (z5n φ) Try.func21 (by kernel_rfl) (zh8 φ) (zgu φ)
def z5m (φ : Nat) : H TV (RTup TT [.val 2]) := .x
def z84 (P : Program) (φ : Nat) : Env TV := ⟨P, lk [], lk [], lk []⟩
theorem zh4 (φ : Nat) (a) : (z5q φ).F a = fnX TV (z84 Try.prog φ) φ Try.f23 [0, 0, 0] [.val 2] (z5m φ) a := by kernel_rfl
theorem zgt (φ : Nat) : fnO TV (z84 Try.prog φ) φ Try.f23 [.val 2] (z5m φ) := by
  unfold fnO
  show obl _ _ _ _ _ _ _
  unfold z5m
  repeat' (first | exact trivial | (refine ⟨?_, ?_⟩) | (intro _) | kernel_rfl)
theorem zaz (φ : Nat) : z2p TV Try.prog 23 (z5q φ) :=
  z33 (N := z84 Try.prog φ) (z0r trivial trivial trivial) (z5m φ) Try.func23 (by kernel_rfl) (zh4 φ) (zgt φ)
def z7h (φ : Nat) : H TV (RTup TT [.val 0]) := (.seq .x (.seq .x (.seq .x (.seq .x (.seq (.seq .x (.body (.loop ⟨[(206, [(1, .ptr 0 0), (3, .ptr 1 0), (4, .func 38 [.ptr 1 0]), (41, .val 13), (42, .val 0), (43, .val 0)])], [.box 31 [.val 20], .box 54 [.val 0]]⟩ (fun n z => z2q φ n z.1 z.2.1 z.2.2.1 z.2.2.2.1 z.2.2.2.2.1) (fun zk7 => (.seq .x (.seq .x (.seq (.body (.seq .x (.seq (.seq .x (.body (.loop ⟨[(206, [(1, .ptr 0 0), (3, .ptr 1 0), (4, .func 38 [.ptr 1 0]), (6, .ptr 2 0), (41, .val 13), (42, .val 0), (43, .val 0), (55, .own 3), (56, .val 0), (57, .val 0)])], [.box 31 [.val 20], .box 54 [.val 0], .box 98 [.val 12], .row 3 0]⟩ (fun n z => z1g φ (fun a0 a1 a2 a3 a4 => zk7 (a0, a1, a2, a3, a4, ())) n z.1 z.2.1 z.2.2.1 z.2.2.2.1 z.2.2.2.2.1 z.2.2.2.2.2.1 z.2.2.2.2.2.2.1 z.2.2.2.2.2.2.2.1 z.2.2.2.2.2.2.2.2.1) (fun zk17 => .x)))) .x))) .x))))))) (.seq (.seq .x (.body (.loop ⟨[(206, [(1, .ptr 0 0), (3, .ptr 1 0), (4, .func 38 [.ptr 1 0]), (83, .val 15), (84, .val 0), (85, .val 0)])], [.box 31 [.val 20], .box 54 [.val 0]]⟩ (fun n z => z03 φ n z.1 z.2.1 z.2.2.1 z.2.2.2.1 z.2.2.2.2.1) (fun zk27 => .x)))) (.seq (.seq .x (.body (.loop ⟨[(206, [(1, .ptr 0 0), (3, .ptr 1 0), (4, .func 38 [.ptr 1 0]), (120, .val 17), (121, .val 0), (122, .val 0)])], [.box 31 [.val 20], .box 54 [.val 0]]⟩ (fun n z => z0g φ n z.1 z.2.1 z.2.2.1 z.2.2.2.1 z.2.2.2.2.1) (fun zk40 => .x)))) (.seq .x (.seq (.seq .x (.body (.loop ⟨[(206, [(3, .ptr 0 0), (4, .func 38 [.ptr 0 0]), (13, .ptr 1 0), (158, .val 19), (159, .val 0), (160, .val 0)])], [.box 54 [.val 0], .box 135 [.val 31]]⟩ (fun n z => zi φ n z.1 z.2.1 z.2.2.1 z.2.2.2.1 z.2.2.2.2.1) (fun zk49 => .x)))) .x)))))))))
def z9q (P : Program) (φ : Nat) : Env TV := ⟨P, lk [(23, z5q φ)], lk [], lk []⟩
theorem zjv (φ : Nat) (a) : (z9l φ).F a = fnX TV (z9q Try.prog φ) φ Try.f22 [20] [.val 0] (z7h φ) a := by kernel_rfl
theorem zj3 (φ : Nat) : fnO TV (z9q Try.prog φ) φ Try.f22 [.val 0] (z7h φ) := by
  unfold fnO
  show obl _ _ _ _ _ _ _
  unfold z7h
  repeat' (first | exact trivial | (refine ⟨?_, ?_⟩) | (intro _) | kernel_rfl)
theorem zj9 (φ : Nat) : z2p TV Try.prog 22 (z9l φ) :=
  z33 (N := z9q Try.prog φ) (z0r ⟨zaz φ, trivial⟩ trivial trivial) (z7h φ) Try.func22 (by kernel_rfl) (zjv φ) (zj3 φ)
def z4h (φ : Nat) : H TV (RTup TT [.val 0]) := (.seq .x (.seq (.seq .x (.body (.loop ⟨[(45, [(1, .ptr 0 0), (9, .val 26), (10, .val 0)])], [.box 106 [.val 27]]⟩ (fun n z => z21 φ n z.1 z.2.1 z.2.2.1) (fun zk5 => .x)))) (.seq .x (.seq (.seq .x (.body (.loop ⟨[(45, [(5, .val 0), (30, .val 5), (31, .val 0), (32, .val 0)])], []⟩ (fun n z => z1n φ n z.1 z.2.1 z.2.2.1 z.2.2.2.1) (fun zk10 => .x)))) .x))))
def z6x (P : Program) (φ : Nat) : Env TV := ⟨P, lk [], lk [], lk []⟩
theorem zfc (φ : Nat) (a) : (z71 φ).F a = fnX TV (z6x Try.prog φ) φ Try.f24 [27] [.val 0] (z4h φ) a := by kernel_rfl
theorem zfb (φ : Nat) : fnO TV (z6x Try.prog φ) φ Try.f24 [.val 0] (z4h φ) := by
  unfold fnO
  show obl _ _ _ _ _ _ _
  unfold z4h
  repeat' (first | exact trivial | (refine ⟨?_, ?_⟩) | (intro _) | kernel_rfl)
theorem zf9 (φ : Nat) : z2p TV Try.prog 24 (z71 φ) :=
  z33 (N := z6x Try.prog φ) (z0r trivial trivial trivial) (z4h φ) Try.func24 (by kernel_rfl) (zfc φ) (zfb φ)
def z8p (φ : Nat) : H TV (RTup TT [.val 11, .val 11]) := .x
def za3 (P : Program) (φ : Nat) : Env TV := ⟨P, lk [], lk [], lk []⟩
theorem zm5 (φ : Nat) (a) : (za8 φ).F a = fnX TV (za3 Try.prog φ) φ Try.f63 [11, 11] [.val 11, .val 11] (z8p φ) a := by kernel_rfl
theorem zm6 (φ : Nat) : fnO TV (za3 Try.prog φ) φ Try.f63 [.val 11, .val 11] (z8p φ) := by
  unfold fnO
  show obl _ _ _ _ _ _ _
  unfold z8p
  repeat' (first | exact trivial | (refine ⟨?_, ?_⟩) | (intro _) | kernel_rfl)
theorem zlq (φ : Nat) : z2p TV Try.prog 63 (za8 φ) :=
  z33 (N := za3 Try.prog φ) (z0r trivial trivial trivial) (z8p φ) Try.func63 (by kernel_rfl) (zm5 φ) (zm6 φ)
def z2k (φ : Nat) : H TV (RTup TT [.val 0]) := (.seq .x (.seq (.ins 1 48 (.seq .x (.seq (.join ⟨[(25, [(0, .val 11), (2, .val 0)]), (6, [])], []⟩ (fun z => z12 φ z.1 z.2.1) (.seq .x .x)) (.seq (.join ⟨[(25, [(0, .val 11), (2, .val 0)]), (6, [])], []⟩ (fun z => z13 φ z.1 z.2.1) (.seq .x .x)) (.seq (.join ⟨[(25, [(0, .val 11), (2, .val 0)]), (6, [])], []⟩ (fun z => z0s φ z.1 z.2.1) (.seq .x .x)) .x)))) .x) .x))
def z3s (P : Program) (φ : Nat) : Env TV := ⟨P, lk [], lk [], lk []⟩
theorem zaq (φ : Nat) (a) : (z3q φ).F a = fnX TV (z3s Try.prog φ) φ Try.f74 [11] [.val 0] (z2k φ) a := by kernel_rfl
theorem zaw (φ : Nat) : fnO TV (z3s Try.prog φ) φ Try.f74 [.val 0] (z2k φ) := by
  unfold fnO
  show obl _ _ _ _ _ _ _
  unfold z2k
  repeat' (first | exact trivial | (refine ⟨?_, ?_⟩) | (intro _) | kernel_rfl)
theorem zaf (φ : Nat) : z2p TV Try.prog 74 (z3q φ) :=
  z33 (N := z3s Try.prog φ) (z0r trivial trivial trivial) (z2k φ) Try.func74 (by kernel_rfl) (zaq φ) (zaw φ)
def z8n (φ : Nat) : H TV (RTup TT [.val 11, .val 11]) := (.seq .x (.seq .x (.seq .x (.seq .x (.seq .x (.seq .x (.seq .x (.seq .x (.seq .x (.seq .x (.seq .x (.seq .x (.seq .x (.seq .x (.seq (.join ⟨[(135, [(2, .val 11), (8, .val 11), (9, .val 11), (10, .val 11), (11, .val 11), (13, .val 11), (14, .val 11), (15, .val 11)])], []⟩ (fun z => z47 φ z.1 z.2.1 z.2.2.1 z.2.2.2.1 z.2.2.2.2.1 z.2.2.2.2.2.1 z.2.2.2.2.2.2.1 z.2.2.2.2.2.2.2.1) (.body (.loop ⟨[(135, [(2, .val 11), (8, .val 11), (9, .val 11), (10, .val 11), (11, .val 11), (13, .val 11), (14, .val 11), (15, .val 11), (16, .val 11)])], []⟩ (fun n z => z42 φ n z.1 z.2.1 z.2.2.1 z.2.2.2.1 z.2.2.2.2.1 z.2.2.2.2.2.1 z.2.2.2.2.2.2.1 z.2.2.2.2.2.2.2.1 z.2.2.2.2.2.2.2.2.1) (fun zk40 => .x)))) (.seq .x (.seq .x (.seq .x (.seq (.join ⟨[(135, [(2, .val 11), (8, .val 11), (14, .val 11), (15, .val 11), (17, .val 11), (18, .val 11)])], []⟩ (fun z => z43 φ z.1 z.2.1 z.2.2.1 z.2.2.2.1 z.2.2.2.2.1 z.2.2.2.2.2.1) (.body (.loop ⟨[(135, [(2, .val 11), (8, .val 11), (9, .val 11), (10, .val 11), (14, .val 11), (15, .val 11), (16, .val 11), (17, .val 11), (18, .val 11)])], []⟩ (fun n z => z4b φ n z.1 z.2.1 z.2.2.1 z.2.2.2.1 z.2.2.2.2.1 z.2.2.2.2.2.1 z.2.2.2.2.2.2.1 z.2.2.2.2.2.2.2.1 z.2.2.2.2.2.2.2.2.1) (fun zk30 => .x)))) .x)))))))))))))))))))
def zao (P : Program) (φ : Nat) : Env TV := ⟨P, lk [(74, z3q φ)], lk [], lk []⟩
theorem zly (φ : Nat) (a) : (za5 φ).F a = fnX TV (zao Try.prog φ) φ Try.f64 [11, 11, 11] [.val 11, .val 11] (z8n φ) a := by kernel_rfl
theorem zls (φ : Nat) : fnO TV (zao Try.prog φ) φ Try.f64 [.val 11, .val 11] (z8n φ) := by
  unfold fnO
  show obl _ _ _ _ _ _ _
  unfold z8n
  repeat' (first | exact trivial | (refine ⟨?_, ?_⟩) | (intro _) | kernel_rfl)
theorem zlk (φ : Nat) : z2p TV Try.prog 64 (za5 φ) :=
  z33 (N := zao Try.prog φ) (z0r ⟨zaf φ, trivial⟩ trivial trivial) (z8n φ) Try.func64 (by kernel_rfl) (zly φ) (zls φ)
def zb2 (φ : Nat) : H TV (RTup TT [.val 11]) := (.seq .x (.seq .x (.seq .x (.seq (.seq (.ins 1 48 (.seq .x (.seq (.join ⟨[(25, [(0, .val 11), (2, .val 0)]), (33, [(0, .val 11), (1, .val 11), (5, .func 62 [.ptr 0 0]), (6, .val 11)])], [.box 41 [.val 11]]⟩ (fun z => z7p φ z.1 z.2.1 z.2.2.1 z.2.2.2.1 z.2.2.2.2.1 z.2.2.2.2.2.1) (.seq .x .x)) (.seq (.join ⟨[(25, [(0, .val 11), (2, .val 0)]), (33, [(0, .val 11), (1, .val 11), (5, .func 62 [.ptr 0 0]), (6, .val 11)])], [.box 41 [.val 11]]⟩ (fun z => z6o φ z.1 z.2.1 z.2.2.1 z.2.2.2.1 z.2.2.2.2.1 z.2.2.2.2.2.1) (.seq .x .x)) (.seq (.join ⟨[(25, [(0, .val 11), (2, .val 0)]), (33, [(0, .val 11), (1, .val 11), (5, .func 62 [.ptr 0 0]), (6, .val 11)])], [.box 41 [.val 11]]⟩ (fun z => z6q φ z.1 z.2.1 z.2.2.1 z.2.2.2.1 z.2.2.2.2.1 z.2.2.2.2.2.1) (.seq .x .x)) .x)))) .x) (.body (.loop ⟨[(33, [(0, .val 11), (1, .val 11), (5, .func 62 [.ptr 0 0]), (6, .val 11), (10, .val 0), (11, .val 0)])], [.box 41 [.val 11]]⟩ (fun n z => z06 φ n z.1 z.2.1 z.2.2.1 z.2.2.2.1 z.2.2.2.2.1 z.2.2.2.2.2.1) (fun zk30 => (.seq .x (.seq .x (.seq (.body (.seq .x (.seq .x (.seq (.ins 2 48 (.seq .x (.seq (.join ⟨[(25, [(0, .val 11), (2, .val 0)]), (33, [(0, .val 11), (1, .val 11), (5, .func 62 [.ptr 0 0]), (6, .val 11), (7, .val 0), (10, .val 0), (11, .val 0), (18, .val 11)])], [.box 41 [.val 11]]⟩ (fun z => z2m φ (fun a0 a1 a2 a3 a4 a5 => zk30 (a0, a1, a2, a3, a4, a5, ())) z.1 z.2.1 z.2.2.1 z.2.2.2.1 z.2.2.2.2.1 z.2.2.2.2.2.1 z.2.2.2.2.2.2.1 z.2.2.2.2.2.2.2.1 z.2.2.2.2.2.2.2.2.1 z.2.2.2.2.2.2.2.2.2.1) (.seq .x .x)) (.seq (.join ⟨[(25, [(0, .val 11), (2, .val 0)]), (33, [(0, .val 11), (1, .val 11), (5, .func 62 [.ptr 0 0]), (6, .val 11), (7, .val 0), (10, .val 0), (11, .val 0), (18, .val 11)])], [.box 41 [.val 11]]⟩ (fun z => z6l φ (fun a0 a1 a2 a3 a4 a5 => zk30 (a0, a1, a2, a3, a4, a5, ())) z.1 z.2.1 z.2.2.1 z.2.2.2.1 z.2.2.2.2.1 z.2.2.2.2.2.1 z.2.2.2.2.2.2.1 z.2.2.2.2.2.2.2.1 z.2.2.2.2.2.2.2.2.1 z.2.2.2.2.2.2.2.2.2.1) (.seq .x .x)) (.seq (.join ⟨[(25, [(0, .val 11), (2, .val 0)]), (33, [(0, .val 11), (1, .val 11), (5, .func 62 [.ptr 0 0]), (6, .val 11), (7, .val 0), (10, .val 0), (11, .val 0), (18, .val 11)])], [.box 41 [.val 11]]⟩ (fun z => z6m φ (fun a0 a1 a2 a3 a4 a5 => zk30 (a0, a1, a2, a3, a4, a5, ())) z.1 z.2.1 z.2.2.1 z.2.2.2.1 z.2.2.2.2.1 z.2.2.2.2.2.1 z.2.2.2.2.2.2.1 z.2.2.2.2.2.2.2.1 z.2.2.2.2.2.2.2.2.1 z.2.2.2.2.2.2.2.2.2.1) (.seq .x .x)) .x)))) .x) .x)))) .x))))))) .x))))
def zef (P : Program) (φ : Nat) : Env TV := ⟨P, lk [(63, za8 φ), (64, za5 φ)], lk [], lk []⟩
theorem zq4 (φ : Nat) (a) : (zdm φ).F a = fnX TV (zef Try.prog φ) φ Try.f39 [11, 11] [.val 11] (zb2 φ) a := by kernel_rfl
theorem zqg (φ : Nat) : fnO TV (zef Try.prog φ) φ Try.f39 [.val 11] (zb2 φ) := by
  unfold fnO
  show obl _ _ _ _ _ _ _
  unfold zb2
  repeat' (first | exact trivial | (refine ⟨?_, ?_⟩) | (intro _) | kernel_rfl)
theorem zqi (φ : Nat) : z2p TV Try.prog 39 (zdm φ) :=
  z33 (N := zef Try.prog φ) (z0r ⟨zlq φ, zlk φ, trivial⟩ trivial trivial) (zb2 φ) Try.func39 (by kernel_rfl) (zq4 φ) (zqg φ)
def z8c (φ : Nat) : H TV (RTup TT [.val 2]) := .x
def za9 (P : Program) (φ : Nat) : Env TV := ⟨P, lk [(39, zdm φ)], lk [], lk []⟩
theorem zm4 (φ : Nat) (a) : (zaa φ).F a = fnX TV (za9 Try.prog φ) φ Try.f25 [11] [.val 2] (z8c φ) a := by kernel_rfl
theorem zkr (φ : Nat) : fnO TV (za9 Try.prog φ) φ Try.f25 [.val 2] (z8c φ) := by
  unfold fnO
  show obl _ _ _ _ _ _ _
  unfold z8c
  repeat' (first | exact trivial | (refine ⟨?_, ?_⟩) | (intro _) | kernel_rfl)
theorem zlo (φ : Nat) : z2p TV Try.prog 25 (zaa φ) :=
  z33 (N := za9 Try.prog φ) (z0r ⟨zqi φ, trivial⟩ trivial trivial) (z8c φ) Try.func25 (by kernel_rfl) (zm4 φ) (zkr φ)
def z3y (φ : Nat) : H TV (RTup TT [.val 0]) := (.seq .x (.seq .x (.seq .x (.seq .x (.seq .x (.seq .x (.seq (.seq .x (.body (.loop ⟨[(193, [(1, .ptr 0 0), (5, .val 7), (6, .val 0), (7, .val 2), (57, .val 22), (58, .val 0), (59, .val 0)])], [.box 36 [.val 30]]⟩ (fun n z => z1b φ n z.1 z.2.1 z.2.2.1 z.2.2.2.1 z.2.2.2.2.1 z.2.2.2.2.2.1 z.2.2.2.2.2.2.1) (fun zk11 => .x)))) (.seq (.seq .x (.body (.loop ⟨[(193, [(1, .ptr 0 0), (5, .val 7), (6, .val 0), (7, .val 2), (92, .val 24), (93, .val 0), (94, .val 0)])], [.box 36 [.val 30]]⟩ (fun n z => z0o φ n z.1 z.2.1 z.2.2.1 z.2.2.2.1 z.2.2.2.2.1 z.2.2.2.2.2.1 z.2.2.2.2.2.2.1) (fun zk20 => .x)))) (.seq (.seq .x (.body (.loop ⟨[(193, [(1, .ptr 0 0), (5, .val 7), (6, .val 0), (7, .val 2), (120, .val 15), (121, .val 0), (122, .val 0)])], [.box 36 [.val 30]]⟩ (fun n z => z0m φ n z.1 z.2.1 z.2.2.1 z.2.2.2.1 z.2.2.2.2.1 z.2.2.2.2.2.1 z.2.2.2.2.2.2.1) (fun zk29 => .x)))) (.seq (.seq .x (.body (.loop ⟨[(193, [(1, .ptr 0 0), (6, .val 0), (7, .val 2), (135, .val 7), (136, .val 0), (137, .val 0)])], [.box 36 [.val 30]]⟩ (fun n z => z0p φ n z.1 z.2.1 z.2.2.1 z.2.2.2.1 z.2.2.2.2.1 z.2.2.2.2.2.1) (fun zk36 => .x)))) (.seq (.seq .x (.body (.loop ⟨[(193, [(1, .ptr 0 0), (6, .val 0), (7, .val 2), (157, .val 9), (158, .val 0), (159, .val 0)])], [.box 36 [.val 30]]⟩ (fun n z => z0q φ n z.1 z.2.1 z.2.2.1 z.2.2.2.1 z.2.2.2.2.1 z.2.2.2.2.2.1) (fun zk43 => .x)))) (.seq (.seq .x (.body (.loop ⟨[(193, [(7, .val 2), (172, .val 29), (173, .val 0), (174, .val 0)])], []⟩ (fun n z => z0n φ n z.1 z.2.1 z.2.2.1 z.2.2.2.1) (fun zk48 => .x)))) .x))))))))))))
def z6a (P : Program) (φ : Nat) : Env TV := ⟨P, lk [(21, z2w φ), (22, z9l φ), (23, z5q φ), (24, z71 φ), (25, zaa φ)], lk [], lk []⟩
theorem zdz (φ : Nat) (a) : (z20 φ).F a = fnX TV (z6a Try.prog φ) φ Try.f16 [30] [.val 0] (z3y φ) a := by kernel_rfl
theorem ze3 (φ : Nat) : fnO TV (z6a Try.prog φ) φ Try.f16 [.val 0] (z3y φ) := by
  unfold fnO
  show obl _ _ _ _ _ _ _
  unfold z3y
  repeat' (first | exact trivial | (refine ⟨?_, ?_⟩) | (intro _) | kernel_rfl)
theorem z3z (φ : Nat) : z2p TV Try.prog 16 (z20 φ) :=
  z33 (N := z6a Try.prog φ) (z0r ⟨z5p φ, zj9 φ, zaz φ, zf9 φ, zlo φ, trivial⟩ trivial trivial) (z3y φ) Try.func16 (by kernel_rfl) (zdz φ) (ze3 φ)
def z5b (φ : Nat) : H TV (RTup TT [.val 2]) := .x
def z7l (P : Program) (φ : Nat) : Env TV := ⟨P, lk [], lk [], lk []⟩
theorem zgn (φ : Nat) (a) : (z7u φ).F a = fnX TV (z7l Try.prog φ) φ Try.f49 [35] [.val 2] (z5b φ) a := by kernel_rfl
theorem zgd (φ : Nat) : fnO TV (z7l Try.prog φ) φ Try.f49 [.val 2] (z5b φ) := by
  unfold fnO
  show obl _ _ _ _ _ _ _
  unfold z5b
  repeat' (first | exact trivial | (refine ⟨?_, ?_⟩) | (intro _) | kernel_rfl)
theorem zh2 (φ : Nat) : z2p TV Try.prog 49 (z7u φ) :=
  z33 (N := z7l Try.prog φ) (z0r trivial trivial trivial) (z5b φ) Try.func49 (by kernel_rfl) (zgn φ) (zgd φ)
def z9t (φ : Nat) : H TV (RTup TT [.val 2]) := (.seq .x (.seq (.seq .x (.body (.loop ⟨[(43, [(0, .val 34), (1, .val 2), (7, .val 34), (8, .val 0), (9, .val 0)])], []⟩ (fun n z => z4x φ n z.1 z.2.1 z.2.2.1 z.2.2.2.1 z.2.2.2.2.1) (fun zk8 => .x)))) .x))
def zc4 (P : Program) (φ : Nat) : Env TV := ⟨P, lk [], lk [], lk []⟩
theorem znm (φ : Nat) (a) : (zc9 φ).F a = fnX TV (zc4 Try.prog φ) φ Try.f82 [34, 2] [.val 2] (z9t φ) a := by kernel_rfl
theorem zmj (φ : Nat) : fnO TV (zc4 Try.prog φ) φ Try.f82 [.val 2] (z9t φ) := by
  unfold fnO
  show obl _ _ _ _ _ _ _
  unfold z9t
  repeat' (first | exact trivial | (refine ⟨?_, ?_⟩) | (intro _) | kernel_rfl)
theorem zni (φ : Nat) : z2p TV Try.prog 82 (zc9 φ) :=
  z33 (N := zc4 Try.prog φ) (z0r trivial trivial trivial) (z9t φ) Try.func82 (by kernel_rfl) (znm φ) (zmj φ)
def z8f (φ : Nat) : H TV (RTup TT [.val 2]) := (.seq .x (.seq .x (.seq (.join ⟨[(46, [(5, .ptr 0 0)])], [.box 174 [.val 36]]⟩ (fun z => za φ z.1) (.seq .x (.cond (.ins 0 65 (.seq .x (.seq .x (.seq .x (.seq .x (.body (.seq .x (.cond .x (.seq .x (.cond (.seq (.ins 1 78 (.seq .x (.seq (.join ⟨[(66, [(0, .ptr 0 0), (1, .val 0), (4, .ptr 1 0)]), (135, [(0, .ptr 0 0)]), (46, [(5, .ptr 0 0)])], [.box 174 [.val 36], .box 94 [.val 6]]⟩ (fun z => z58 φ z.1 z.2.1 z.2.2.1) (.seq .x .x)) .x)) .x) .x) (.seq (.join ⟨[(135, [(0, .ptr 0 0), (2, .ptr 0 9), (20, .val 0), (43, .val 2)]), (46, [(5, .ptr 0 0)])], [.box 174 [.val 36]]⟩ (fun z => z4a φ z.1 z.2.1 z.2.2.1) (.seq .x .x)) (.cond (.seq (.ins 1 78 (.seq .x (.seq (.join ⟨[(66, [(0, .ptr 0 0), (1, .val 0), (4, .ptr 1 0)]), (135, [(0, .ptr 0 0), (2, .ptr 0 9)]), (46, [(5, .ptr 0 0)])], [.box 174 [.val 36], .box 94 [.val 6]]⟩ (fun z => z4f φ z.1 z.2.1 z.2.2.1) (.seq .x .x)) .x)) .x) .x) (.seq .x (.cond (.seq .x (.seq .x (.seq (.ins 1 78 (.seq .x (.seq (.join ⟨[(66, [(0, .ptr 0 0), (1, .val 0), (4, .ptr 1 0)]), (135, [(0, .ptr 0 0), (2, .ptr 0 9)]), (46, [(5, .ptr 0 0)])], [.box 174 [.val 36], .box 94 [.val 6]]⟩ (fun z => z40 φ z.1 z.2.1 z.2.2.1) (.seq .x .x)) .x)) .x) .x))) (.seq (.join ⟨[(135, [(0, .ptr 0 0), (2, .ptr 0 9), (116, .val 2)]), (46, [(5, .ptr 0 0)])], [.box 174 [.val 36]]⟩ (fun z => z48 φ z.1 z.2.1) (.seq .x .x)) (.cond (.seq (.ins 1 78 (.seq .x (.seq (.join ⟨[(66, [(0, .ptr 0 0), (1, .val 0), (4, .ptr 1 0)]), (135, [(0, .ptr 0 0), (2, .ptr 0 9)]), (46, [(5, .ptr 0 0)])], [.box 174 [.val 36], .box 94 [.val 6]]⟩ (fun z => z49 φ z.1 z.2.1 z.2.2.1) (.seq .x .x)) .x)) .x) .x) .x))))))))))))))) .x) (.ins 0 66 (.seq .x (.seq .x (.body (.seq .x (.cond .x (.seq .x (.cond (.seq .x (.seq (.ins 1 78 (.seq .x (.seq (.join ⟨[(66, [(0, .ptr 0 0), (1, .val 0), (4, .ptr 1 0)]), (168, [(0, .ptr 0 0), (2, .ptr 0 9)]), (46, [(5, .ptr 0 0)])], [.box 174 [.val 36], .box 94 [.val 6]]⟩ (fun z => z41 φ z.1 z.2.1 z.2.2.1) (.seq .x .x)) .x)) .x) .x)) (.seq .x (.cond .x (.seq (.join ⟨[(168, [(0, .ptr 0 0), (2, .ptr 0 9), (9, .val 0), (91, .val 2)]), (46, [(5, .ptr 0 0)])], [.box 174 [.val 36]]⟩ (fun z => z2o φ z.1 z.2.1 z.2.2.1) (.seq .x .x)) (.cond .x (.seq .x (.cond .x (.seq .x (.cond (.seq .x (.seq (.ins 1 78 (.seq .x (.seq (.join ⟨[(66, [(0, .ptr 0 0), (1, .val 0), (4, .ptr 1 0)]), (168, [(0, .ptr 0 0), (2, .ptr 0 9)]), (46, [(5, .ptr 0 0)])], [.box 174 [.val 36], .box 94 [.val 6]]⟩ (fun z => z4d φ z.1 z.2.1 z.2.2.1) (.seq .x .x)) .x)) .x) .x)) .x))))))))))))))) .x)))) (.seq (.seq .x (.body (.unr 12 .x))) .x))))
def zau (P : Program) (φ : Nat) : Env TV := ⟨P, lk [(82, zc9 φ)], lk [], lk []⟩
theorem zkv (φ : Nat) (a) : (zat φ).F a = fnX TV (zau Try.prog φ) φ Try.f50 [30, 35] [.val 2] (z8f φ) a := by kernel_rfl
theorem zlw (φ : Nat) : fnO TV (zau Try.prog φ) φ Try.f50 [.val 2] (z8f φ) := by
  unfold fnO
  show obl _ _ _ _ _ _ _
  unfold z8f
  repeat' (first | exact trivial | (refine ⟨?_, ?_⟩) | (intro _) | kernel_rfl)
theorem zle (φ : Nat) : z2p TV Try.prog 50 (zat φ) :=
  z33 (N := zau Try.prog φ) (z0r ⟨zni φ, trivial⟩ trivial trivial) (z8f φ) Try.func50 (by kernel_rfl) (zkv φ) (zlw φ)
def z9n (φ : Nat) : H TV (RTup TT [.val 0]) := .x
def zbr (P : Program) (φ : Nat) : Env TV := ⟨P, lk [(16, z20 φ), (49, z7u φ), (50, zat φ)], lk [], lk []⟩
theorem zmm (φ : Nat) (a) : (zbt φ).F a = fnX TV (zbr Try.prog φ) φ Try.f40 [30, 35] [.val 0] (z9n φ) a := by kernel_rfl
theorem zmx (φ : Nat) : fnO TV (zbr Try.prog φ) φ Try.f40 [.val 0] (z9n φ) := by
  unfold fnO
  show obl _ _ _ _ _ _ _
  unfold z9n
  repeat' (first | exact trivial | (refine ⟨?_, ?_⟩) | (intro _) | kernel_rfl)
theorem zmk (φ : Nat) : z2p TV Try.prog 40 (zbt φ) :=
  z33 (N := zbr Try.prog φ) (z0r ⟨z3z φ, zh2 φ, zle φ, trivial⟩ trivial trivial) (z9n φ) Try.func40 (by kernel_rfl) (zmm φ) (zmx φ)
def z54 (φ : Nat) : H TV (RTup TT [.val 5]) := (.seq .x (.seq .x (.seq (.seq .x (.body (.loop ⟨[(26, [(2, .ptr 0 0), (5, .own 1), (8, .val 38), (9, .val 0), (10, .val 0)])], [.box 36 [.val 30], .row 3 0]⟩ (fun n z => z1u φ n z.1 z.2.1 z.2.2.1 z.2.2.2.1 z.2.2.2.2.1) (fun zk8 => .x)))) .x)))
def z82 (P : Program) (φ : Nat) : Env TV := ⟨P, lk [(40, zbt φ)], lk [], lk []⟩
theorem zfw (φ : Nat) (a) : (z7x φ).F a = fnX TV (z82 Try.prog φ) φ Try.f26 [30, 38] [.val 5] (z54 φ) a := by kernel_rfl
theorem zg8 (φ : Nat) : fnO TV (z82 Try.prog φ) φ Try.f26 [.val 5] (z54 φ) := by
  unfold fnO
  show obl _ _ _ _ _ _ _
  unfold z54
  repeat' (first | exact trivial | (refine ⟨?_, ?_⟩) | (intro _) | kernel_rfl)
theorem zgg (φ : Nat) : z2p TV Try.prog 26 (z7x φ) :=
  z33 (N := z82 Try.prog φ) (z0r ⟨zmk φ, trivial⟩ trivial trivial) (z54 φ) Try.func26 (by kernel_rfl) (zfw φ) (zg8 φ)
def z3f (φ : Nat) : H TV (RTup TT [.val 4]) := .x
def z5g (P : Program) (φ : Nat) : Env TV := ⟨P, lk [], lk [], lk []⟩
theorem zcs (φ : Nat) (a b) : (z4y φ).F a b = fnXc TV (z5g Try.prog φ) φ Try.f41 [0, 0] [35, 37, 0] [.val 4] (z3f φ) a b := by kernel_rfl
theorem zd3 (φ : Nat) : fnO TV (z5g Try.prog φ) φ Try.f41 [.val 4] (z3f φ) := by
  unfold fnO
  show obl _ _ _ _ _ _ _
  unfold z3f
  repeat' (first | exact trivial | (refine ⟨?_, ?_⟩) | (intro _) | kernel_rfl)
theorem zcg (φ : Nat) : zux TV Try.prog 41 (z4y φ) :=
  y00 (N := z5g Try.prog φ) (z0r trivial trivial trivial) (z3f φ) Try.func41 (by kernel_rfl) (zcs φ) (zd3 φ)
theorem zai (φ : Nat) (x14 : Item) (x15 : z7) (x16 : Int) : z7m (z1o φ x14 x15 x16) (z4q φ x14 x15 x16) := by
  unfold z1o z4q
  repeat (first | exact z7m.same (n := 2) rfl | exact z7m.same (n := 3) rfl | exact z7m.same (n := 4) rfl | exact z7m.same (n := 6) rfl | refine z7m.ck ?_ | refine z7m.bind fun _ => ?_)
def z4j (φ : Nat) : H TV (RTup TT [.val 39]) := (.seq .x (.seq .x (.seq .x (.seq (.seq .x (.body (.seq .x (.cond .x (.seq (.join ⟨[(68, [(7, .ptr 0 0), (8, .func 41 [.ptr 0 0, .ptr 1 0, .ptr 2 0]), (16, .val 0), (35, .val 2)])], [.box 46 [.val 35], .box 48 [.val 37], .box 3 [.val 0]]⟩ (fun z => zw φ z.1 z.2.1 z.2.2.1 z.2.2.2.1 z.2.2.2.2.1) (.seq .x .x)) (.cond (.seq (.join ⟨[(68, [(10, .ptr 0 0), (11, .ptr 1 0)])], [.box 83 [.val 4], .box 83 [.val 4]]⟩ (fun z => z1p φ z.1 z.2.1) (.alt ⟨[(68, [(7, .ptr 0 0), (8, .func 41 [.ptr 0 0, .ptr 1 0, .ptr 2 0])])], [.box 46 [.val 35], .box 48 [.val 37], .box 3 [.val 0]]⟩ (fun z => z1o φ z.1 z.2.1 z.2.2.1) (fun z => z4q φ z.1 z.2.1 z.2.2.1))) .x) (.seq (.join ⟨[(68, [(7, .ptr 0 0), (8, .func 41 [.ptr 0 0, .ptr 1 0, .ptr 2 0]), (56, .val 2)])], [.box 46 [.val 35], .box 48 [.val 37], .box 3 [.val 0]]⟩ (fun z => zx φ z.1 z.2.1 z.2.2.1 z.2.2.2.1) (.seq .x .x)) .x))))))) .x))))
def z6y (P : Program) (φ : Nat) : Env TV := ⟨P, lk [], lk [], lk [(41, z4y φ)]⟩
theorem zf4 (φ : Nat) (a) : (z6w φ).F a = fnX TV (z6y Try.prog φ) φ Try.f27 [30, 37, 0] [.val 39] (z4j φ) a := by kernel_rfl
theorem zf5 (φ : Nat) : fnO TV (z6y Try.prog φ) φ Try.f27 [.val 39] (z4j φ) := by
  unfold fnO
  show obl _ _ _ _ _ _ _
  unfold z4j
  repeat' (first | exact trivial | (refine ⟨?_, ?_⟩) | (intro _) | kernel_rfl | exact zai ..)
theorem zev (φ : Nat) : z2p TV Try.prog 27 (z6w φ) :=
  z33 (N := z6y Try.prog φ) (z0r trivial trivial ⟨zcg φ, trivial⟩) (z4j φ) Try.func27 (by kernel_rfl) (zf4 φ) (zf5 φ)
def z6f (φ : Nat) : H TV (RTup TT [.val 40]) := (.seq .x (.seq .x (.seq (.seq .x (.body (.loop ⟨[(63, [(1, .val 38), (2, .ptr 0 0), (5, .own 1), (19, .val 5), (20, .val 0), (21, .val 0)])], [.box 36 [.val 30], .nst 81 83 39 none]⟩ (fun n z => z1t φ n z.1 z.2.1 z.2.2.1 z.2.2.2.1 z.2.2.2.2.1 z.2.2.2.2.2.1) (fun zk10 => (.seq .x (.seq .x (.seq (.body (.seq .x (.seq .x (.seq .x (.cond (.seq .x (.foc (5, none) (9, none) .x)) .x))))) .x))))))) (.seq (.seq .x (.body (.loop ⟨[(63, [(5, .own 0), (51, .own 0), (52, .val 0), (53, .val 0)])], [.nst 81 83 39 none]⟩ (fun n z => z11 φ n z.1 z.2.1 z.2.2.1) (fun zk15 => (.seq .x (.seq .x (.seq (.body (.seq (.foc (5, none) (53, none) .x) (.seq .x (.ins 1 33 (.seq .x (.seq .x (.body (.loop ⟨[(48, [(0, .own 0), (2, .own 1), (6, .val 0), (7, .val 0)]), (63, [(5, .own 2), (51, .own 2), (52, .val 0), (53, .val 0)])], [.row 83 4, .map 0 2, .nst 81 83 39 (some 0)]⟩ (fun n z => z0j φ (fun a0 a1 a2 => zk15 (a0, a1, a2, ())) n z.1 z.2.1 z.2.2.1 z.2.2.2.1 z.2.2.2.2.1 z.2.2.2.2.2.1 z.2.2.2.2.2.2.1 z.2.2.2.2.2.2.2.1) (fun zk25 => (.seq .x (.seq .x (.seq (.body (.seq .x (.seq (.join ⟨[(48, [(0, .own 0), (2, .own 1), (3, .val 0), (6, .val 0), (7, .val 0)]), (63, [(5, .own 2), (51, .own 2), (52, .val 0), (53, .val 0)])], [.row 83 4, .map 0 2, .nst 81 83 39 (some 0)]⟩ (fun z => z2e φ (fun a0 a1 a2 a3 a4 a5 a6 a7 => zk25 (a0, a1, a2, a3, a4, a5, a6, a7, ())) z.1 z.2.1 z.2.2.1 z.2.2.2.1 z.2.2.2.2.1 z.2.2.2.2.2.1 z.2.2.2.2.2.2.1 z.2.2.2.2.2.2.2.1 z.2.2.2.2.2.2.2.2.1) (.seq .x .x)) .x))) .x)))))))) .x)))) .x))))))) .x))))
def z8u (P : Program) (φ : Nat) : Env TV := ⟨P, lk [(26, z7x φ), (27, z6w φ)], lk [(28, zoy)], lk []⟩
theorem zhm (φ : Nat) (a) : (z4g φ).F a = fnX TV (z8u Try.prog φ) φ Try.f17 [30, 38] [.val 40] (z6f φ) a := by kernel_rfl
theorem zhh (φ : Nat) : fnO TV (z8u Try.prog φ) φ Try.f17 [.val 40] (z6f φ) := by
  unfold fnO
  show obl _ _ _ _ _ _ _
  unfold z6f
  repeat' (first | exact trivial | (refine ⟨?_, ?_⟩) | (intro _) | kernel_rfl)
theorem z91 (φ : Nat) : z2p TV Try.prog 17 (z4g φ) :=
  z33 (N := z8u Try.prog φ) (z0r ⟨zgg φ, zev φ, trivial⟩ ⟨zva, trivial⟩ trivial) (z6f φ) Try.func17 (by kernel_rfl) (zhm φ) (zhh φ)
def z7j (φ : Nat) : H TV (RTup TT [.val 41]) := (.seq .x (.seq .x (.seq .x (.seq (.seq .x (.body (.loop ⟨[(43, [(7, .own 0), (30, .val 39), (31, .val 0), (32, .val 0)])], [.row 69 3]⟩ (fun n z => z2u φ n z.1 z.2.1 z.2.2.1 z.2.2.2.1) (fun zk10 => .x)))) .x))))
def z9i (P : Program) (φ : Nat) : Env TV := ⟨P, lk [(16, z20 φ), (17, z4g φ)], lk [], lk []⟩
theorem zju (φ : Nat) (a) : (z7d φ).F a = fnX TV (z9i Try.prog φ) φ Try.f12 [30, 38, 0] [.val 41] (z7j φ) a := by kernel_rfl
theorem zjz (φ : Nat) : fnO TV (z9i Try.prog φ) φ Try.f12 [.val 41] (z7j φ) := by
  unfold fnO
  show obl _ _ _ _ _ _ _
  unfold z7j
  repeat' (first | exact trivial | (refine ⟨?_, ?_⟩) | (intro _) | kernel_rfl)
theorem zcl (φ : Nat) : z2p TV Try.prog 12 (z7d φ) :=
  z33 (N := z9i Try.prog φ) (z0r ⟨z3z φ, z91 φ, trivial⟩ trivial trivial) (z7j φ) Try.func12 (by kernel_rfl) (zju φ) (zjz φ)
def z3u (φ : Nat) : H TV (RTup TT [.val 0, .val 0]) := (.seq .x (.seq (.ins 4 45 (.seq .x (.seq .x (.seq (.seq .x (.body (.loop ⟨[(77, [(2, .ptr 0 0), (4, .ptr 1 0), (19, .own 2), (20, .val 0), (21, .val 0)]), (30, [(1, .val 0), (2, .val 0), (3, .ptr 3 0)])], [.box 25 [.val 10], .box 149 [.own 4, .raw (.map none)], .row 3 0, .box 25 [.val 10], .row 104 5]⟩ (fun n z => z18 φ n z.1 z.2.1 z.2.2.1 z.2.2.2.1 z.2.2.2.2.1 z.2.2.2.2.2.1 z.2.2.2.2.2.2.1 z.2.2.2.2.2.2.2.1) (fun zk13 => .x)))) (.seq .x (.seq .x (.seq (.seq .x (.body (.loop ⟨[(77, [(4, .ptr 0 0), (8, .func 60 [.ptr 0 0, .ptr 1 0]), (44, .val 9), (45, .val 0), (46, .val 0)]), (30, [(1, .val 0), (2, .val 0), (3, .ptr 2 0)])], [.box 149 [.own 3, .own 4], .box 25 [.val 10], .box 25 [.val 10], .nst 104 3 5 none, .map 42 0]⟩ (fun n z => ze φ n z.1 z.2.1 z.2.2.1 z.2.2.2.1 z.2.2.2.2.1 z.2.2.2.2.2.1 z.2.2.2.2.2.2.1 z.2.2.2.2.2.2.2.1 z.2.2.2.2.2.2.2.2.1) (fun zk23 => (.seq .x (.seq .x (.seq (.body (.seq .x (.seq (.ins 6 60 (.seq .x (.seq .x (.seq (.join ⟨[(56, [(2, .val 0), (3, .ptr 0 0), (4, .ptr 1 0), (8, .ptr 2 0), (9, .val 0), (10, .val 2)]), (77, [(4, .ptr 0 0), (8, .func 60 [.ptr 0 0, .ptr 1 0]), (9, .val 0), (10, .ptr 3 0), (44, .val 9), (45, .val 0), (46, .val 0)]), (30, [(1, .val 0), (2, .val 0), (3, .ptr 4 0)])], [.box 149 [.own 5, .own 6], .box 25 [.val 10], .box 153 [.val 42], .box 96 [.val 8], .box 25 [.val 10], .nst 104 3 5 none, .map 42 0]⟩ (fun z => z2c φ (fun a0 a1 a2 a3 a4 a5 a6 a7 a8 => zk23 (a0, a1, a2, a3, a4, a5, a6, a7, a8, ())) z.1 z.2.1 z.2.2.1 z.2.2.2.1 z.2.2.2.2.1 z.2.2.2.2.2.1 z.2.2.2.2.2.2.1 z.2.2.2.2.2.2.2.1 z.2.2.2.2.2.2.2.2.1 z.2.2.2.2.2.2.2.2.2.1 z.2.2.2.2.2.2.2.2.2.2.1 z.2.2.2.2.2.2.2.2.2.2.2.1 z.2.2.2.2.2.2.2.2.2.2.2.2.1 z.2.2.2.2.2.2.2.2.2.2.2.2.2.1 z.2.2.2.2.2.2.2.2.2.2.2.2.2.2.1) (.seq .x (.cond (.foc (3, some 0) (0, none) .x) .x))) .x))) .x) (.ins 6 60 (.seq .x (.seq .x (.seq (.join ⟨[(56, [(2, .val 0), (3, .ptr 0 0), (4, .ptr 1 0), (8, .ptr 2 0), (9, .val 0), (10, .val 2)]), (77, [(4, .ptr 0 0), (8, .func 60 [.ptr 0 0, .ptr 1 0]), (44, .val 9), (45, .val 0), (46, .val 0)]), (30, [(1, .val 0), (2, .val 0), (3, .ptr 3 0)])], [.box 149 [.own 4, .own 5], .box 25 [.val 10], .box 153 [.val 42], .box 25 [.val 10], .nst 104 3 5 none, .map 42 0]⟩ (fun z => z23 φ (fun a0 a1 a2 a3 a4 a5 a6 a7 a8 => zk23 (a0, a1, a2, a3, a4, a5, a6, a7, a8, ())) z.1 z.2.1 z.2.2.1 z.2.2.2.1 z.2.2.2.2.1 z.2.2.2.2.2.1 z.2.2.2.2.2.2.1 z.2.2.2.2.2.2.2.1 z.2.2.2.2.2.2.2.2.1 z.2.2.2.2.2.2.2.2.2.1 z.2.2.2.2.2.2.2.2.2.2.1 z.2.2.2.2.2.2.2.2.2.2.2.1 z.2.2.2.2.2.2.2.2.2.2.2.2.1) (.seq .x (.cond (.foc (3, some 0) (0, none) .x) .x))) .x))) .x)))) .x))))))) (.seq (.seq .x (.body (.loop ⟨[(77, [(4, .ptr 0 0), (67, .own 1), (68, .val 0), (69, .val 0)]), (30, [(1, .val 0), (2, .val 0), (3, .ptr 2 0)])], [.box 149 [.own 1, .own 3], .nst 104 3 5 none, .box 25 [.val 10], .map 42 0]⟩ (fun n z => z0l φ n z.1 z.2.1 z.2.2.1 z.2.2.2.1 z.2.2.2.2.1 z.2.2.2.2.2.1 z.2.2.2.2.2.2.1) (fun zk75 => (.seq .x (.seq .x (.seq (.body (.seq (.foc (67, none) (69, none) .x) .x)) .x))))))) .x))))))) .x) (.seq .x (.seq (.seq (.ins 3 46 (.seq .x (.seq .x (.seq .x (.seq (.seq .x (.body (.loop ⟨[(118, [(2, .val 0), (3, .ptr 0 0), (4, .ptr 1 0), (7, .own 2), (8, .own 3), (23, .val 0), (24, .val 0)]), (30, [(2, .val 0)])], [.box 25 [.val 10], .box 149 [.own 4, .own 5], .row 3 0, .row 4 2, .nst 104 3 5 none, .map 42 0]⟩ (fun n z => zp φ n z.1 z.2.1 z.2.2.1 z.2.2.2.1 z.2.2.2.2.1 z.2.2.2.2.2.1 z.2.2.2.2.2.2.1 z.2.2.2.2.2.2.2.1 z.2.2.2.2.2.2.2.2.1) (fun zk86 => .x)))) (.seq .x (.body (.loop ⟨[(118, [(3, .ptr 0 0), (4, .ptr 1 0), (7, .own 2), (8, .own 3)]), (30, [(2, .val 0)])], [.box 25 [.val 10], .box 149 [.own 4, .own 5], .row 3 0, .row 4 2, .nst 104 3 5 none, .map 42 0]⟩ (fun n z => zh φ n z.1 z.2.1 z.2.2.1 z.2.2.2.1 z.2.2.2.2.1 z.2.2.2.2.2.1) (fun zk93 => (.body (.seq .x (.seq (.seq .x (.body (.loop ⟨[(118, [(3, .ptr 0 0), (4, .ptr 1 0), (7, .own 2), (8, .own 3), (10, .val 0), (35, .val 0), (36, .val 0)]), (30, [(2, .val 0)])], [.box 25 [.val 10], .box 149 [.own 4, .own 5], .row 3 0, .row 4 2, .nst 104 3 5 none, .map 42 0]⟩ (fun n z => z0b φ (fun a0 a1 a2 a3 a4 a5 => zk93 (a0, a1, a2, a3, a4, a5, ())) n z.1 z.2.1 z.2.2.1 z.2.2.2.1 z.2.2.2.2.1 z.2.2.2.2.2.1 z.2.2.2.2.2.2.1 z.2.2.2.2.2.2.2.1 z.2.2.2.2.2.2.2.2.1) (fun zk103 => .x)))) (.seq .x (.seq .x (.seq (.foc (4, some 0) (10, none) .x) (.body (.loop ⟨[(118, [(3, .ptr 0 0), (4, .ptr 1 0), (7, .own 2), (8, .own 3), (10, .val 0), (78, .own 4), (79, .val 0), (80, .val 0)]), (30, [(2, .val 0)])], [.box 25 [.val 10], .box 149 [.own 5, .own 6], .row 3 0, .row 4 2, .row 3 0, .nst 104 3 5 (some 4), .map 42 0]⟩ (fun n z => z0d φ (fun a0 a1 a2 a3 a4 a5 => zk93 (a0, a1, a2, a3, a4, a5, ())) n z.1 z.2.1 z.2.2.1 z.2.2.2.1 z.2.2.2.2.1 z.2.2.2.2.2.1 z.2.2.2.2.2.2.1 z.2.2.2.2.2.2.2.1 z.2.2.2.2.2.2.2.2.1 z.2.2.2.2.2.2.2.2.2.1 z.2.2.2.2.2.2.2.2.2.2.1) (fun zk115 => .x))))))))))))))))) .x) .x) .x))))
def z64 (P : Program) (φ : Nat) : Env TV := ⟨P, lk [(21, z2w φ)], lk [(61, zco)], lk []⟩
theorem zdi (φ : Nat) (a) : (z5y φ).F a = fnX TV (z64 Try.prog φ) φ Try.f34 [10, 0, 0] [.val 0, .val 0] (z3u φ) a := by kernel_rfl
theorem ze7 (φ : Nat) : fnO TV (z64 Try.prog φ) φ Try.f34 [.val 0, .val 0] (z3u φ) := by
  unfold fnO
  show obl _ _ _ _ _ _ _
  unfold z3u
  repeat' (first | exact trivial | (refine ⟨?_, ?_⟩) | (intro _) | kernel_rfl)
theorem zdy (φ : Nat) : z2p TV Try.prog 34 (z5y φ) :=
  z33 (N := z64 Try.prog φ) (z0r ⟨z5p φ, trivial⟩ ⟨zgy, trivial⟩ trivial) (z3u φ) Try.func34 (by kernel_rfl) (zdi φ) (ze7 φ)
def z6b (φ : Nat) : H TV (RTup TT [.val 0]) := .x
def z93 (P : Program) (φ : Nat) : Env TV := ⟨P, lk [(34, z5y φ)], lk [], lk []⟩
theorem zhj (φ : Nat) (a) : (z8z φ).F a = fnX TV (z93 Try.prog φ) φ Try.f19 [10, 3, 3] [.val 0] (z6b φ) a := by kernel_rfl
theorem zhn (φ : Nat) : fnO TV (z93 Try.prog φ) φ Try.f19 [.val 0] (z6b φ) := by
  unfold fnO
  show obl _ _ _ _ _ _ _
  unfold z6b
  repeat' (first | exact trivial | (refine ⟨?_, ?_⟩) | (intro _) | kernel_rfl)
theorem zhe (φ : Nat) : z2p TV Try.prog 19 (z8z φ) :=
  z33 (N := z93 Try.prog φ) (z0r ⟨zdy φ, trivial⟩ trivial trivial) (z6b φ) Try.func19 (by kernel_rfl) (zhj φ) (zhn φ)
def z7k (φ : Nat) : H TV (RTup TT [.val 49, .val 0]) := (.seq .x (.seq .x (.seq .x (.seq .x (.seq .x (.seq (.seq .x (.body (.loop ⟨[(257, [(2, .ptr 0 0), (4, .ptr 1 0), (7, .val 40), (8, .ptr 2 0), (9, .own 3), (40, .val 40), (41, .val 0), (42, .val 0)])], [.box 36 [.val 30], .box 53 [.val 0, .own 4, .own 5, .own 6], .box 79 [.val 0, .own 7, .own 8, .own 9], .map 0 0, .row 71 43, .row 88 45, .row 90 47, .row 71 43, .row 88 45, .row 90 47]⟩ (fun n z => z1e φ n z.1 z.2.1 z.2.2.1 z.2.2.2.1 z.2.2.2.2.1 z.2.2.2.2.2.1 z.2.2.2.2.2.2.1 z.2.2.2.2.2.2.2.1 z.2.2.2.2.2.2.2.2.1 z.2.2.2.2.2.2.2.2.2.1 z.2.2.2.2.2.2.2.2.2.2.1 z.2.2.2.2.2.2.2.2.2.2.2.1 z.2.2.2.2.2.2.2.2.2.2.2.2.1 z.2.2.2.2.2.2.2.2.2.2.2.2.2.1) (fun zk19 => (.seq .x (.seq .x (.seq (.body (.seq .x (.seq .x (.body (.loop ⟨[(257, [(2, .ptr 0 0), (4, .ptr 1 0), (7, .val 40), (8, .ptr 2 0), (9, .own 3), (40, .val 40), (41, .val 0), (42, .val 0), (46, .val 39), (47, .val 0), (48, .val 0)])], [.box 36 [.val 30], .box 53 [.val 0, .own 4, .own 5, .own 6], .box 79 [.val 0, .own 7, .own 8, .own 9], .map 0 0, .row 71 43, .row 88 45, .row 90 47, .row 71 43, .row 88 45, .row 90 47]⟩ (fun n z => z1f φ (fun a0 a1 a2 a3 a4 a5 a6 a7 a8 a9 a10 a11 a12 a13 => zk19 (a0, a1, a2, a3, a4, a5, a6, a7, a8, a9, a10, a11, a12, a13, ())) n z.1 z.2.1 z.2.2.1 z.2.2.2.1 z.2.2.2.2.1 z.2.2.2.2.2.1 z.2.2.2.2.2.2.1 z.2.2.2.2.2.2.2.1 z.2.2.2.2.2.2.2.2.1 z.2.2.2.2.2.2.2.2.2.1 z.2.2.2.2.2.2.2.2.2.2.1 z.2.2.2.2.2.2.2.2.2.2.2.1 z.2.2.2.2.2.2.2.2.2.2.2.2.1 z.2.2.2.2.2.2.2.2.2.2.2.2.2.1 z.2.2.2.2.2.2.2.2.2.2.2.2.2.2.1 z.2.2.2.2.2.2.2.2.2.2.2.2.2.2.2.1 z.2.2.2.2.2.2.2.2.2.2.2.2.2.2.2.2.1) (fun zk37 => .x)))))) .x))))))) (.seq (.seq .x (.body (.loop ⟨[(257, [(2, .ptr 0 0), (4, .ptr 1 0), (7, .val 40), (8, .ptr 2 0), (9, .own 3), (61, .val 22), (62, .val 0), (63, .val 0)])], [.box 36 [.val 30], .box 53 [.val 0, .own 4, .own 5, .own 6], .box 79 [.val 0, .own 7, .own 8, .own 9], .map 0 0, .row 71 43, .row 88 45, .row 90 47, .row 71 43, .row 88 45, .row 90 47]⟩ (fun n z => z0t φ n z.1 z.2.1 z.2.2.1 z.2.2.2.1 z.2.2.2.2.1 z.2.2.2.2.2.1 z.2.2.2.2.2.2.1 z.2.2.2.2.2.2.2.1 z.2.2.2.2.2.2.2.2.1 z.2.2.2.2.2.2.2.2.2.1 z.2.2.2.2.2.2.2.2.2.2.1 z.2.2.2.2.2.2.2.2.2.2.2.1 z.2.2.2.2.2.2.2.2.2.2.2.2.1 z.2.2.2.2.2.2.2.2.2.2.2.2.2.1) (fun zk52 => (.seq .x (.seq .x (.seq (.body (.seq .x (.seq .x (.seq .x (.cond (.seq .x (.seq (.ins 20 18 (.seq .x (.seq .x (.body (.loop ⟨[(39, [(0, .ptr 0 0), (4, .ptr 1 0), (8, .own 2), (9, .val 0), (10, .val 0)]), (257, [(2, .ptr 3 0), (4, .ptr 4 0), (7, .val 40), (8, .ptr 0 0), (9, .own 5), (61, .val 22), (62, .val 0), (63, .val 0), (82, .ptr 0 0), (83, .val 45), (84, .ptr 0 0), (85, .ptr 0 0), (86, .ptr 0 0), (87, .ptr 0 0), (88, .val 0), (89, .ptr 6 1), (90, .val 0), (91, .val 0), (92, .val 43), (93, .ptr 0 0), (94, .ptr 0 0), (95, .ptr 0 0), (96, .ptr 0 0), (97, .val 0), (98, .ptr 6 2), (99, .val 0), (100, .val 43), (101, .own 2)])], [.box 79 [.val 0, .own 7, .own 8, .own 9], .box 88 [.val 45], .row 71 43, .box 36 [.val 30], .box 53 [.val 0, .own 10, .own 11, .own 12], .map 0 0, .box 85 [.val 21], .row 71 43, .row 88 45, .row 90 47, .row 71 43, .row 88 45, .row 90 47]⟩ (fun n z => z2b φ (fun a0 a1 a2 a3 a4 a5 a6 a7 a8 a9 a10 a11 a12 a13 => zk52 (a0, a1, a2, a3, a4, a5, a6, a7, a8, a9, a10, a11, a12, a13, ())) n z.1 z.2.1 z.2.2.1 z.2.2.2.1 z.2.2.2.2.1 z.2.2.2.2.2.1 z.2.2.2.2.2.2.1 z.2.2.2.2.2.2.2.1 z.2.2.2.2.2.2.2.2.1 z.2.2.2.2.2.2.2.2.2.1 z.2.2.2.2.2.2.2.2.2.2.1 z.2.2.2.2.2.2.2.2.2.2.2.1 z.2.2.2.2.2.2.2.2.2.2.2.2.1 z.2.2.2.2.2.2.2.2.2.2.2.2.2.1 z.2.2.2.2.2.2.2.2.2.2.2.2.2.2.1 z.2.2.2.2.2.2.2.2.2.2.2.2.2.2.2.1 z.2.2.2.2.2.2.2.2.2.2.2.2.2.2.2.2.1 z.2.2.2.2.2.2.2.2.2.2.2.2.2.2.2.2.2.1 z.2.2.2.2.2.2.2.2.2.2.2.2.2.2.2.2.2.2.1 z.2.2.2.2.2.2.2.2.2.2.2.2.2.2.2.2.2.2.2.1 z.2.2.2.2.2.2.2.2.2.2.2.2.2.2.2.2.2.2.2.2.1 z.2.2.2.2.2.2.2.2.2.2.2.2.2.2.2.2.2.2.2.2.2.1 z.2.2.2.2.2.2.2.2.2.2.2.2.2.2.2.2.2.2.2.2.2.2.1 z.2.2.2.2.2.2.2.2.2.2.2.2.2.2.2.2.2.2.2.2.2.2.2.1 z.2.2.2.2.2.2.2.2.2.2.2.2.2.2.2.2.2.2.2.2.2.2.2.2.1 z.2.2.2.2.2.2.2.2.2.2.2.2.2.2.2.2.2.2.2.2.2.2.2.2.2.1 z.2.2.2.2.2.2.2.2.2.2.2.2.2.2.2.2.2.2.2.2.2.2.2.2.2.2.1) (fun zk80 => .x))))) .x) .x)) .x))))) .x))))))) (.seq (.seq .x (.body (.loop ⟨[(257, [(2, .ptr 0 0), (4, .ptr 1 0), (8, .ptr 2 0), (9, .own 3), (113, .val 40), (114, .val 0), (115, .val 0)])], [.box 36 [.val 30], .box 53 [.val 0, .own 4, .own 5, .own 6], .box 79 [.val 0, .own 7, .own 8, .own 9], .map 0 0, .row 71 43, .row 88 45, .row 90 47, .row 71 43, .row 88 45, .row 90 47]⟩ (fun n z => z1h φ n z.1 z.2.1 z.2.2.1 z.2.2.2.1 z.2.2.2.2.1 z.2.2.2.2.2.1 z.2.2.2.2.2.2.1 z.2.2.2.2.2.2.2.1 z.2.2.2.2.2.2.2.2.1 z.2.2.2.2.2.2.2.2.2.1 z.2.2.2.2.2.2.2.2.2.2.1 z.2.2.2.2.2.2.2.2.2.2.2.1 z.2.2.2.2.2.2.2.2.2.2.2.2.1) (fun zk94 => (.seq .x (.seq .x (.seq (.body (.seq .x (.seq .x (.body (.loop ⟨[(257, [(2, .ptr 0 0), (4, .ptr 1 0), (8, .ptr 2 0), (9, .own 3), (19, .val 39), (113, .val 40), (114, .val 0), (115, .val 0), (119, .val 39), (120, .val 0), (121, .val 0)])], [.box 36 [.val 30], .box 53 [.val 0, .own 4, .own 5, .own 6], .box 79 [.val 0, .own 7, .own 8, .own 9], .map 0 0, .row 71 43, .row 88 45, .row 90 47, .row 71 43, .row 88 45, .row 90 47]⟩ (fun n z => z02 φ (fun a0 a1 a2 a3 a4 a5 a6 a7 a8 a9 a10 a11 a12 => zk94 (a0, a1, a2, a3, a4, a5, a6, a7, a8, a9, a10, a11, a12, ())) n z.1 z.2.1 z.2.2.1 z.2.2.2.1 z.2.2.2.2.1 z.2.2.2.2.2.1 z.2.2.2.2.2.2.1 z.2.2.2.2.2.2.2.1 z.2.2.2.2.2.2.2.2.1 z.2.2.2.2.2.2.2.2.2.1 z.2.2.2.2.2.2.2.2.2.2.1 z.2.2.2.2.2.2.2.2.2.2.2.1 z.2.2.2.2.2.2.2.2.2.2.2.2.1 z.2.2.2.2.2.2.2.2.2.2.2.2.2.1 z.2.2.2.2.2.2.2.2.2.2.2.2.2.2.1 z.2.2.2.2.2.2.2.2.2.2.2.2.2.2.2.1 z.2.2.2.2.2.2.2.2.2.2.2.2.2.2.2.2.1) (fun zk112 => (.seq .x (.seq .x (.seq (.body (.seq .x (.seq .x (.seq .x (.seq .x (.seq (.join ⟨[(257, [(2, .ptr 0 0), (4, .ptr 1 0), (8, .ptr 2 0), (9, .own 3), (19, .val 39), (20, .val 0), (21, .ptr 4 0), (22, .val 0), (113, .val 40), (114, .val 0), (115, .val 0), (119, .val 39), (120, .val 0), (121, .val 0)])], [.box 36 [.val 30], .box 53 [.val 0, .own 5, .own 6, .own 7], .box 79 [.val 0, .own 8, .own 9, .own 10], .map 0 0, .box 83 [.val 4], .row 71 43, .row 88 45, .row 90 47, .row 71 43, .row 88 45, .row 90 47]⟩ (fun z => z0k φ (fun a0 a1 a2 a3 a4 a5 a6 a7 a8 a9 a10 a11 a12 a13 a14 a15 a16 => zk112 (a0, a1, a2, a3, a4, a5, a6, a7, a8, a9, a10, a11, a12, a13, a14, a15, a16, ())) z.1 z.2.1 z.2.2.1 z.2.2.2.1 z.2.2.2.2.1 z.2.2.2.2.2.1 z.2.2.2.2.2.2.1 z.2.2.2.2.2.2.2.1 z.2.2.2.2.2.2.2.2.1 z.2.2.2.2.2.2.2.2.2.1 z.2.2.2.2.2.2.2.2.2.2.1 z.2.2.2.2.2.2.2.2.2.2.2.1 z.2.2.2.2.2.2.2.2.2.2.2.2.1 z.2.2.2.2.2.2.2.2.2.2.2.2.2.1 z.2.2.2.2.2.2.2.2.2.2.2.2.2.2.1 z.2.2.2.2.2.2.2.2.2.2.2.2.2.2.2.1 z.2.2.2.2.2.2.2.2.2.2.2.2.2.2.2.2.1 z.2.2.2.2.2.2.2.2.2.2.2.2.2.2.2.2.2.1 z.2.2.2.2.2.2.2.2.2.2.2.2.2.2.2.2.2.2.1 z.2.2.2.2.2.2.2.2.2.2.2.2.2.2.2.2.2.2.2.1) (.seq .x (.cond (.ins 10 18 (.seq .x (.seq .x (.body (.loop ⟨[(39, [(0, .ptr 0 0), (4, .ptr 1 0), (8, .own 2), (9, .val 0), (10, .val 0)]), (257, [(2, .ptr 3 0), (4, .ptr 4 0), (8, .ptr 0 0), (9, .own 5), (19, .val 39), (20, .val 0), (21, .ptr 6 0), (22, .val 0), (113, .val 40), (114, .val 0), (115, .val 0), (119, .val 39), (120, .val 0), (121, .val 0)])], [.box 79 [.val 0, .own 7, .own 8, .own 9], .box 88 [.val 45], .row 71 43, .box 36 [.val 30], .box 53 [.val 0, .own 10, .own 11, .own 12], .map 0 0, .box 83 [.val 4], .row 71 43, .row 88 45, .row 90 47, .row 71 43, .row 88 45, .row 90 47]⟩ (fun n z => z1s φ (fun a0 a1 a2 a3 a4 a5 a6 a7 a8 a9 a10 a11 a12 a13 a14 a15 a16 => zk112 (a0, a1, a2, a3, a4, a5, a6, a7, a8, a9, a10, a11, a12, a13, a14, a15, a16, ())) n z.1 z.2.1 z.2.2.1 z.2.2.2.1 z.2.2.2.2.1 z.2.2.2.2.2.1 z.2.2.2.2.2.2.1 z.2.2.2.2.2.2.2.1 z.2.2.2.2.2.2.2.2.1 z.2.2.2.2.2.2.2.2.2.1 z.2.2.2.2.2.2.2.2.2.2.1 z.2.2.2.2.2.2.2.2.2.2.2.1 z.2.2.2.2.2.2.2.2.2.2.2.2.1 z.2.2.2.2.2.2.2.2.2.2.2.2.2.1 z.2.2.2.2.2.2.2.2.2.2.2.2.2.2.1 z.2.2.2.2.2.2.2.2.2.2.2.2.2.2.2.1 z.2.2.2.2.2.2.2.2.2.2.2.2.2.2.2.2.1 z.2.2.2.2.2.2.2.2.2.2.2.2.2.2.2.2.2.1 z.2.2.2.2.2.2.2.2.2.2.2.2.2.2.2.2.2.2.1 z.2.2.2.2.2.2.2.2.2.2.2.2.2.2.2.2.2.2.2.1 z.2.2.2.2.2.2.2.2.2.2.2.2.2.2.2.2.2.2.2.2.1 z.2.2.2.2.2.2.2.2.2.2.2.2.2.2.2.2.2.2.2.2.2.1 z.2.2.2.2.2.2.2.2.2.2.2.2.2.2.2.2.2.2.2.2.2.2.1 z.2.2.2.2.2.2.2.2.2.2.2.2.2.2.2.2.2.2.2.2.2.2.2.1) (fun zk195 => .x))))) .x) (.seq .x (.ins 16 18 (.seq .x (.seq .x (.body (.loop ⟨[(39, [(0, .ptr 0 0), (4, .ptr 1 0), (8, .own 2), (9, .val 0), (10, .val 0)]), (257, [(2, .ptr 3 0), (4, .ptr 4 0), (8, .ptr 0 0), (9, .own 5), (19, .val 39), (20, .val 0), (21, .ptr 6 0), (22, .val 0), (113, .val 40), (114, .val 0), (115, .val 0), (119, .val 39), (120, .val 0), (121, .val 0)])], [.box 79 [.val 0, .own 7, .own 8, .own 9], .box 88 [.val 45], .row 71 43, .box 36 [.val 30], .box 53 [.val 0, .own 10, .own 11, .own 12], .map 0 0, .box 83 [.val 4], .row 71 43, .row 88 45, .row 90 47, .row 71 43, .row 88 45, .row 90 47]⟩ (fun n z => z1r φ (fun a0 a1 a2 a3 a4 a5 a6 a7 a8 a9 a10 a11 a12 a13 a14 a15 a16 => zk112 (a0, a1, a2, a3, a4, a5, a6, a7, a8, a9, a10, a11, a12, a13, a14, a15, a16, ())) n z.1 z.2.1 z.2.2.1 z.2.2.2.1 z.2.2.2.2.1 z.2.2.2.2.2.1 z.2.2.2.2.2.2.1 z.2.2.2.2.2.2.2.1 z.2.2.2.2.2.2.2.2.1 z.2.2.2.2.2.2.2.2.2.1 z.2.2.2.2.2.2.2.2.2.2.1 z.2.2.2.2.2.2.2.2.2.2.2.1 z.2.2.2.2.2.2.2.2.2.2.2.2.1 z.2.2.2.2.2.2.2.2.2.2.2.2.2.1 z.2.2.2.2.2.2.2.2.2.2.2.2.2.2.1 z.2.2.2.2.2.2.2.2.2.2.2.2.2.2.2.1 z.2.2.2.2.2.2.2.2.2.2.2.2.2.2.2.2.1 z.2.2.2.2.2.2.2.2.2.2.2.2.2.2.2.2.2.1 z.2.2.2.2.2.2.2.2.2.2.2.2.2.2.2.2.2.2.1 z.2.2.2.2.2.2.2.2.2.2.2.2.2.2.2.2.2.2.2.1 z.2.2.2.2.2.2.2.2.2.2.2.2.2.2.2.2.2.2.2.2.1 z.2.2.2.2.2.2.2.2.2.2.2.2.2.2.2.2.2.2.2.2.2.1 z.2.2.2.2.2.2.2.2.2.2.2.2.2.2.2.2.2.2.2.2.2.2.1 z.2.2.2.2.2.2.2.2.2.2.2.2.2.2.2.2.2.2.2.2.2.2.2.1) (fun zk220 => .x))))) .x))))) (.seq .x (.cond (.seq .x (.ins 19 18 (.seq .x (.seq .x (.body (.loop ⟨[(39, [(0, .ptr 0 0), (4, .ptr 1 0), (8, .own 2), (9, .val 0), (10, .val 0)]), (257, [(2, .ptr 3 0), (4, .ptr 4 0), (8, .ptr 0 0), (9, .own 5), (19, .val 39), (113, .val 40), (114, .val 0), (115, .val 0), (119, .val 39), (120, .val 0), (121, .val 0), (215, .ptr 0 0), (216, .ptr 6 2), (217, .val 1), (218, .ptr 7 0), (219, .ptr 7 2), (220, .val 1), (221, .val 45), (222, .val 0), (223, .val 0), (224, .val 0), (225, .ptr 3 0), (226, .val 10), (227, .val 3), (228, .ptr 7 0), (229, .val 3), (230, .val 0), (231, .val 0), (232, .val 43), (233, .own 2)])], [.box 79 [.val 0, .own 8, .own 9, .own 10], .box 88 [.val 45], .row 71 43, .box 36 [.val 30], .box 53 [.val 0, .own 11, .own 12, .own 13], .map 0 0, .box 69 [.val 3], .box 83 [.val 4], .row 71 43, .row 88 45, .row 90 47, .row 71 43, .row 88 45, .row 90 47]⟩ (fun n z => z1q φ (fun a0 a1 a2 a3 a4 a5 a6 a7 a8 a9 a10 a11 a12 a13 a14 a15 a16 => zk112 (a0, a1, a2, a3, a4, a5, a6, a7, a8, a9, a10, a11, a12, a13, a14, a15, a16, ())) n z.1 z.2.1 z.2.2.1 z.2.2.2.1 z.2.2.2.2.1 z.2.2.2.2.2.1 z.2.2.2.2.2.2.1 z.2.2.2.2.2.2.2.1 z.2.2.2.2.2.2.2.2.1 z.2.2.2.2.2.2.2.2.2.1 z.2.2.2.2.2.2.2.2.2.2.1 z.2.2.2.2.2.2.2.2.2.2.2.1 z.2.2.2.2.2.2.2.2.2.2.2.2.1 z.2.2.2.2.2.2.2.2.2.2.2.2.2.1 z.2.2.2.2.2.2.2.2.2.2.2.2.2.2.1 z.2.2.2.2.2.2.2.2.2.2.2.2.2.2.2.1 z.2.2.2.2.2.2.2.2.2.2.2.2.2.2.2.2.1 z.2.2.2.2.2.2.2.2.2.2.2.2.2.2.2.2.2.1 z.2.2.2.2.2.2.2.2.2.2.2.2.2.2.2.2.2.2.1 z.2.2.2.2.2.2.2.2.2.2.2.2.2.2.2.2.2.2.2.1 z.2.2.2.2.2.2.2.2.2.2.2.2.2.2.2.2.2.2.2.2.1 z.2.2.2.2.2.2.2.2.2.2.2.2.2.2.2.2.2.2.2.2.2.1 z.2.2.2.2.2.2.2.2.2.2.2.2.2.2.2.2.2.2.2.2.2.2.1 z.2.2.2.2.2.2.2.2.2.2.2.2.2.2.2.2.2.2.2.2.2.2.2.1 z.2.2.2.2.2.2.2.2.2.2.2.2.2.2.2.2.2.2.2.2.2.2.2.2.1 z.2.2.2.2.2.2.2.2.2.2.2.2.2.2.2.2.2.2.2.2.2.2.2.2.2.1 z.2.2.2.2.2.2.2.2.2.2.2.2.2.2.2.2.2.2.2.2.2.2.2.2.2.2.1 z.2.2.2.2.2.2.2.2.2.2.2.2.2.2.2.2.2.2.2.2.2.2.2.2.2.2.2.1 z.2.2.2.2.2.2.2.2.2.2.2.2.2.2.2.2.2.2.2.2.2.2.2.2.2.2.2.2.1 z.2.2.2.2.2.2.2.2.2.2.2.2.2.2.2.2.2.2.2.2.2.2.2.2.2.2.2.2.2.1 z.2.2.2.2.2.2.2.2.2.2.2.2.2.2.2.2.2.2.2.2.2.2.2.2.2.2.2.2.2.2.1 z.2.2.2.2.2.2.2.2.2.2.2.2.2.2.2.2.2.2.2.2.2.2.2.2.2.2.2.2.2.2.2.1 z.2.2.2.2.2.2.2.2.2.2.2.2.2.2.2.2.2.2.2.2.2.2.2.2.2.2.2.2.2.2.2.2.1 z.2.2.2.2.2.2.2.2.2.2.2.2.2.2.2.2.2.2.2.2.2.2.2.2.2.2.2.2.2.2.2.2.2.1 z.2.2.2.2.2.2.2.2.2.2.2.2.2.2.2.2.2.2.2.2.2.2.2.2.2.2.2.2.2.2.2.2.2.2.1) (fun zk170 => .x))))) .x)) .x)))))))) .x))))))))) .x))))))) .x))))))))
def z9h (P : Program) (φ : Nat) : Env TV := ⟨P, lk [(16, z20 φ), (17, z4g φ), (19, z8z φ)], lk [], lk []⟩
theorem zjk (φ : Nat) (a) : (z7e φ).F a = fnX TV (z9h Try.prog φ) φ Try.f8 [30, 38] [.val 49, .val 0] (z7k φ) a := by kernel_rfl
theorem zja (φ : Nat) : fnO TV (z9h Try.prog φ) φ Try.f8 [.val 49, .val 0] (z7k φ) := by
  unfold fnO
  show obl _ _ _ _ _ _ _
  unfold z7k
  repeat' (first | exact trivial | (refine ⟨?_, ?_⟩) | (intro _) | kernel_rfl)
theorem zcd (φ : Nat) : z2p TV Try.prog 8 (z7e φ) :=
  z33 (N := z9h Try.prog φ) (z0r ⟨z3z φ, z91 φ, zhe φ, trivial⟩ trivial trivial) (z7k φ) Try.func8 (by kernel_rfl) (zjk φ) (zja φ)
end Px
end
section
set_option linter.unusedVariables false
set_option linter.unusedSimpArgs false
set_option maxHeartbeats 4000000
set_option maxRecDepth 100000
namespace Px
open Go Go.RowKit Go.Proofs
def z4z (φ : Nat) : H TV (RTup TT [.val 5, .val 0]) := (.seq .x (.seq (.ins 4 45 (.seq .x (.seq .x (.seq (.seq .x (.body (.loop ⟨[(77, [(2, .ptr 0 0), (4, .ptr 1 0), (19, .own 2), (20, .val 0), (21, .val 0)]), (75, [(1, .val 0), (2, .val 0), (3, .ptr 3 0)])], [.box 25 [.val 10], .box 149 [.own 4, .raw (.map none)], .row 3 0, .box 25 [.val 10], .row 104 5]⟩ (fun n z => z1z φ n z.1 z.2.1 z.2.2.1 z.2.2.2.1 z.2.2.2.2.1 z.2.2.2.2.2.1 z.2.2.2.2.2.2.1 z.2.2.2.2.2.2.2.1) (fun zk13 => .x)))) (.seq .x (.seq .x (.seq (.seq .x (.body (.loop ⟨[(77, [(4, .ptr 0 0), (8, .func 60 [.ptr 0 0, .ptr 1 0]), (44, .val 9), (45, .val 0), (46, .val 0)]), (75, [(1, .val 0), (2, .val 0), (3, .ptr 2 0)])], [.box 149 [.own 3, .own 4], .box 25 [.val 10], .box 25 [.val 10], .nst 104 3 5 none, .map 42 0]⟩ (fun n z => zj φ n z.1 z.2.1 z.2.2.1 z.2.2.2.1 z.2.2.2.2.1 z.2.2.2.2.2.1 z.2.2.2.2.2.2.1 z.2.2.2.2.2.2.2.1 z.2.2.2.2.2.2.2.2.1) (fun zk23 => (.seq .x (.seq .x (.seq (.body (.seq .x (.seq (.ins 6 60 (.seq .x (.seq .x (.seq (.join ⟨[(56, [(2, .val 0), (3, .ptr 0 0), (4, .ptr 1 0), (8, .ptr 2 0), (9, .val 0), (10, .val 2)]), (77, [(4, .ptr 0 0), (8, .func 60 [.ptr 0 0, .ptr 1 0]), (9, .val 0), (10, .ptr 3 0), (44, .val 9), (45, .val 0), (46, .val 0)]), (75, [(1, .val 0), (2, .val 0), (3, .ptr 4 0)])], [.box 149 [.own 5, .own 6], .box 25 [.val 10], .box 153 [.val 42], .box 96 [.val 8], .box 25 [.val 10], .nst 104 3 5 none, .map 42 0]⟩ (fun z => z2t φ (fun a0 a1 a2 a3 a4 a5 a6 a7 a8 => zk23 (a0, a1, a2, a3, a4, a5, a6, a7, a8, ())) z.1 z.2.1 z.2.2.1 z.2.2.2.1 z.2.2.2.2.1 z.2.2.2.2.2.1 z.2.2.2.2.2.2.1 z.2.2.2.2.2.2.2.1 z.2.2.2.2.2.2.2.2.1 z.2.2.2.2.2.2.2.2.2.1 z.2.2.2.2.2.2.2.2.2.2.1 z.2.2.2.2.2.2.2.2.2.2.2.1 z.2.2.2.2.2.2.2.2.2.2.2.2.1 z.2.2.2.2.2.2.2.2.2.2.2.2.2.1 z.2.2.2.2.2.2.2.2.2.2.2.2.2.2.1) (.seq .x (.cond (.foc (3, some 0) (0, none) .x) .x))) .x))) .x) (.ins 6 60 (.seq .x (.seq .x (.seq (.join ⟨[(56, [(2, .val 0), (3, .ptr 0 0), (4, .ptr 1 0), (8, .ptr 2 0), (9, .val 0), (10, .val 2)]), (77, [(4, .ptr 0 0), (8, .func 60 [.ptr 0 0, .ptr 1 0]), (44, .val 9), (45, .val 0), (46, .val 0)]), (75, [(1, .val 0), (2, .val 0), (3, .ptr 3 0)])], [.box 149 [.own 4, .own 5], .box 25 [.val 10], .box 153 [.val 42], .box 25 [.val 10], .nst 104 3 5 none, .map 42 0]⟩ (fun z => z2s φ (fun a0 a1 a2 a3 a4 a5 a6 a7 a8 => zk23 (a0, a1, a2, a3, a4, a5, a6, a7, a8, ())) z.1 z.2.1 z.2.2.1 z.2.2.2.1 z.2.2.2.2.1 z.2.2.2.2.2.1 z.2.2.2.2.2.2.1 z.2.2.2.2.2.2.2.1 z.2.2.2.2.2.2.2.2.1 z.2.2.2.2.2.2.2.2.2.1 z.2.2.2.2.2.2.2.2.2.2.1 z.2.2.2.2.2.2.2.2.2.2.2.1 z.2.2.2.2.2.2.2.2.2.2.2.2.1) (.seq .x (.cond (.foc (3, some 0) (0, none) .x) .x))) .x))) .x)))) .x))))))) (.seq (.seq .x (.body (.loop ⟨[(77, [(4, .ptr 0 0), (67, .own 1), (68, .val 0), (69, .val 0)]), (75, [(1, .val 0), (2, .val 0), (3, .ptr 2 0)])], [.box 149 [.own 1, .own 3], .nst 104 3 5 none, .box 25 [.val 10], .map 42 0]⟩ (fun n z => z17 φ n z.1 z.2.1 z.2.2.1 z.2.2.2.1 z.2.2.2.2.1 z.2.2.2.2.2.1 z.2.2.2.2.2.2.1) (fun zk75 => (.seq .x (.seq .x (.seq (.body (.seq (.foc (67, none) (69, none) .x) .x)) .x))))))) .x))))))) .x) (.seq .x (.seq (.ins 3 46 (.seq .x (.seq .x (.seq .x (.seq (.seq .x (.body (.loop ⟨[(118, [(2, .val 0), (3, .ptr 0 0), (4, .ptr 1 0), (7, .own 2), (8, .own 3), (23, .val 0), (24, .val 0)]), (75, [(1, .val 0), (2, .val 0), (3, .ptr 4 0), (8, .ptr 5 0)])], [.box 25 [.val 10], .box 149 [.own 6, .own 7], .row 3 0, .row 4 2, .box 25 [.val 10], .box 149 [.own 6, .own 7], .nst 104 3 5 none, .map 42 0]⟩ (fun n z => zu φ n z.1 z.2.1 z.2.2.1 z.2.2.2.1 z.2.2.2.2.1 z.2.2.2.2.2.1 z.2.2.2.2.2.2.1 z.2.2.2.2.2.2.2.1 z.2.2.2.2.2.2.2.2.1 z.2.2.2.2.2.2.2.2.2.1 z.2.2.2.2.2.2.2.2.2.2.1) (fun zk88 => .x)))) (.seq .x (.body (.loop ⟨[(118, [(3, .ptr 0 0), (4, .ptr 1 0), (7, .own 2), (8, .own 3)]), (75, [(1, .val 0), (2, .val 0), (3, .ptr 4 0), (8, .ptr 5 0)])], [.box 25 [.val 10], .box 149 [.own 6, .own 7], .row 3 0, .row 4 2, .box 25 [.val 10], .box 149 [.own 6, .own 7], .nst 104 3 5 none, .map 42 0]⟩ (fun n z => zr φ n z.1 z.2.1 z.2.2.1 z.2.2.2.1 z.2.2.2.2.1 z.2.2.2.2.2.1 z.2.2.2.2.2.2.1 z.2.2.2.2.2.2.2.1) (fun zk97 => (.body (.seq .x (.seq (.seq .x (.body (.loop ⟨[(118, [(3, .ptr 0 0), (4, .ptr 1 0), (7, .own 2), (8, .own 3), (10, .val 0), (35, .val 0), (36, .val 0)]), (75, [(1, .val 0), (2, .val 0), (3, .ptr 4 0), (8, .ptr 5 0)])], [.box 25 [.val 10], .box 149 [.own 6, .own 7], .row 3 0, .row 4 2, .box 25 [.val 10], .box 149 [.own 6, .own 7], .nst 104 3 5 none, .map 42 0]⟩ (fun n z => z0u φ (fun a0 a1 a2 a3 a4 a5 a6 a7 => zk97 (a0, a1, a2, a3, a4, a5, a6, a7, ())) n z.1 z.2.1 z.2.2.1 z.2.2.2.1 z.2.2.2.2.1 z.2.2.2.2.2.1 z.2.2.2.2.2.2.1 z.2.2.2.2.2.2.2.1 z.2.2.2.2.2.2.2.2.1 z.2.2.2.2.2.2.2.2.2.1 z.2.2.2.2.2.2.2.2.2.2.1) (fun zk109 => .x)))) (.seq .x (.seq .x (.seq (.foc (4, some 0) (10, none) .x) (.body (.loop ⟨[(118, [(3, .ptr 0 0), (4, .ptr 1 0), (7, .own 2), (8, .own 3), (10, .val 0), (78, .own 4), (79, .val 0), (80, .val 0)]), (75, [(1, .val 0), (2, .val 0), (3, .ptr 5 0), (8, .ptr 6 0)])], [.box 25 [.val 10], .box 149 [.own 7, .own 8], .row 3 0, .row 4 2, .row 3 0, .box 25 [.val 10], .box 149 [.own 7, .own 8], .nst 104 3 5 (some 4), .map 42 0]⟩ (fun n z => z0x φ (fun a0 a1 a2 a3 a4 a5 a6 a7 => zk97 (a0, a1, a2, a3, a4, a5, a6, a7, ())) n z.1 z.2.1 z.2.2.1 z.2.2.2.1 z.2.2.2.2.1 z.2.2.2.2.2.1 z.2.2.2.2.2.2.1 z.2.2.2.2.2.2.2.1 z.2.2.2.2.2.2.2.2.1 z.2.2.2.2.2.2.2.2.2.1 z.2.2.2.2.2.2.2.2.2.2.1 z.2.2.2.2.2.2.2.2.2.2.2.1 z.2.2.2.2.2.2.2.2.2.2.2.2.1) (fun zk151 => .x))))))))))))))))) .x) (.seq .x (.seq .x (.seq (.body (.loop ⟨[(75, [(1, .val 0), (2, .val 0), (3, .ptr 0 0), (6, .own 1), (8, .ptr 2 0), (9, .own 3)])], [.box 25 [.val 10], .row 3 0, .box 149 [.own 4, .own 5], .row 3 0, .nst 104 3 5 none, .map 42 0]⟩ (fun n z => zt φ n z.1 z.2.1 z.2.2.1 z.2.2.2.1 z.2.2.2.2.1 z.2.2.2.2.2.1 z.2.2.2.2.2.2.1) (fun zk117 => (.seq .x (.body (.seq (.join ⟨[(75, [(1, .val 0), (2, .val 0), (3, .ptr 0 0), (6, .own 1), (8, .ptr 2 0), (9, .own 3)])], [.box 25 [.val 10], .row 3 0, .box 149 [.own 4, .own 5], .row 3 0, .nst 104 3 5 none, .map 42 0]⟩ (fun z => z3i φ (fun a0 a1 a2 a3 a4 a5 a6 => zk117 (a0, a1, a2, a3, a4, a5, a6, ())) z.1 z.2.1 z.2.2.1 z.2.2.2.1 z.2.2.2.2.1 z.2.2.2.2.2.1 z.2.2.2.2.2.2.1) (.seq (.foc (8, some 0) (1, none) .x) (.body (.loop ⟨[(75, [(1, .val 0), (2, .val 0), (3, .ptr 0 0), (6, .own 1), (8, .ptr 2 0), (9, .own 3), (41, .own 4), (42, .val 0), (43, .val 0)])], [.box 25 [.val 10], .row 3 0, .box 149 [.own 5, .own 6], .row 3 0, .row 3 0, .nst 104 3 5 (some 4), .map 42 0]⟩ (fun n z => z2l φ (fun a0 a1 a2 a3 a4 a5 a6 => zk117 (a0, a1, a2, a3, a4, a5, a6, ())) n z.1 z.2.1 z.2.2.1 z.2.2.2.1 z.2.2.2.2.1 z.2.2.2.2.2.1 z.2.2.2.2.2.2.1 z.2.2.2.2.2.2.2.1 z.2.2.2.2.2.2.2.2.1 z.2.2.2.2.2.2.2.2.2.1 z.2.2.2.2.2.2.2.2.2.2.1) (fun zk137 => .x))))) .x)))))) .x)))))))
def z80 (P : Program) (φ : Nat) : Env TV := ⟨P, lk [(21, z2w φ)], lk [(61, zco)], lk []⟩
theorem zgb (φ : Nat) (a) : (z7n φ).F a = fnX TV (z80 Try.prog φ) φ Try.f35 [10, 0, 0] [.val 5, .val 0] (z4z φ) a := by kernel_rfl
theorem zfx (φ : Nat) : fnO TV (z80 Try.prog φ) φ Try.f35 [.val 5, .val 0] (z4z φ) := by
  unfold fnO
  show obl _ _ _ _ _ _ _
  unfold z4z
  repeat' (first | exact trivial | (refine ⟨?_, ?_⟩) | (intro _) | kernel_rfl)
theorem zh0 (φ : Nat) : z2p TV Try.prog 35 (z7n φ) :=
  z33 (N := z80 Try.prog φ) (z0r ⟨z5p φ, trivial⟩ ⟨zgy, trivial⟩ trivial) (z4z φ) Try.func35 (by kernel_rfl) (zgb φ) (zfx φ)
def z4m (φ : Nat) : H TV (RTup TT [.val 52, .val 0]) := (.seq .x (.seq (.ins 2 45 (.seq .x (.seq .x (.seq (.seq .x (.body (.loop ⟨[(77, [(2, .ptr 0 0), (4, .ptr 1 0), (19, .val 5), (20, .val 0), (21, .val 0)]), (81, [(1, .val 5), (2, .ptr 2 0), (4, .own 3)])], [.box 25 [.val 10], .box 149 [.own 4, .raw (.map none)], .box 25 [.val 10], .row 129 51, .row 104 5]⟩ (fun n z => z1m φ n z.1 z.2.1 z.2.2.1 z.2.2.2.1 z.2.2.2.2.1 z.2.2.2.2.2.1 z.2.2.2.2.2.2.1 z.2.2.2.2.2.2.2.1) (fun zk12 => .x)))) (.seq .x (.seq .x (.seq (.seq .x (.body (.loop ⟨[(77, [(4, .ptr 0 0), (8, .func 60 [.ptr 0 0, .ptr 1 0]), (44, .val 9), (45, .val 0), (46, .val 0)]), (81, [(1, .val 5), (2, .ptr 2 0), (4, .own 3)])], [.box 149 [.own 4, .own 5], .box 25 [.val 10], .box 25 [.val 10], .row 129 51, .nst 104 3 5 none, .map 42 0]⟩ (fun n z => zl φ n z.1 z.2.1 z.2.2.1 z.2.2.2.1 z.2.2.2.2.1 z.2.2.2.2.2.1 z.2.2.2.2.2.2.1 z.2.2.2.2.2.2.2.1 z.2.2.2.2.2.2.2.2.1) (fun zk22 => (.seq .x (.seq .x (.seq (.body (.seq .x (.seq (.ins 6 60 (.seq .x (.seq .x (.seq (.join ⟨[(56, [(2, .val 0), (3, .ptr 0 0), (4, .ptr 1 0), (8, .ptr 2 0), (9, .val 0), (10, .val 2)]), (77, [(4, .ptr 0 0), (8, .func 60 [.ptr 0 0, .ptr 1 0]), (9, .val 0), (10, .ptr 3 0), (44, .val 9), (45, .val 0), (46, .val 0)]), (81, [(1, .val 5), (2, .ptr 4 0), (4, .own 5)])], [.box 149 [.own 6, .own 7], .box 25 [.val 10], .box 153 [.val 42], .box 96 [.val 8], .box 25 [.val 10], .row 129 51, .nst 104 3 5 none, .map 42 0]⟩ (fun z => z2n φ (fun a0 a1 a2 a3 a4 a5 a6 a7 a8 => zk22 (a0, a1, a2, a3, a4, a5, a6, a7, a8, ())) z.1 z.2.1 z.2.2.1 z.2.2.2.1 z.2.2.2.2.1 z.2.2.2.2.2.1 z.2.2.2.2.2.2.1 z.2.2.2.2.2.2.2.1 z.2.2.2.2.2.2.2.2.1 z.2.2.2.2.2.2.2.2.2.1 z.2.2.2.2.2.2.2.2.2.2.1 z.2.2.2.2.2.2.2.2.2.2.2.1 z.2.2.2.2.2.2.2.2.2.2.2.2.1 z.2.2.2.2.2.2.2.2.2.2.2.2.2.1 z.2.2.2.2.2.2.2.2.2.2.2.2.2.2.1) (.seq .x (.cond (.foc (3, some 0) (0, none) .x) .x))) .x))) .x) (.ins 6 60 (.seq .x (.seq .x (.seq (.join ⟨[(56, [(2, .val 0), (3, .ptr 0 0), (4, .ptr 1 0), (8, .ptr 2 0), (9, .val 0), (10, .val 2)]), (77, [(4, .ptr 0 0), (8, .func 60 [.ptr 0 0, .ptr 1 0]), (44, .val 9), (45, .val 0), (46, .val 0)]), (81, [(1, .val 5), (2, .ptr 3 0), (4, .own 4)])], [.box 149 [.own 5, .own 6], .box 25 [.val 10], .box 153 [.val 42], .box 25 [.val 10], .row 129 51, .nst 104 3 5 none, .map 42 0]⟩ (fun z => z2j φ (fun a0 a1 a2 a3 a4 a5 a6 a7 a8 => zk22 (a0, a1, a2, a3, a4, a5, a6, a7, a8, ())) z.1 z.2.1 z.2.2.1 z.2.2.2.1 z.2.2.2.2.1 z.2.2.2.2.2.1 z.2.2.2.2.2.2.1 z.2.2.2.2.2.2.2.1 z.2.2.2.2.2.2.2.2.1 z.2.2.2.2.2.2.2.2.2.1 z.2.2.2.2.2.2.2.2.2.2.1 z.2.2.2.2.2.2.2.2.2.2.2.1 z.2.2.2.2.2.2.2.2.2.2.2.2.1) (.seq .x (.cond (.foc (3, some 0) (0, none) .x) .x))) .x))) .x)))) .x))))))) (.seq (.seq .x (.body (.loop ⟨[(77, [(4, .ptr 0 0), (67, .own 1), (68, .val 0), (69, .val 0)]), (81, [(1, .val 5), (2, .ptr 2 0), (4, .own 3)])], [.box 149 [.own 1, .own 4], .nst 104 3 5 none, .box 25 [.val 10], .row 129 51, .map 42 0]⟩ (fun n z => z0z φ n z.1 z.2.1 z.2.2.1 z.2.2.2.1 z.2.2.2.2.1 z.2.2.2.2.2.1 z.2.2.2.2.2.2.1) (fun zk74 => (.seq .x (.seq .x (.seq (.body (.seq (.foc (67, none) (69, none) .x) .x)) .x))))))) .x))))))) .x) (.seq .x (.seq .x (.seq (.seq .x (.body (.loop ⟨[(81, [(1, .val 5), (2, .ptr 0 0), (4, .own 1), (6, .ptr 2 0), (7, .own 3), (8, .val 0)])], [.box 25 [.val 10], .row 129 51, .box 149 [.own 4, .own 5], .map 0 0, .nst 104 3 5 none, .map 42 0]⟩ (fun n z => zy φ n z.1 z.2.1 z.2.2.1 z.2.2.2.1 z.2.2.2.2.1 z.2.2.2.2.2.1 z.2.2.2.2.2.2.1) (fun zk83 => .x)))) (.seq (.seq .x (.body (.loop ⟨[(81, [(4, .own 0), (7, .own 1), (63, .val 0)])], [.row 129 51, .map 0 0]⟩ (fun n z => z0e φ n z.1 z.2.1 z.2.2.1) (fun zk87 => .x)))) .x))))))
def z6z (P : Program) (φ : Nat) : Env TV := ⟨P, lk [(21, z2w φ)], lk [(61, zco)], lk []⟩
theorem zew (φ : Nat) (a) : (z73 φ).F a = fnX TV (z6z Try.prog φ) φ Try.f36 [10, 5] [.val 52, .val 0] (z4m φ) a := by kernel_rfl
theorem zf7 (φ : Nat) : fnO TV (z6z Try.prog φ) φ Try.f36 [.val 52, .val 0] (z4m φ) := by
  unfold fnO
  show obl _ _ _ _ _ _ _
  unfold z4m
  repeat' (first | exact trivial | (refine ⟨?_, ?_⟩) | (intro _) | kernel_rfl)
theorem zf3 (φ : Nat) : z2p TV Try.prog 36 (z73 φ) :=
  z33 (N := z6z Try.prog φ) (z0r ⟨z5p φ, trivial⟩ ⟨zgy, trivial⟩ trivial) (z4m φ) Try.func36 (by kernel_rfl) (zew φ) (zf7 φ)
def z6e (φ : Nat) : H TV (RTup TT [.val 0]) := (.seq .x (.seq .x (.seq .x (.seq .x (.seq .x (.seq (.seq .x (.body (.loop ⟨[(41, [(11, .val 0), (29, .val 52), (30, .val 0), (31, .val 0)])], []⟩ (fun n z => z2f φ n z.1 z.2.1 z.2.2.1 z.2.2.2.1) (fun zk10 => .x)))) .x))))))
def z92 (P : Program) (φ : Nat) : Env TV := ⟨P, lk [(35, z7n φ), (36, z73 φ)], lk [], lk []⟩
theorem zhp (φ : Nat) (a) : (z8w φ).F a = fnX TV (z92 Try.prog φ) φ Try.f20 [10, 0, 0] [.val 0] (z6e φ) a := by kernel_rfl
theorem zhl (φ : Nat) : fnO TV (z92 Try.prog φ) φ Try.f20 [.val 0] (z6e φ) := by
  unfold fnO
  show obl _ _ _ _ _ _ _
  unfold z6e
  repeat' (first | exact trivial | (refine ⟨?_, ?_⟩) | (intro _) | kernel_rfl)
theorem zho (φ : Nat) : z2p TV Try.prog 20 (z8w φ) :=
  z33 (N := z92 Try.prog φ) (z0r ⟨zh0 φ, zf3 φ, trivial⟩ trivial trivial) (z6e φ) Try.func20 (by kernel_rfl) (zhp φ) (zhl φ)
theorem zg1 (φ : Nat) (k12 : (Int → (List z1) → Int → Pool → Span → Option (Int × Int × Unit))) (x22 : Int) (x23 : (List z1)) (x24 : Int) (x25 : Pool) (x26 : Span) : z7m (z6n φ k12 x22 x23 x24 x25 x26) (z9f φ k12 x22 x23 x24 x25 x26) := by
  unfold z6n z9f
  repeat (first | exact z7m.same (n := 2) rfl | exact z7m.same (n := 3) rfl | exact z7m.same (n := 4) rfl | exact z7m.same (n := 6) rfl | refine z7m.ck ?_ | refine z7m.bind fun _ => ?_)
def zb5 (φ : Nat) : H TV (RTup TT [.val 0, .val 0]) := (.seq .x (.seq .x (.seq .x (.seq .x (.seq .x (.seq (.seq .x (.body (.loop ⟨[(93, [(4, .ptr 0 0), (7, .ptr 1 0), (11, .val 0), (12, .val 39), (13, .val 0)])], [.box 36 [.val 30], .box 59 [.val 25]]⟩ (fun n z => z4t φ n z.1 z.2.1 z.2.2.1 z.2.2.2.1 z.2.2.2.2.1) (fun zk12 => (.seq .x (.seq (.body (.seq (.join ⟨[(93, [(4, .ptr 0 0), (7, .ptr 1 0), (11, .val 0), (12, .val 39), (13, .val 0), (14, .ptr 2 0), (15, .ptr 3 0)])], [.box 36 [.val 30], .box 59 [.val 25], .box 69 [.val 3], .box 69 [.val 3]]⟩ (fun z => z6r φ (fun a0 a1 a2 a3 a4 => zk12 (a0, a1, a2, a3, a4, ())) z.1 z.2.1 z.2.2.1 z.2.2.2.1 z.2.2.2.2.1 z.2.2.2.2.2.1 z.2.2.2.2.2.2.1) (.alt ⟨[(93, [(4, .ptr 0 0), (7, .ptr 1 0), (11, .val 0), (12, .val 39), (13, .val 0)])], [.box 36 [.val 30], .box 59 [.val 25]]⟩ (fun z => z6n φ (fun a0 a1 a2 a3 a4 => zk12 (a0, a1, a2, a3, a4, ())) z.1 z.2.1 z.2.2.1 z.2.2.2.1 z.2.2.2.2.1) (fun z => z9f φ (fun a0 a1 a2 a3 a4 => zk12 (a0, a1, a2, a3, a4, ())) z.1 z.2.1 z.2.2.1 z.2.2.2.1 z.2.2.2.2.1))) .x)) .x)))))) .x))))))
def zeh (P : Program) (φ : Nat) : Env TV := ⟨P, lk [(16, z20 φ), (17, z4g φ), (20, z8w φ)], lk [], lk []⟩
theorem zqd (φ : Nat) (a) : (zb4 φ).F a = fnX TV (zeh Try.prog φ) φ Try.f10 [30, 38, 0, 25] [.val 0, .val 0] (zb5 φ) a := by kernel_rfl
theorem zq9 (φ : Nat) : fnO TV (zeh Try.prog φ) φ Try.f10 [.val 0, .val 0] (zb5 φ) := by
  unfold fnO
  show obl _ _ _ _ _ _ _
  unfold zb5
  repeat' (first | exact trivial | (refine ⟨?_, ?_⟩) | (intro _) | kernel_rfl | exact zg1 ..)
theorem zif (φ : Nat) : z2p TV Try.prog 10 (zb4 φ) :=
  z33 (N := zeh Try.prog φ) (z0r ⟨z3z φ, z91 φ, zho φ, trivial⟩ trivial trivial) (zb5 φ) Try.func10 (by kernel_rfl) (zqd φ) (zq9 φ)
def z3n (φ : Nat) : H TV (RTup TT [.val 2]) := (.seq .x (.seq .x (.seq (.seq .x (.body (.loop ⟨[(26, [(0, .val 41), (1, .val 41), (5, .val 0)])], []⟩ (fun n z => z15 φ n z.1 z.2.1 z.2.2.1) (fun zk6 => .x)))) .x)))
def z5d (P : Program) (φ : Nat) : Env TV := ⟨P, lk [], lk [], lk []⟩
theorem zci (φ : Nat) (a) : (z3l φ).F a = fnX TV (z5d Try.prog φ) φ Try.f11 [41, 41] [.val 2] (z3n φ) a := by kernel_rfl
theorem zcf (φ : Nat) : fnO TV (z5d Try.prog φ) φ Try.f11 [.val 2] (z3n φ) := by
  unfold fnO
  show obl _ _ _ _ _ _ _
  unfold z3n
  repeat' (first | exact trivial | (refine ⟨?_, ?_⟩) | (intro _) | kernel_rfl)
theorem z8k (φ : Nat) : z2p TV Try.prog 11 (z3l φ) :=
  z33 (N := z5d Try.prog φ) (z0r trivial trivial trivial) (z3n φ) Try.func11 (by kernel_rfl) (zci φ) (zcf φ)
def z8l (φ : Nat) : H TV (RTup TT [.val 2]) := .x
def zag (P : Program) (φ : Nat) : Env TV := ⟨P, lk [(13, z88 φ), (12, z7d φ), (8, z7e φ), (10, zb4 φ), (11, z3l φ)], lk [], lk []⟩
theorem zm0 (φ : Nat) (a) : (za7 φ).F a = fnX TV (zag Try.prog φ) φ Try.f5 [] [.val 2] (z8l φ) a := by kernel_rfl
theorem zlm (φ : Nat) : fnO TV (zag Try.prog φ) φ Try.f5 [.val 2] (z8l φ) := by
  unfold fnO
  show obl _ _ _ _ _ _ _
  unfold z8l
  repeat' (first | exact trivial | (refine ⟨?_, ?_⟩) | (intro _) | kernel_rfl)
theorem zli (φ : Nat) : z2p TV Try.prog 5 (za7 φ) :=
  z33 (N := zag Try.prog φ) (z0r ⟨zh5 φ, zcl φ, zcd φ, zif φ, z8k φ, trivial⟩ trivial trivial) (z8l φ) Try.func5 (by kernel_rfl) (zm0 φ) (zlm φ)
def z3x (φ : Nat) : H TV (RTup TT [.val 2]) := (.seq .x (.seq .x (.seq (.seq .x (.body (.loop ⟨[(65, [(1, .ptr 0 0), (3, .val 0)])], [.box 36 [.val 30]]⟩ (fun n z => z0w φ n z.1 z.2.1) (fun zk4 => .x)))) .x)))
def z61 (P : Program) (φ : Nat) : Env TV := ⟨P, lk [], lk [], lk []⟩
theorem zeg (φ : Nat) (a) : (z63 φ).F a = fnX TV (z61 Try.prog φ) φ Try.f14 [30] [.val 2] (z3x φ) a := by kernel_rfl
theorem ze4 (φ : Nat) : fnO TV (z61 Try.prog φ) φ Try.f14 [.val 2] (z3x φ) := by
  unfold fnO
  show obl _ _ _ _ _ _ _
  unfold z3x
  repeat' (first | exact trivial | (refine ⟨?_, ?_⟩) | (intro _) | kernel_rfl)
theorem zdh (φ : Nat) : z2p TV Try.prog 14 (z63 φ) :=
  z33 (N := z61 Try.prog φ) (z0r trivial trivial trivial) (z3x φ) Try.func14 (by kernel_rfl) (zeg φ) (ze4 φ)
def z3g (φ : Nat) : H TV (RTup TT [.val 2]) := (.seq .x (.seq .x (.seq (.seq .x (.body (.loop ⟨[(34, [(0, .val 38), (5, .val 0)])], []⟩ (fun n z => z19 φ n z.1 z.2.1) (fun zk5 => .x)))) .x)))
def z5i (P : Program) (φ : Nat) : Env TV := ⟨P, lk [], lk [], lk []⟩
theorem zcj (φ : Nat) (a) : (z5r φ).F a = fnX TV (z5i Try.prog φ) φ Try.f15 [38, 0] [.val 2] (z3g φ) a := by kernel_rfl
theorem zd6 (φ : Nat) : fnO TV (z5i Try.prog φ) φ Try.f15 [.val 2] (z3g φ) := by
  unfold fnO
  show obl _ _ _ _ _ _ _
  unfold z3g
  repeat' (first | exact trivial | (refine ⟨?_, ?_⟩) | (intro _) | kernel_rfl)
theorem zcb (φ : Nat) : z2p TV Try.prog 15 (z5r φ) :=
  z33 (N := z5i Try.prog φ) (z0r trivial trivial trivial) (z3g φ) Try.func15 (by kernel_rfl) (zcj φ) (zd6 φ)
def z9e (φ : Nat) : H TV (RTup TT [.val 2]) := .x
def zc8 (P : Program) (φ : Nat) : Env TV := ⟨P, lk [(14, z63 φ), (15, z5r φ)], lk [], lk []⟩
theorem zmh (φ : Nat) (a) : (zbx φ).F a = fnX TV (zc8 Try.prog φ) φ Try.f6 [30, 38] [.val 2] (z9e φ) a := by kernel_rfl
theorem zn7 (φ : Nat) : fnO TV (zc8 Try.prog φ) φ Try.f6 [.val 2] (z9e φ) := by
  unfold fnO
  show obl _ _ _ _ _ _ _
  unfold z9e
  repeat' (first | exact trivial | (refine ⟨?_, ?_⟩) | (intro _) | kernel_rfl)
theorem zmd (φ : Nat) : z2p TV Try.prog 6 (zbx φ) :=
  z33 (N := zc8 Try.prog φ) (z0r ⟨zdh φ, zcb φ, trivial⟩ trivial trivial) (z9e φ) Try.func6 (by kernel_rfl) (zmh φ) (zn7 φ)
def z3v (φ : Nat) : H TV (RTup TT [.val 2]) := (.seq .x (.seq (.seq .x (.body (.loop ⟨[(27, [(0, .val 38), (3, .val 0)])], []⟩ (fun n z => z0v φ n z.1 z.2.1) (fun zk4 => (.seq .x (.seq (.body (.seq .x (.body (.loop ⟨[(27, [(0, .val 38), (3, .val 0), (4, .val 0)])], []⟩ (fun n z => z1l φ (fun a0 a1 => zk4 (a0, a1, ())) n z.1 z.2.1 z.2.2.1) (fun zk8 => .x))))) .x)))))) .x))
def z67 (P : Program) (φ : Nat) : Env TV := ⟨P, lk [], lk [], lk []⟩
theorem zdr (φ : Nat) (a) : (z62 φ).F a = fnX TV (z67 Try.prog φ) φ Try.f7 [38] [.val 2] (z3v φ) a := by kernel_rfl
theorem ze5 (φ : Nat) : fnO TV (z67 Try.prog φ) φ Try.f7 [.val 2] (z3v φ) := by
  unfold fnO
  show obl _ _ _ _ _ _ _
  unfold z3v
  repeat' (first | exact trivial | (refine ⟨?_, ?_⟩) | (intro _) | kernel_rfl)
theorem zdj (φ : Nat) : z2p TV Try.prog 7 (z62 φ) :=
  z33 (N := z67 Try.prog φ) (z0r trivial trivial trivial) (z3v φ) Try.func7 (by kernel_rfl) (zdr φ) (ze5 φ)
def z8h (φ : Nat) : H TV (RTup TT [.val 2]) := (.seq .x (.seq .x (.seq (.seq .x (.body (.loop ⟨[(94, [(2, .ptr 0 0), (3, .ptr 1 0), (5, .val 0)])], [.box 53 [.val 49], .box 53 [.val 49]]⟩ (fun n z => z3t φ n z.1 z.2.1 z.2.2.1) (fun zk6 => .x)))) (.seq (.seq .x (.body (.loop ⟨[(94, [(2, .ptr 0 0), (3, .ptr 1 0), (6, .val 0)])], [.box 53 [.val 49], .box 53 [.val 49]]⟩ (fun n z => z3e φ n z.1 z.2.1 z.2.2.1) (fun zk10 => .x)))) (.seq (.seq .x (.body (.loop ⟨[(94, [(2, .ptr 0 0), (3, .ptr 1 0), (7, .val 0)])], [.box 53 [.val 49], .box 53 [.val 49]]⟩ (fun n z => z3d φ n z.1 z.2.1 z.2.2.1) (fun zk14 => .x)))) .x)))))
def zab (P : Program) (φ : Nat) : Env TV := ⟨P, lk [], lk [], lk []⟩
theorem zm7 (φ : Nat) (a) : (zad φ).F a = fnX TV (zab Try.prog φ) φ Try.f9 [49, 49] [.val 2] (z8h φ) a := by kernel_rfl
theorem zlp (φ : Nat) : fnO TV (zab Try.prog φ) φ Try.f9 [.val 2] (z8h φ) := by
  unfold fnO
  show obl _ _ _ _ _ _ _
  unfold z8h
  repeat' (first | exact trivial | (refine ⟨?_, ?_⟩) | (intro _) | kernel_rfl)
theorem zky (φ : Nat) : z2p TV Try.prog 9 (zad φ) :=
  z33 (N := zab Try.prog φ) (z0r trivial trivial trivial) (z8h φ) Try.func9 (by kernel_rfl) (zm7 φ) (zlp φ)
def z3j (φ : Nat) : H TV (RTup TT [.val 2]) := (.seq .x (.seq .x (.seq .x (.seq .x (.seq .x (.seq .x (.seq .x (.seq .x (.seq (.seq .x (.body (.loop ⟨[(167, [(1, .val 38), (4, .ptr 0 0), (9, .own 1), (10, .val 0), (12, .own 2), (13, .val 0)])], [.box 36 [.val 30], .row 48 37, .row 48 37]⟩ (fun n z => z0a φ n z.1 z.2.1 z.2.2.1 z.2.2.2.1 z.2.2.2.2.1 z.2.2.2.2.2.1) (fun zk14 => .x)))) .x)))))))))
def z5h (P : Program) (φ : Nat) : Env TV := ⟨P, lk [(5, za7 φ), (6, zbx φ), (7, z62 φ), (8, z7e φ), (9, zad φ), (10, zb4 φ), (12, z7d φ), (11, z3l φ)], lk [], lk []⟩
theorem zct (φ : Nat) (a) : (z3k φ).F a = fnX TV (z5h Try.prog φ) φ Try.f3 [30, 38, 0, 0] [.val 2] (z3j φ) a := by kernel_rfl
theorem zce (φ : Nat) : fnO TV (z5h Try.prog φ) φ Try.f3 [.val 2] (z3j φ) := by
  unfold fnO
  show obl _ _ _ _ _ _ _
  unfold z3j
  repeat' (first | exact trivial | (refine ⟨?_, ?_⟩) | (intro _) | kernel_rfl)
theorem zcr (φ : Nat) : z2p TV Try.prog 3 (z3k φ) :=
  z33 (N := z5h Try.prog φ) (z0r ⟨zli φ, zmd φ, zdj φ, zcd φ, zky φ, zif φ, zcl φ, z8k φ, trivial⟩ trivial trivial) (z3j φ) Try.func3 (by kernel_rfl) (zct φ) (zce φ)
end Px
end
section
namespace Px
open Go
set_option linter.unusedVariables false
set_option linter.unusedSimpArgs false
theorem z2h (φ : Nat) (a b c : Int) : zg φ a b c = some (bet a b c, ()) := rfl
def zgp (t : z29) : Bool :=
  bet t.load 0 1000000 && bet t.tare 0 1000000 && bet t.length 0 1000000 && bet t.brake 0 1000000 && bet t.gauge 0 7 && bet t.life 1 1073741824 && bet t.floor 0 100
def zc2 (n : Int) (w : zhg) : Bool :=
  bet w.type_ 0 (n - 1) && bet w.owner 0 63 && bet w.home 0 511 && bet w.built 0 1073741824 && bet w.worth 0 1099511627776
def zhs (n : Int) (s : Swap) : Bool := bet s.wanted 0 (n - 1) && bet s.given 0 (n - 1) && (s.wanted != s.given) && bet s.cost 0 1000000000
def ztt (w : Wash) : Bool := bet w.from_ 0 63 && bet w.to 0 63 && (w.from_ != w.to) && bet w.minutes 0 100000
def keyW (w : Wash) : Int := 64 * w.from_ + w.to
def z59 (l : List Wash) (i : Nat) : Bool := ztt (gt l (i : Int)) && !(l.take i).any fun v => keyW v == keyW (gt l (i : Int))
def z8b (l : List Wash) : Bool := (List.range l.length).all (z59 l)
/-- What Check answers. -/
def z52 (x : z98) : Int :=
  bif decide (32 < x.types.length) || decide (4096 < x.wagons.length) || decide (1024 < x.swaps.length) || decide (4096 < x.washes.length) then 2 else
  bif x.types.all zgp && x.wagons.all (zc2 x.types.length) && x.swaps.all (zhs x.types.length) && z8b x.washes then 0 else 1
theorem zbm (p : Nat → Bool) (i : Nat) : (List.range (i + 1)).all p = ((List.range i).all p && p i) := by
  rw [List.range_succ, List.all_append]; simp
theorem zei (φ : Nat) (x : z98) (hl : x.swaps.length ≤ 1024) (ht : x.types.length ≤ 32) :
    ∀ n s, x.swaps.length < n → z0g φ n x.swaps (x.swaps.length : Int) 0 x s = zi φ φ x.washes (x.washes.length : Int) 0 (bif x.swaps.all (zhs (x.types.length : Int)) then s else 1) (fun _ => default) := by
  have hp : W ((x.types.length : Int) - 1) = (x.types.length : Int) - 1 := W_id (by omega) (by omega)
  refine zff (fun n i s => z0g φ n x.swaps (x.swaps.length : Int) i x s) (fun s => zi φ φ x.washes (x.washes.length : Int) 0 s (fun _ => default)) _ _ ?_ ?_
  · intro n i s hi
    have hW : W ((i : Int) + 1) = (i : Int) + 1 := W_id (by omega) (by omega)
    rw [z0g, if_pos (by simp; omega), z2 ⟨by omega, by omega⟩]
    simp only [z2h, Option.bind_some, zhs, z1c, hW, hp]
    cases bet (gt x.swaps i).wanted 0 ((x.types.length : Int) - 1) <;> cases bet (gt x.swaps i).given 0 ((x.types.length : Int) - 1) <;> cases ((gt x.swaps i).wanted != (gt x.swaps i).given) <;>
      cases bet (gt x.swaps i).cost 0 1000000000 <;> rfl
  · intro n s
    rw [z0g, if_neg (by simp)]
theorem zcc (φ : Nat) (x : z98) (hl : x.wagons.length ≤ 4096) (ht : x.types.length ≤ 32) :
    ∀ n s, x.wagons.length < n → z03 φ n x.wagons (x.wagons.length : Int) 0 x s = z0g φ φ x.swaps (x.swaps.length : Int) 0 x (bif x.wagons.all (zc2 (x.types.length : Int)) then s else 1) := by
  have hp : W ((x.types.length : Int) - 1) = (x.types.length : Int) - 1 := W_id (by omega) (by omega)
  refine zff (fun n i s => z03 φ n x.wagons (x.wagons.length : Int) i x s) (fun s => z0g φ φ x.swaps (x.swaps.length : Int) 0 x s) _ _ ?_ ?_
  · intro n i s hi
    have hW : W ((i : Int) + 1) = (i : Int) + 1 := W_id (by omega) (by omega)
    rw [z03, if_pos (by simp; omega), z2 ⟨by omega, by omega⟩]
    simp only [z2h, Option.bind_some, zc2, z1c, hW, hp]
    cases bet (gt x.wagons i).type_ 0 ((x.types.length : Int) - 1) <;> cases bet (gt x.wagons i).owner 0 63 <;> cases bet (gt x.wagons i).home 0 511 <;>
      cases bet (gt x.wagons i).built 0 1073741824 <;> cases bet (gt x.wagons i).worth 0 1099511627776 <;> rfl
  · intro n s
    rw [z03, if_neg (by simp)]
theorem zfa (φ : Nat) (k : List z29 → Int → Int → z98 → Int → Option (Int × Unit)) (ts : List z29) (len i : Int) (x : z98) (t : z29) (n : Nat) (s : Int) (hn : 4 < n) :
    z1g φ k n ts len i 4 0 x s t [t.load, t.tare, t.length, t.brake] = k ts len (W (i + 1)) x (bif zgp t then s else 1) := by
  have h := zff (fun n j s => z1g φ k n ts len i 4 j x s t [t.load, t.tare, t.length, t.brake]) (fun s => k ts len (W (i + 1)) x (bif (bet t.gauge 0 7 && bet t.life 1 1073741824 && bet t.floor 0 100) then s else 1))
    [t.load, t.tare, t.length, t.brake] (fun a => bet a 0 1000000) (fun n j s hi => by
      rw [z1g, if_pos (by simp at hi ⊢; omega), z2 ⟨by omega, by omega⟩]
      simp at hi
      have hW : W ((j : Int) + 1) = (j : Int) + 1 := W_id (by omega) (by omega)
      simp only [z2h, Option.bind_some, hW]
      cases bet (gt [t.load, t.tare, t.length, t.brake] (j : Int)) 0 1000000 <;> rfl) (fun n s => by
      rw [z1g, if_neg (by simp)]
      simp only [z2h, Option.bind_some, z1c]
      cases bet t.gauge 0 7 <;> cases bet t.life 1 1073741824 <;> cases bet t.floor 0 100 <;> rfl) n s hn
  rw [h]
  simp only [zgp, List.all_cons, List.all_nil]
  cases bet t.load 0 1000000 <;> cases bet t.tare 0 1000000 <;> cases bet t.length 0 1000000 <;> cases bet t.brake 0 1000000 <;>
      cases bet t.gauge 0 7 <;> cases bet t.life 1 1073741824 <;> cases bet t.floor 0 100 <;> rfl
theorem ze9 (φ : Nat) (hφ : 4 < φ) (x : z98) (hl : x.types.length ≤ 32) :
    ∀ n s, x.types.length < n → z2q φ n x.types (x.types.length : Int) 0 x s = z03 φ φ x.wagons (x.wagons.length : Int) 0 x (bif x.types.all zgp then s else 1) := by
  refine zff (fun n i s => z2q φ n x.types (x.types.length : Int) i x s) (fun s => z03 φ φ x.wagons (x.wagons.length : Int) 0 x s) _ _ ?_ ?_
  · intro n i s hi
    rw [z2q, if_pos (by simp; omega), z2 ⟨by omega, by omega⟩]
    have hW : W ((i : Int) + 1) = (i : Int) + 1 := W_id (by omega) (by omega)
    refine (zfa φ _ x.types (x.types.length : Int) (i : Int) x (gt x.types i) φ s hφ).trans ?_
    rw [hW]
  · intro n s
    rw [z2q, if_neg (by simp)]
theorem zcn (φ : Nat) (x : z98) (hl : x.washes.length ≤ 4096) (n : Nat) (s : Int) (hn : x.washes.length < n) :
    zi φ n x.washes (x.washes.length : Int) 0 s (fun _ => default) = some (bif z8b x.washes then s else 1, ()) := by
  refine zm (fun n i (t : Int × (Nat → Bool)) => zi φ n x.washes (x.washes.length : Int) i t.1 t.2) x.washes.length
    (fun i t => t.1 = (bif (List.range i).all (z59 x.washes) then s else 1) ∧ ((List.range i).all (z59 x.washes) = true → ∀ j : Nat, t.2 j = (x.washes.take i).any fun v => keyW v == (j : Int)))
    (fun o => o = some (bif z8b x.washes then s else 1, ())) ?_ ?_ n (s, fun _ => false) ⟨by simp, by simp⟩ hn
  · intro n i t hi ⟨h1, h2⟩ hs
    have hW : W ((i : Int) + 1) = (i : Int) + 1 := W_id (by omega) (by omega)
    rw [zi, if_pos (by simp; omega), z2 ⟨by omega, by omega⟩]
    simp only [z2h, Option.bind_some, z1c, hW]
    have hok : ztt (gt x.washes i) = (bet (gt x.washes i).from_ 0 63 && bet (gt x.washes i).to 0 63 && ((gt x.washes i).from_ != (gt x.washes i).to) && bet (gt x.washes i).minutes 0 100000) := rfl
    have hsucc := zbm (z59 x.washes) i
    cases hw : ztt (gt x.washes i) with
    | false =>
      have hf : (List.range (i + 1)).all (z59 x.washes) = false := by rw [hsucc]; simp [z59, hw]
      have h3 : zi φ n x.washes (x.washes.length : Int) ((i : Int) + 1) 1 t.2 = some (bif z8b x.washes then s else 1, ()) := hs (1, t.2) ⟨by rw [hf]; rfl, by rw [hf]; intro h; cases h⟩
      rw [hw] at hok
      rw [← h3]
      generalize bet (gt x.washes i).from_ 0 63 = a at *; generalize bet (gt x.washes i).to 0 63 = b at *; generalize ((gt x.washes i).from_ != (gt x.washes i).to) = c at *; generalize bet (gt x.washes i).minutes 0 100000 = d at *
      cases a <;> cases b <;> cases c <;> cases d <;> first | (exact absurd hok (by decide)) | rfl
    | true =>
      rw [hw] at hok
      have hb := hok.symm
      simp only [Bool.and_eq_true] at hb
      obtain ⟨⟨⟨b1, b2⟩, b3⟩, b4⟩ := hb
      have c1 := zto b1; have c2 := zto b2
      simp only [b1, b2, b3, b4, Bool.and_self, if_true, Option.bind_some, Bool.not_true, Bool.false_eq_true, if_false]
      rw [z2 ⟨by omega, by omega⟩, z2 ⟨by omega, by omega⟩]
      have hkey : ((gt x.washes i).from_.toNat * 64 + (gt x.washes i).to.toNat : Nat) = (keyW (gt x.washes i)).toNat := by unfold keyW; omega
      have hk0 : ((keyW (gt x.washes i)).toNat : Int) = keyW (gt x.washes i) := by unfold keyW; omega
      have key : ∀ e, (e = bif (List.range (i + 1)).all (z59 x.washes) then s else 1) →
          zi φ n x.washes (x.washes.length : Int) ((i : Int) + 1) e (upd t.2 (keyW (gt x.washes i)).toNat true) = some (bif z8b x.washes then s else 1, ()) := by
        intro e he
        refine hs (e, _) ⟨he, fun hall j => ?_⟩
        rw [hsucc, Bool.and_eq_true] at hall
        rw [zd0 _ _ _ hi, ← h2 hall.1 j]
        show (if j = (keyW (gt x.washes i)).toNat then true else t.2 j) = _
        by_cases hj : j = (keyW (gt x.washes i)).toNat
        · simp [hj, hk0]
        · have : (keyW (gt x.washes i) == (j : Int)) = false := by
            simp; intro h; exact hj (by omega)
          simp [hj, this]
      have e64 : ∀ (p : Prop) [Decidable p] (y : Option (Int × Unit)), p → ck p y = y := fun p _ y hp => z2 hp
      rw [hkey]
      simp only [e64 _ _ (show (0 : Int) ≤ (gt x.washes i).from_ ∧ (gt x.washes i).from_ < 64 by omega), e64 _ _ (show (0 : Int) ≤ (gt x.washes i).to ∧ (gt x.washes i).to < 64 by omega)]
      cases hall : (List.range i).all (z59 x.washes) with
      | true =>
        have hat : z59 x.washes i = !(t.2 (keyW (gt x.washes i)).toNat) := by
          rw [h2 hall]; simp only [z59, hw, Bool.true_and, hk0]
        cases ht2 : t.2 (keyW (gt x.washes i)).toNat with
        | true =>
          simp only [Bool.not_true, Bool.not_false, if_true]
          refine key 1 ?_
          rw [hsucc, hat, ht2]; simp
        | false =>
          simp only [Bool.not_true, Bool.not_false, Bool.false_eq_true, if_false]
          refine key t.1 ?_
          rw [hsucc, hat, ht2, h1, hall]; simp
      | false =>
        have hf : (List.range (i + 1)).all (z59 x.washes) = false := by rw [hsucc, hall]; rfl
        have ht1 : t.1 = 1 := by rw [h1, hall]; rfl
        rw [ht1]
        split <;> exact key 1 (by rw [hf]; rfl)
  · intro n t ⟨h1, _⟩
    rw [zi, if_neg (by simp), h1]; rfl
theorem zhf (φ : Nat) (hφ : 5000 < φ) (x : z98) : z9g φ x = some (z52 x, ()) := by
  have e : (((decide (32 < (x.types.length : Int)) || decide (4096 < (x.wagons.length : Int))) || decide (1024 < (x.swaps.length : Int))) || decide (4096 < (x.washes.length : Int))) =
      (decide (32 < x.types.length) || decide (4096 < x.wagons.length) || decide (1024 < x.swaps.length) || decide (4096 < x.washes.length)) := by
    congr 1
    · congr 1
      · congr 1 <;> (apply decide_eq_decide.2; omega)
      · apply decide_eq_decide.2; omega
    · apply decide_eq_decide.2; omega
  unfold z9g z52
  rw [e]
  cases h : (decide (32 < x.types.length) || decide (4096 < x.wagons.length) || decide (1024 < x.swaps.length) || decide (4096 < x.washes.length)) with
  | true => rfl
  | false =>
    simp only [Bool.or_eq_false_iff, decide_eq_false_iff_not, Nat.not_lt] at h
    obtain ⟨⟨⟨h1, h2⟩, h3⟩, h4⟩ := h
    rw [if_neg (by simp), ze9 φ (by omega) x h1 _ _ (by omega), zcc _ _ h2 h1 _ _ (by omega), zei _ _ h3 h1 _ _ (by omega), zcn _ _ h4 _ _ (by omega)]
    cases x.types.all zgp <;> cases x.wagons.all (zc2 x.types.length) <;> cases x.swaps.all (zhs x.types.length) <;> cases z8b x.washes <;> rfl
theorem z5z {x : z98} (h : z52 x = 0) : x.types.length ≤ 32 ∧ x.wagons.length ≤ 4096 ∧ x.swaps.length ≤ 1024 ∧ x.washes.length ≤ 4096 ∧
    (∀ t ∈ x.types, zgp t = true) ∧ (∀ t ∈ x.wagons, zc2 x.types.length t = true) ∧ (∀ t ∈ x.swaps, zhs x.types.length t = true) ∧ z8b x.washes = true := by
  unfold z52 at h
  cases h1 : (decide (32 < x.types.length) || decide (4096 < x.wagons.length) || decide (1024 < x.swaps.length) || decide (4096 < x.washes.length)) with
  | true => rw [h1] at h; cases h
  | false =>
    rw [h1] at h
    simp only [Bool.or_eq_false_iff, decide_eq_false_iff_not, Nat.not_lt] at h1
    obtain ⟨⟨⟨a1, a2⟩, a3⟩, a4⟩ := h1
    cases h2 : (x.types.all zgp && x.wagons.all (zc2 x.types.length) && x.swaps.all (zhs x.types.length) && z8b x.washes) with
    | false => rw [h2] at h; cases h
    | true =>
      simp only [Bool.and_eq_true, List.all_eq_true] at h2
      exact ⟨a1, a2, a3, a4, h2.1.1.1, h2.1.1.2, h2.1.2, h2.2⟩
end Px
end
section
namespace Px
open Go
set_option linter.unusedVariables false
set_option linter.unusedSimpArgs false
theorem z60 {c : Int} (h : 0 ≤ c) (h' : c < 18446744073709551616) : (BitVec.ofInt 64 c).toNat = c.toNat := by
  rw [BitVec.toNat_ofInt]; omega
theorem zxe {n : Nat} (h : n < 18446744073709551616) : U (n : Int) = n := U_id (by omega) (by omega)
theorem zwk {a b : Nat} (h : a < 18446744073709551616) : a &&& b < 18446744073709551616 := Nat.lt_of_le_of_lt Nat.and_le_left h
theorem zvn {k : Nat} (h : k ≤ 63) : (2 ^ k : Nat) < 18446744073709551616 := Nat.lt_of_lt_of_le (Nat.pow_lt_pow_right (by decide) (by omega : k < 64)) (by decide)
theorem zzj {c k : Int} (h : 0 ≤ c) (hk : 0 ≤ k) (hk' : k ≤ 63) : c.fdiv (2 ^ (min (k : Int).toNat (IntKind.bits .u64))) = ((c.toNat / 2 ^ k.toNat : Nat) : Int) := by
  have e : min (k : Int).toNat (IntKind.bits .u64) = k.toNat := by simp [IntKind.bits]; omega
  rw [e]
  have e2 : ((2 : Int) ^ k.toNat) = ((2 ^ k.toNat : Nat) : Int) := by simp
  rw [e2, Int.fdiv_eq_ediv_of_nonneg _ (Int.natCast_nonneg _)]
  have : c = (c.toNat : Int) := by omega
  rw [this]; simp
end Px
end
section
namespace Px
open Go
set_option linter.unusedVariables false
set_option linter.unusedSimpArgs false
set_option maxRecDepth 100000
theorem zpz : ((List.range 256).all fun i => decide (0 ≤ z7v zo i ∧ z7v zo i ≤ 8 ∧ i < 2 ^ (z7v zo i).toNat ∧ (0 < i → 0 < z7v zo i ∧ 2 ^ ((z7v zo i).toNat - 1) ≤ i))) = true := by decide +kernel
theorem zgj {i : Int} (h : 0 ≤ i) (h' : i < 256) : ∃ n : Nat, z7v zo i = n ∧ n ≤ 8 ∧ i.toNat < 2 ^ n ∧ (0 < i → 0 < n ∧ 2 ^ (n - 1) ≤ i.toNat) := by
  have := List.all_eq_true.1 zpz i.toNat (by simp; omega)
  rw [decide_eq_true_eq, show ((i.toNat : Nat) : Int) = i by omega] at this
  obtain ⟨a, b, c, d⟩ := this
  exact ⟨(z7v zo i).toNat, by omega, by omega, c, fun hi => ⟨by have := (d (by omega)).1; omega, (d (by omega)).2⟩⟩
/-- How many bits. -/
def z5t (v : Nat) (n : Nat) : Prop := v < 2 ^ n ∧ (0 < v → 0 < n ∧ 2 ^ (n - 1) ≤ v)
theorem z5t.up {v : Nat} (k : Nat) {n : Nat} (h : z5t (v / 2 ^ k) n) (hv : 2 ^ k ≤ v) : z5t v (n + k) := by
  have hp := Nat.two_pow_pos k
  have hpos : 0 < v / 2 ^ k := Nat.div_pos hv hp
  obtain ⟨h1, h2⟩ := h
  obtain ⟨h3, h4⟩ := h2 hpos
  refine ⟨?_, fun _ => ⟨by omega, ?_⟩⟩
  · rw [Nat.pow_add]; exact (Nat.div_lt_iff_lt_mul hp).1 h1
  · have : n + k - 1 = (n - 1) + k := by omega
    rw [this, Nat.pow_add]; exact (Nat.le_div_iff_mul_le hp).1 h4
theorem zsm (φ : Nat) (v w : Int) (h : 0 ≤ v) (h' : v < 256) (hw : 0 ≤ w) (hw' : w ≤ 64) : ∃ n : Nat, z0s φ v w = some (64 - (w + n), ()) ∧ n ≤ 8 ∧ z5t v.toNat n := by
  obtain ⟨n, e, hn, a, b⟩ := zgj h h'
  have e8 : IntKind.wrap .u8 v = v := by simp [IntKind.wrap, IntKind.bits, IntKind.signed]; omega
  refine ⟨n, ?_, hn, a, fun hv => b (by omega)⟩
  unfold z0s
  rw [e8, z2 ⟨h, h'⟩, e, W_id (x := (n : Int)) (by omega) (by omega), W_id (x := w + n) (by omega) (by omega), W_id (by omega) (by omega)]
theorem sh8 (v : Int) : v.fdiv (2 ^ (min (8 : Int).toNat 64)) = v / 256 := by rw [show ((2 : Int) ^ (min (8 : Int).toNat 64)) = 256 by decide]; exact Int.fdiv_eq_ediv_of_nonneg _ (by omega)
theorem sh16 (v : Int) : v.fdiv (2 ^ (min (16 : Int).toNat 64)) = v / 65536 := by rw [show ((2 : Int) ^ (min (16 : Int).toNat 64)) = 65536 by decide]; exact Int.fdiv_eq_ediv_of_nonneg _ (by omega)
theorem sh32 (v : Int) : v.fdiv (2 ^ (min (32 : Int).toNat 64)) = v / 4294967296 := by rw [show ((2 : Int) ^ (min (32 : Int).toNat 64)) = 4294967296 by decide]; exact Int.fdiv_eq_ediv_of_nonneg _ (by omega)
theorem zx3 (φ : Nat) (v w : Int) (h : 0 ≤ v) (h' : v < 65536) (hw : 0 ≤ w) (hw' : w ≤ 48) : ∃ n : Nat, z13 φ v w = some (64 - (w + n), ()) ∧ n ≤ 16 ∧ z5t v.toNat n := by
  unfold z13
  by_cases c : 256 ≤ v
  · rw [if_pos (by simpa using c), if_pos (by decide), sh8, W_id (by omega) (by omega)]
    obtain ⟨n, e, hn, hl⟩ := zsm φ (v / 256) (w + 8) (by omega) (by omega) (by omega) (by omega)
    refine ⟨n + 8, by rw [e]; congr 2; omega, by omega, ?_⟩
    refine z5t.up 8 ?_ (by omega)
    rwa [show v.toNat / 2 ^ 8 = (v / 256).toNat by omega]
  · rw [if_neg (by simpa using c)]
    obtain ⟨n, e, hn, hl⟩ := zsm φ v w h (by omega) (by omega) (by omega)
    exact ⟨n, e, by omega, hl⟩
theorem zwu (φ : Nat) (v w : Int) (h : 0 ≤ v) (h' : v < 4294967296) (hw : 0 ≤ w) (hw' : w ≤ 32) : ∃ n : Nat, z12 φ v w = some (64 - (w + n), ()) ∧ n ≤ 32 ∧ z5t v.toNat n := by
  unfold z12
  by_cases c : 65536 ≤ v
  · rw [if_pos (by simpa using c), if_pos (by decide), sh16, W_id (by omega) (by omega)]
    obtain ⟨n, e, hn, hl⟩ := zx3 φ (v / 65536) (w + 16) (by omega) (by omega) (by omega) (by omega)
    refine ⟨n + 16, by rw [e]; congr 2; omega, by omega, ?_⟩
    refine z5t.up 16 ?_ (by omega)
    rwa [show v.toNat / 2 ^ 16 = (v / 65536).toNat by omega]
  · rw [if_neg (by simpa using c)]
    obtain ⟨n, e, hn, hl⟩ := zx3 φ v w h (by omega) (by omega) (by omega)
    exact ⟨n, e, by omega, hl⟩
theorem y1o (φ : Nat) (v : Int) (h : 0 ≤ v) (h' : v < 18446744073709551616) : ∃ n : Nat, z27 φ v = some (64 - (n : Int), ()) ∧ n ≤ 64 ∧ z5t v.toNat n := by
  unfold z27
  by_cases c : 4294967296 ≤ v
  · rw [if_pos (by simpa using c), if_pos (by decide), sh32]
    obtain ⟨n, e, hn, hl⟩ := zwu φ (v / 4294967296) 32 (by omega) (by omega) (by omega) (by omega)
    refine ⟨n + 32, by rw [e]; congr 2; omega, by omega, ?_⟩
    refine z5t.up 32 ?_ (by omega)
    rwa [show v.toNat / 2 ^ 32 = (v / 4294967296).toNat by omega]
  · rw [if_neg (by simpa using c)]
    obtain ⟨n, e, hn, hl⟩ := zwu φ v 0 h (by omega) (by omega) (by omega)
    exact ⟨n, by rw [e]; simp, by omega, hl⟩
theorem zg6 {v : Int} (h : 0 ≤ v) (h' : v < 18446744073709551616) : U ((BitVec.ofInt 64 v &&& BitVec.ofInt 64 4294967295).toNat) = v % 4294967296 := by
  show U ((BitVec.ofInt 64 v &&& BitVec.ofInt 64 4294967295).toNat : Int) = _
  rw [BitVec.toNat_and, z60 h h', z60 (by omega) (by omega), zxe (zwk (by omega))]
  have : (4294967295 : Int).toNat = 2 ^ 32 - 1 := by decide
  rw [this, Nat.and_two_pow_sub_one_eq_mod]
  omega
theorem zgl {a b m n : Int} (ha : 0 ≤ a) (hb : 0 ≤ b) (h : a ≤ m) (h' : b ≤ n) : 0 ≤ a * b ∧ a * b ≤ m * n :=
  ⟨Int.mul_nonneg ha hb, Int.mul_le_mul h h' hb (by omega)⟩
theorem zuw (φ : Nat) (x y : Int) (hx : 0 ≤ x) (hx' : x < 18446744073709551616) (hy : 0 ≤ y) (hy' : y < 18446744073709551616) :
    z69 φ x y = some (x * y / 18446744073709551616, x * y % 18446744073709551616, ()) := by
  unfold z69
  simp only [show (0 : Int) ≤ 32 by decide, if_true]
  rw [zg6 hx hx', zg6 hy hy']
  simp only [sh32]
  have ex : x = x / 4294967296 * 4294967296 + x % 4294967296 := by omega
  have ey : y = y / 4294967296 * 4294967296 + y % 4294967296 := by omega
  have a1 : 0 ≤ x / 4294967296 ∧ x / 4294967296 ≤ 4294967295 := by omega
  have a0 : 0 ≤ x % 4294967296 ∧ x % 4294967296 ≤ 4294967295 := by omega
  have b1 : 0 ≤ y / 4294967296 ∧ y / 4294967296 ≤ 4294967295 := by omega
  have b0 : 0 ≤ y % 4294967296 ∧ y % 4294967296 ≤ 4294967295 := by omega
  have hxy : x * y = (x / 4294967296) * (y / 4294967296) * 18446744073709551616 + ((x / 4294967296) * (y % 4294967296) + (x % 4294967296) * (y / 4294967296)) * 4294967296 + (x % 4294967296) * (y % 4294967296) := by
    conv => lhs; rw [ex, ey]
    generalize x / 4294967296 = a; generalize x % 4294967296 = b; generalize y / 4294967296 = c; generalize y % 4294967296 = d
    rw [Int.add_mul, Int.mul_add, Int.mul_add, Int.add_mul]
    have e1 : a * 4294967296 * (c * 4294967296) = a * c * 18446744073709551616 := by
      rw [Int.mul_assoc, Int.mul_left_comm 4294967296 c, ← Int.mul_assoc]; rfl
    have e2 : a * 4294967296 * d = a * d * 4294967296 := by rw [Int.mul_right_comm]
    have e3 : b * (c * 4294967296) = b * c * 4294967296 := by rw [Int.mul_assoc]
    rw [e1, e2, e3]; omega
  have p11 := zgl a1.1 b1.1 a1.2 b1.2
  have p10 := zgl a1.1 b0.1 a1.2 b0.2
  have p01 := zgl a0.1 b1.1 a0.2 b1.2
  have p00 := zgl a0.1 b0.1 a0.2 b0.2
  rw [zpm (x * y), hxy]
  generalize (x / 4294967296) * (y / 4294967296) = p at *; generalize (x / 4294967296) * (y % 4294967296) = q at *
  generalize (x % 4294967296) * (y / 4294967296) = r at *; generalize (x % 4294967296) * (y % 4294967296) = s at *
  clear hxy ex ey a1 a0 b1 b0
  rw [U_id (x := p) (by omega) (by omega), U_id (x := q) (by omega) (by omega), U_id (x := r) (by omega) (by omega), U_id (x := s) (by omega) (by omega)]
  rw [U_id (x := q + s / 4294967296) (by omega) (by omega), zg6 (by omega) (by omega),
    U_id (x := (q + s / 4294967296) % 4294967296 + r) (by omega) (by omega), U_id (x := p + (q + s / 4294967296) / 4294967296) (by omega) (by omega), U_id (by omega) (by omega)]
  refine congrArg some (Prod.ext ?_ rfl)
  show _ = _
  omega
/-- One zzx of the quotient: what the two loops find. -/
theorem zzx {yn1 yn0 u d q r : Int} (h1 : 2147483648 ≤ yn1) (h1' : yn1 < 4294967296) (h0 : 0 ≤ yn0) (h0' : yn0 < 4294967296) (hd : 0 ≤ d) (hd' : d < 4294967296) (hu : 0 ≤ u)
    (hu' : u < yn1 * 4294967296 + yn0) (hqr : q * yn1 + r = u) (hr : 0 ≤ r) (hr' : r < 4294967296) (hq : (u * 4294967296 + d) / (yn1 * 4294967296 + yn0) ≤ q) :
    0 ≤ q ∧ q ≤ 4294967297 ∧ 0 ≤ (u * 4294967296 + d) / (yn1 * 4294967296 + yn0) ∧ (u * 4294967296 + d) / (yn1 * 4294967296 + yn0) < 4294967296 ∧
    (4294967296 ≤ q ∨ 4294967296 * r + d < q * yn0 → (u * 4294967296 + d) / (yn1 * 4294967296 + yn0) ≤ q - 1) ∧
    (¬ (4294967296 ≤ q ∨ 4294967296 * r + d < q * yn0) → q = (u * 4294967296 + d) / (yn1 * 4294967296 + yn0)) ∧
    (4294967296 ≤ q ∨ 4294967296 * r + d < q * yn0 → 4294967296 ≤ r + yn1 → q - 1 = (u * 4294967296 + d) / (yn1 * 4294967296 + yn0)) := by
  have hY : 0 < yn1 * 4294967296 + yn0 := by omega
  have hQ0 : 0 ≤ (u * 4294967296 + d) / (yn1 * 4294967296 + yn0) := Int.ediv_nonneg (by omega) (by omega)
  have hQ1 : (u * 4294967296 + d) / (yn1 * 4294967296 + yn0) < 4294967296 := Int.ediv_lt_of_lt_mul hY (by omega)
  have hq0 : 0 ≤ q := by omega
  have key : q * (yn1 * 4294967296 + yn0) = (u - r) * 4294967296 + q * yn0 := by
    rw [Int.mul_add, ← Int.mul_assoc, ← hqr]; omega
  have hq2 : q ≤ 4294967297 := by
    rcases Int.lt_or_le 4294967297 q with h | h
    · have : 4294967298 * yn1 ≤ q * yn1 := Int.mul_le_mul_of_nonneg_right (by omega) (by omega)
      omega
    · exact h
  have lt_of : ∀ {z : Int}, (u * 4294967296 + d) / (yn1 * 4294967296 + yn0) < z ↔ u * 4294967296 + d < z * (yn1 * 4294967296 + yn0) := fun {z} => Int.ediv_lt_iff_lt_mul hY
  refine ⟨hq0, hq2, hQ0, hQ1, fun h => ?_, fun h => ?_, fun h hr2 => ?_⟩
  · have : (u * 4294967296 + d) / (yn1 * 4294967296 + yn0) < q := by
      rcases h with h | h
      · omega
      · rw [lt_of, key]; omega
    omega
  · have : ¬ (u * 4294967296 + d) / (yn1 * 4294967296 + yn0) < q := by rw [lt_of, key]; omega
    omega
  · have hq1 : (u * 4294967296 + d) / (yn1 * 4294967296 + yn0) < q := by
      rcases h with h | h
      · omega
      · rw [lt_of, key]; omega
    have h2 : ¬ (u * 4294967296 + d) / (yn1 * 4294967296 + yn0) < q - 1 := by
      rw [lt_of]
      have e : (q - 1) * (yn1 * 4294967296 + yn0) = (u - (r + yn1)) * 4294967296 + (q - 1) * yn0 := by
        have : (q - 1) * yn1 + (r + yn1) = u := by rw [Int.sub_mul]; omega
        rw [Int.mul_add, ← Int.mul_assoc, ← this]; omega
      have b := (zgl (by omega : 0 ≤ q - 1) h0 (by omega : q - 1 ≤ 4294967296) (by omega : yn0 ≤ 4294967295)).2
      rw [e]; omega
    omega
theorem mulB {a b : Int} (h : 0 ≤ a) (h' : a < 4294967296) (g : 0 ≤ b) (g' : b < 4294967296) : 0 ≤ a * b ∧ a * b ≤ 18446744065119617025 :=
  zgl h g (by omega : a ≤ 4294967295) (by omega : b ≤ 4294967295)
theorem zhu {ρ : Type} (L : Nat → Int → Int → Option ρ) (k : Int → Option ρ) {yn1 yn0 u d : Int} (h1 : 2147483648 ≤ yn1) (h1' : yn1 < 4294967296) (h0 : 0 ≤ yn0) (h0' : yn0 < 4294967296) (hd : 0 ≤ d) (hd' : d < 4294967296) (hu : 0 ≤ u)
    (hu' : u < yn1 * 4294967296 + yn0)
    (step : ∀ n q r, L (n + 1) q r = if (decide (4294967296 ≤ q) || decide (U (U (4294967296 * r) + d) < U (q * yn0))) = true then (if decide (4294967296 ≤ U (r + yn1)) = true then k (U (q - 1)) else L n (U (q - 1)) (U (r + yn1))) else k q) :
    ∀ (n : Nat) q r, q * yn1 + r = u → 0 ≤ r → r < 4294967296 → (u * 4294967296 + d) / (yn1 * 4294967296 + yn0) ≤ q → 4294967296 - r ≤ 2147483648 * n → L (n + 1) q r = k ((u * 4294967296 + d) / (yn1 * 4294967296 + yn0)) := by
  intro n
  induction n with
  | zero => intro q r _ _ _ _ h; omega
  | succ n ih =>
    intro q r hqr hr hr' hq hn
    obtain ⟨g0, g1, g2, g3, g4, g5, g6⟩ := zzx h1 h1' h0 h0' hd hd' hu hu' hqr hr hr' hq
    have hc : (decide (4294967296 ≤ q) || decide (U (U (4294967296 * r) + d) < U (q * yn0))) = true ↔ (4294967296 ≤ q ∨ 4294967296 * r + d < q * yn0) := by
      rw [Bool.or_eq_true, decide_eq_true_eq, decide_eq_true_eq]
      by_cases hqB : 4294967296 ≤ q
      · simp [hqB]
      · have := mulB g0 (by omega : q < 4294967296) h0 h0'
        rw [U_id (x := 4294967296 * r) (by omega) (by omega), U_id (by omega) (by omega), U_id (by omega) (by omega)]
    rw [step]
    by_cases c : 4294967296 ≤ q ∨ 4294967296 * r + d < q * yn0
    · have a4 := g4 c
      rw [if_pos (hc.2 c), U_id (x := r + yn1) (by omega) (by omega), U_id (x := q - 1) (by omega) (by omega)]
      by_cases e : 4294967296 ≤ r + yn1
      · rw [if_pos (by simpa using e), g6 c e]
      · rw [if_neg (by simpa using e)]
        exact ih _ _ (by rw [Int.sub_mul]; omega) (by omega) (by omega) a4 (by omega)
    · rw [if_neg (fun h => c (hc.1 h)), ← g5 c]
/-- The first guess. -/
theorem zhd {yn1 yn0 u d : Int} (h1 : 2147483648 ≤ yn1) (h1' : yn1 < 4294967296) (h0 : 0 ≤ yn0) (h0' : yn0 < 4294967296) (hd : 0 ≤ d) (hd' : d < 4294967296) (hu : 0 ≤ u)
    (hu' : u < yn1 * 4294967296 + yn0) : U (u.tdiv yn1) = u / yn1 ∧ U (u - U (U (u.tdiv yn1) * yn1)) = u % yn1 ∧ u / yn1 * yn1 + u % yn1 = u ∧ 0 ≤ u % yn1 ∧ u % yn1 < 4294967296 ∧
    (u * 4294967296 + d) / (yn1 * 4294967296 + yn0) ≤ u / yn1 := by
  have e1 : u.tdiv yn1 = u / yn1 := Int.tdiv_eq_ediv_of_nonneg hu
  have hdm : u / yn1 * yn1 + u % yn1 = u := by have := Int.ediv_mul_add_emod u yn1; exact this
  have hm0 := Int.emod_nonneg u (by omega : yn1 ≠ 0)
  have hm1 := Int.emod_lt_of_pos u (by omega : 0 < yn1)
  have hq0 : 0 ≤ u / yn1 := Int.ediv_nonneg hu (by omega)
  have hq1 : u / yn1 ≤ u := Int.ediv_le_self _ hu
  have hqm : 0 ≤ u / yn1 * yn1 := Int.mul_nonneg hq0 (by omega)
  rw [e1, U_id hq0 (by omega), U_id (x := u / yn1 * yn1) (by omega) (by omega), U_id (by omega) (by omega)]
  refine ⟨rfl, by omega, hdm, hm0, by omega, ?_⟩
  have hY : 0 < yn1 * 4294967296 + yn0 := by omega
  have hQ0 : 0 ≤ (u * 4294967296 + d) / (yn1 * 4294967296 + yn0) := Int.ediv_nonneg (by omega) (by omega)
  have hQ := Int.ediv_mul_le (u * 4294967296 + d) (b := yn1 * 4294967296 + yn0) (by omega)
  generalize (u * 4294967296 + d) / (yn1 * 4294967296 + yn0) = z at *
  rw [Int.mul_add, ← Int.mul_assoc] at hQ
  have := Int.mul_nonneg hQ0 h0
  exact (Int.le_ediv_iff_mul_le (by omega)).2 (by omega)
theorem zwz (a b c : Int) : U (U (U a + b) - U c) = U (a + b - c) := by
  simp only [zpm]; omega
theorem y0m {a b : Int} {s : Nat} (hs : s ≤ 63) (ha : 0 ≤ a) (h : a * 2 ^ s < 18446744073709551616) (hb : 0 ≤ b) (hb' : b < 2 ^ s) :
    U ((BitVec.ofInt 64 (U (a * 2 ^ s)) ||| BitVec.ofInt 64 b).toNat) = a * 2 ^ s + b := by
  have hp : (0 : Int) < 2 ^ s := Int.pow_pos (by decide)
  have hn := Int.mul_nonneg ha (Int.le_of_lt hp)
  have hp2 : (2 : Int) ^ s = ((2 ^ s : Nat) : Int) := by simp
  have hlt : (2 ^ s : Nat) < 18446744073709551616 := zvn hs
  rw [U_id hn (by omega)]
  show U ((BitVec.ofInt 64 (a * 2 ^ s) ||| BitVec.ofInt 64 b).toNat : Int) = _
  have hlt2 := (BitVec.ofInt 64 (a * 2 ^ s) ||| BitVec.ofInt 64 b).isLt
  rw [zxe (by omega), BitVec.toNat_or, z60 hn h, z60 hb (by omega)]
  obtain ⟨n, rfl⟩ := Int.eq_ofNat_of_zero_le ha
  obtain ⟨m, rfl⟩ := Int.eq_ofNat_of_zero_le hb
  have e : ((n : Int) * 2 ^ s).toNat = 2 ^ s * n := by rw [hp2, ← Int.natCast_mul, Int.toNat_natCast, Nat.mul_comm]
  rw [e, Int.toNat_natCast, ← Nat.two_pow_add_eq_or_of_lt (by rw [hp2] at hb'; omega)]
  simp [Int.mul_comm]
theorem zdf (φ : Nat) (v : Int) (h : 0 < v) (h' : v < 18446744073709551616) : ∃ s : Nat, z27 φ v = some ((s : Int), ()) ∧ s ≤ 63 ∧
    9223372036854775808 ≤ v * 2 ^ s ∧ v * 2 ^ s < 18446744073709551616 ∧ v ≤ 2 ^ (64 - s) := by
  obtain ⟨n, e, hn, h1, h2⟩ := y1o φ v (by omega) h'
  obtain ⟨h3, h4⟩ := h2 (by omega)
  refine ⟨64 - n, ?_, by omega, ?_, ?_, ?_⟩
  · rw [e]; congr 2; omega
  · have : 2 ^ (n - 1) * 2 ^ (64 - n) ≤ v.toNat * 2 ^ (64 - n) := Nat.mul_le_mul_right _ h4
    rw [← Nat.pow_add, show n - 1 + (64 - n) = 63 by omega] at this
    have e2 : ((v.toNat * 2 ^ (64 - n) : Nat) : Int) = v * 2 ^ (64 - n) := by
      rw [Int.natCast_mul, Int.natCast_pow]; congr 1; omega
    omega
  · have : v.toNat * 2 ^ (64 - n) < 2 ^ n * 2 ^ (64 - n) := Nat.mul_lt_mul_of_pos_right h1 (Nat.two_pow_pos _)
    rw [← Nat.pow_add, show n + (64 - n) = 64 by omega] at this
    have e2 : ((v.toNat * 2 ^ (64 - n) : Nat) : Int) = v * 2 ^ (64 - n) := by
      rw [Int.natCast_mul, Int.natCast_pow]; congr 1; omega
    omega
  · rw [show 64 - (64 - n) = n by omega]
    have e2 : ((2 ^ n : Nat) : Int) = (2 : Int) ^ n := by simp
    omega
theorem zvl (φ : Nat) (hφ : 5 < φ) (hi lo y : Int) (h0 : 0 ≤ hi) (hy : hi < y) (hy' : y < 18446744073709551616) (hl : 0 ≤ lo) (hl' : lo < 18446744073709551616) :
    z4w φ hi lo y = some ((hi * 18446744073709551616 + lo) / y, (hi * 18446744073709551616 + lo) % y, ()) := by
  unfold z4w
  rw [if_neg (by simp; omega), if_neg (by simp; omega)]
  by_cases hz : hi = 0
  · subst hz
    rw [if_pos (by simp), z2 (by omega), z2 (by omega), Int.tdiv_eq_ediv_of_nonneg hl, Int.tmod_eq_emod_of_nonneg hl, U_id (Int.ediv_nonneg hl (by omega)) (by have := Int.ediv_le_self y hl; omega)]
    simp
  rw [if_neg (by simpa using hz)]
  obtain ⟨s, es, hs, hY1, hY2, hyP⟩ := zdf φ y (by omega) hy'
  have em1 : min (s : Int).toNat 64 = s := by omega
  have em2 : min (64 - (s : Int)).toNat 64 = 64 - s := by omega
  have hp : (0 : Int) < 2 ^ s := Int.pow_pos (by decide)
  have hP : (0 : Int) < 2 ^ (64 - s) := Int.pow_pos (by decide)
  have hpP : (2 : Int) ^ s * 2 ^ (64 - s) = 18446744073709551616 := by rw [← Int.pow_add, show s + (64 - s) = 64 by omega]; rfl
  have hhp : hi * 2 ^ s < y * 2 ^ s := Int.mul_lt_mul_of_pos_right hy hp
  have hlP0 : 0 ≤ lo / 2 ^ (64 - s) := Int.ediv_nonneg hl (by omega)
  have hlP1 : lo / 2 ^ (64 - s) < 2 ^ s := Int.ediv_lt_of_lt_mul hP (by omega)
  have hh0 : 0 ≤ hi * 2 ^ s := Int.mul_nonneg h0 (by omega)
  -- the low word
  have hlo10 : U (lo * 2 ^ s) = lo % 2 ^ (64 - s) * 2 ^ s := by
    have e : lo = lo / 2 ^ (64 - s) * 2 ^ (64 - s) + lo % 2 ^ (64 - s) := (Int.ediv_mul_add_emod lo _).symm
    have e2 : lo * 2 ^ s = lo / 2 ^ (64 - s) * 18446744073709551616 + lo % 2 ^ (64 - s) * 2 ^ s := by
      conv => lhs; rw [e]
      rw [Int.add_mul, Int.mul_assoc, Int.mul_comm (2 ^ (64 - s)), hpP]
    have m0 := Int.emod_nonneg lo (by omega : (2 : Int) ^ (64 - s) ≠ 0)
    have m1 := Int.emod_lt_of_pos lo hP
    have m2 : lo % 2 ^ (64 - s) * 2 ^ s < 2 ^ (64 - s) * 2 ^ s := Int.mul_lt_mul_of_pos_right m1 hp
    have m3 := Int.mul_nonneg m0 (Int.le_of_lt hp)
    rw [Int.mul_comm (2 ^ (64 - s))] at m2
    rw [e2, zpm]; omega
  have hN : (hi * 2 ^ s + lo / 2 ^ (64 - s)) * 18446744073709551616 + lo % 2 ^ (64 - s) * 2 ^ s = (hi * 18446744073709551616 + lo) * 2 ^ s := by
    have e : lo = lo / 2 ^ (64 - s) * 2 ^ (64 - s) + lo % 2 ^ (64 - s) := (Int.ediv_mul_add_emod lo _).symm
    have e2 : lo * 2 ^ s = lo / 2 ^ (64 - s) * 18446744073709551616 + lo % 2 ^ (64 - s) * 2 ^ s := by
      conv => lhs; rw [e]
      rw [Int.add_mul, Int.mul_assoc, Int.mul_comm (2 ^ (64 - s)), hpP]
    have e3 : (hi * 18446744073709551616 + lo) * 2 ^ s = hi * 2 ^ s * 18446744073709551616 + lo * 2 ^ s := by rw [Int.add_mul, Int.mul_right_comm]
    rw [e3, e2]; omega
  have hun0 : 0 ≤ lo % 2 ^ (64 - s) * 2 ^ s := Int.mul_nonneg (Int.emod_nonneg lo (by omega)) (by omega)
  have hun1 : lo % 2 ^ (64 - s) * 2 ^ s < 18446744073709551616 := by
    rw [← hlo10, zpm]; omega
  have hu' : hi * 2 ^ s + lo / 2 ^ (64 - s) < y * 2 ^ s := by
    have : (hi + 1) * 2 ^ s ≤ y * 2 ^ s := Int.mul_le_mul_of_nonneg_right (by omega) (by omega)
    rw [Int.add_mul] at this; omega
  have hs1 : U (s : Int) = s := U_id (by omega) (by omega)
  have hs2 : U (64 - (s : Int)) = 64 - (s : Int) := U_id (by omega) (by omega)
  have ef : lo.fdiv (2 ^ (64 - s)) = lo / 2 ^ (64 - s) := Int.fdiv_eq_ediv_of_nonneg _ (by omega)
  have eor := y0m hs h0 (by omega : hi * 2 ^ s < 18446744073709551616) hlP0 hlP1
  obtain ⟨Y, hYd⟩ : ∃ Y, Y = y * 2 ^ s := ⟨_, rfl⟩
  have eY : U (y * 2 ^ s) = Y := by rw [hYd]; exact U_id (by omega) (by omega)
  obtain ⟨u, hud⟩ : ∃ u, u = hi * 2 ^ s + lo / 2 ^ (64 - s) := ⟨_, rfl⟩
  obtain ⟨w, hwd⟩ : ∃ w, w = lo % 2 ^ (64 - s) * 2 ^ s := ⟨_, rfl⟩
  rw [← hwd] at hlo10 hN hun0 hun1
  rw [← hud] at hN hu' eor
  rw [← hYd] at hu' hY1 hY2 hhp
  have hu0 : 0 ≤ u := by omega
  have fY : Y.fdiv 4294967296 = Y / 4294967296 := Int.fdiv_eq_ediv_of_nonneg _ (by omega)
  have fw : w.fdiv 4294967296 = w / 4294967296 := Int.fdiv_eq_ediv_of_nonneg _ (by omega)
  have mY := zg6 (v := Y) (by omega) (by omega)
  have mw := zg6 (v := w) (by omega) (by omega)
  have b1 : 2147483648 ≤ Y / 4294967296 ∧ Y / 4294967296 < 4294967296 ∧ 0 ≤ Y % 4294967296 ∧ Y % 4294967296 < 4294967296 := by omega
  have b2 : 0 ≤ w / 4294967296 ∧ w / 4294967296 < 4294967296 ∧ 0 ≤ w % 4294967296 ∧ w % 4294967296 < 4294967296 := by omega
  have eYs : Y / 4294967296 * 4294967296 + Y % 4294967296 = Y := by omega
  obtain ⟨m, rfl⟩ : ∃ m, φ = m + 3 := ⟨φ - 3, by omega⟩
  rw [es]
  simp only [Option.bind_some, hs1, hs2, em1, em2, sh32, eY, hlo10, mY, mw, ef, eor, show (0 : Int) ≤ 32 by decide, if_true]
  rw [z2 (by omega), z2 (by omega), z2 (by omega), z2 (by omega), z2 (by omega)]
  obtain ⟨i1, i2, i3, i4, i5, i6⟩ := zhd (u := u) (d := w / 4294967296) b1.1 b1.2.1 b1.2.2.1 b1.2.2.2 b2.1 b2.2.1 hu0 (by omega)
  rw [i1] at i2 ⊢
  rw [i2]
  refine (zhu (fun n q r => z42 (m + 3) n Y s (Y / 4294967296) (Y % 4294967296) u (w / 4294967296) (w % 4294967296) q r) (fun q => z47 (m + 3) Y s (Y / 4294967296) (Y % 4294967296) u (w / 4294967296) (w % 4294967296) q)
    b1.1 b1.2.1 b1.2.2.1 b1.2.2.2 b2.1 b2.2.1 hu0 (by omega) (fun n q r => by rw [z42]) (m + 2) _ _ i3 i4 i5 i6 (by omega)).trans ?_
  rw [eYs]
  unfold z47
  rw [z2 (by omega)]
  have hQ1 : 0 ≤ (u * 4294967296 + w / 4294967296) / Y ∧ (u * 4294967296 + w / 4294967296) / Y < 4294967296 := ⟨Int.ediv_nonneg (by omega) (by omega), Int.ediv_lt_of_lt_mul (by omega) (by omega)⟩
  have hR1 := Int.ediv_mul_add_emod (u * 4294967296 + w / 4294967296) Y
  have hR1a := Int.emod_nonneg (u * 4294967296 + w / 4294967296) (by omega : Y ≠ 0)
  have hR1b := Int.emod_lt_of_pos (u * 4294967296 + w / 4294967296) (by omega : 0 < Y)
  generalize (u * 4294967296 + w / 4294967296) / Y = q1 at *
  generalize (u * 4294967296 + w / 4294967296) % Y = r1 at *
  have eu21 : U (U (U (u * 4294967296) + w / 4294967296) - U (q1 * Y)) = r1 := by
    rw [zwz, show u * 4294967296 + w / 4294967296 - q1 * Y = r1 by omega]; exact U_id hR1a (by omega)
  rw [eu21]
  obtain ⟨j1, j2, j3, j4, j5, j6⟩ := zhd (u := r1) (d := w % 4294967296) b1.1 b1.2.1 b1.2.2.1 b1.2.2.2 b2.2.2.1 b2.2.2.2 hR1a (by omega)
  rw [j1] at j2 ⊢
  rw [j2]
  refine (zhu (fun n q r => z4b (m + 3) n Y s (Y / 4294967296) (Y % 4294967296) (w % 4294967296) q1 r r1 q) (fun q => z43 (m + 3) Y s (w % 4294967296) q1 r1 q)
    b1.1 b1.2.1 b1.2.2.1 b1.2.2.2 b2.2.2.1 b2.2.2.2 hR1a (by omega) (fun n q r => by rw [z4b]) (m + 2) _ _ j3 j4 j5 j6 (by omega)).trans ?_
  rw [eYs]
  unfold z43
  rw [em1, z2 (by omega)]
  have hQ0 : 0 ≤ (r1 * 4294967296 + w % 4294967296) / Y ∧ (r1 * 4294967296 + w % 4294967296) / Y < 4294967296 := ⟨Int.ediv_nonneg (by omega) (by omega), Int.ediv_lt_of_lt_mul (by omega) (by omega)⟩
  have hR0 := Int.ediv_mul_add_emod (r1 * 4294967296 + w % 4294967296) Y
  have hR0a := Int.emod_nonneg (r1 * 4294967296 + w % 4294967296) (by omega : Y ≠ 0)
  have hR0b := Int.emod_lt_of_pos (r1 * 4294967296 + w % 4294967296) (by omega : 0 < Y)
  generalize (r1 * 4294967296 + w % 4294967296) / Y = q0 at *
  generalize (r1 * 4294967296 + w % 4294967296) % Y = r0 at *
  rw [zwz, show r1 * 4294967296 + w % 4294967296 - q0 * Y = r0 by omega, U_id (x := r0) hR0a (by omega), U_id (x := q1 * 4294967296) (by omega) (by omega), U_id (by omega) (by omega), Int.fdiv_eq_ediv_of_nonneg _ (by omega)]
  have hall : (hi * 18446744073709551616 + lo - (q1 * 4294967296 + q0) * y) * 2 ^ s = r0 := by
    rw [Int.sub_mul, ← hN, Int.mul_assoc, ← hYd, Int.add_mul, Int.mul_right_comm]; omega
  have hz0 : 0 ≤ hi * 18446744073709551616 + lo - (q1 * 4294967296 + q0) * y := by
    rcases Int.lt_or_le (hi * 18446744073709551616 + lo - (q1 * 4294967296 + q0) * y) 0 with h | h
    · have := Int.mul_neg_of_neg_of_pos h hp; omega
    · exact h
  have hz1 : hi * 18446744073709551616 + lo - (q1 * 4294967296 + q0) * y < y := by
    refine Int.lt_of_mul_lt_mul_right (a := 2 ^ s) ?_ (by omega)
    rw [hall, ← hYd]; exact hR0b
  have hr0 : r0 / 2 ^ s = hi * 18446744073709551616 + lo - (q1 * 4294967296 + q0) * y := by
    rw [← hall]; exact Int.mul_ediv_cancel _ (by omega)
  have hdm : (hi * 18446744073709551616 + lo) / y = q1 * 4294967296 + q0 ∧ (hi * 18446744073709551616 + lo) % y = hi * 18446744073709551616 + lo - (q1 * 4294967296 + q0) * y :=
    (Int.ediv_emod_unique (by omega)).2 ⟨by rw [Int.mul_comm y]; omega, hz0, hz1⟩
  rw [hr0, hdm.1, hdm.2]
end Px
end
section
namespace Px
open Go
set_option linter.unusedVariables false
set_option linter.unusedSimpArgs false
set_option maxRecDepth 100000
def PP : Nat := 2305843009213690799
def QQ : Nat := 1152921504606845399
/-- A power modulo the prime. -/
def pw (b n : Nat) : Nat := b ^ n % PP
theorem ztu (b n : Nat) : pw b n < PP := Nat.mod_lt _ (by decide)
theorem zzf (b : Nat) : pw b 0 = 1 := by simp [pw, PP]
theorem zwq (b m n : Nat) : pw b m * pw b n % PP = pw b (m + n) := by
  unfold pw; rw [Nat.pow_add, ← Nat.mul_mod]
theorem zzl (b : Nat) : pw b 1 = b % PP := by simp [pw]
theorem zzw {a : Nat} (h : a < PP) : ((a : Int)).tmod 2305843009213690799 = (a : Int) := by
  unfold PP at h
  rw [Int.tmod_eq_emod_of_nonneg (by omega)]; omega
theorem zzi (b : Nat) : ((b : Int)).tmod 2305843009213690799 = ((b % PP : Nat) : Int) := by
  rw [Int.tmod_eq_emod_of_nonneg (by omega)]; unfold PP; omega
theorem zro {ρ : Type} {a b : Nat} (ha : a < PP) (hb : b < PP) (φ : Nat) (hφ : 5 < φ) (K : Int → Option ρ) : ((z69 φ (a : Int) (b : Int)).bind fun y => (z4w φ y.1 y.2.1 2305843009213690799).bind fun z => K z.2.1) = K ((a * b % PP : Nat) : Int) := by
  have ha' : (a : Int) < 2305843009213690799 := by unfold PP at ha; omega
  have hb' : (b : Int) < 2305843009213690799 := by unfold PP at hb; omega
  have hp := zgl (by omega : 0 ≤ (a : Int)) (by omega : 0 ≤ (b : Int)) (by omega : (a : Int) ≤ 2305843009213690798) (by omega : (b : Int) ≤ 2305843009213690798)
  rw [zuw φ _ _ (by omega) (by omega) (by omega) (by omega), Option.bind_some]
  generalize hz : (a : Int) * (b : Int) = z at *
  show (z4w φ (z / 18446744073709551616) (z % 18446744073709551616) 2305843009213690799).bind _ = _
  rw [zvl φ hφ _ _ _ (by omega) (by omega) (by omega) (by omega) (by omega), Option.bind_some]
  congr 1
  have : z / 18446744073709551616 * 18446744073709551616 + z % 18446744073709551616 = z := by omega
  show (z / 18446744073709551616 * 18446744073709551616 + z % 18446744073709551616) % 2305843009213690799 = _
  rw [this, ← hz, Int.natCast_emod, Int.natCast_mul]; rfl
theorem z5t.uniq {v m n : Nat} (hv : 0 < v) (h : z5t v m) (k : z5t v n) : m = n := by
  obtain ⟨h1, h2⟩ := h
  obtain ⟨k1, k2⟩ := k
  obtain ⟨h3, h4⟩ := h2 hv
  obtain ⟨k3, k4⟩ := k2 hv
  have a : m - 1 < n := (Nat.pow_lt_pow_iff_right (by decide : 1 < 2)).1 (Nat.lt_of_le_of_lt h4 k1)
  have b : n - 1 < m := (Nat.pow_lt_pow_iff_right (by decide : 1 < 2)).1 (Nat.lt_of_le_of_lt k4 h1)
  omega
section first
variable (φ : Nat) (b n a p : Int)
theorem zrt (v w : Int) (h : 0 ≤ v) (h' : v < 256) (hw : 0 ≤ w) (hw' : w ≤ 64) : ∃ m : Nat, z6q φ v w b n a p = z06 φ φ b n a (w + m) 0 p ∧ m ≤ 8 ∧ z5t v.toNat m := by
  obtain ⟨m, e, hm, x, y⟩ := zgj h h'
  have e8 : IntKind.wrap .u8 v = v := by simp [IntKind.wrap, IntKind.bits, IntKind.signed]; omega
  refine ⟨m, ?_, hm, x, fun hv => y (by omega)⟩
  unfold z6q
  rw [e8, z2 ⟨h, h'⟩, e, W_id (x := (m : Int)) (by omega) (by omega), W_id (x := w + m) (by omega) (by omega)]
theorem zt5 (v w : Int) (h : 0 ≤ v) (h' : v < 65536) (hw : 0 ≤ w) (hw' : w ≤ 48) : ∃ m : Nat, z6o φ v w b n a p = z06 φ φ b n a (w + m) 0 p ∧ m ≤ 16 ∧ z5t v.toNat m := by
  unfold z6o
  by_cases c : 256 ≤ v
  · rw [if_pos (by simpa using c), if_pos (by decide), sh8, W_id (by omega) (by omega)]
    obtain ⟨m, e, hn, hl⟩ := zrt φ b n a p (v / 256) (w + 8) (by omega) (by omega) (by omega) (by omega)
    refine ⟨m + 8, by rw [e]; congr 1; omega, by omega, ?_⟩
    refine z5t.up 8 ?_ (by omega)
    rwa [show v.toNat / 2 ^ 8 = (v / 256).toNat by omega]
  · rw [if_neg (by simpa using c)]
    obtain ⟨m, e, hn, hl⟩ := zrt φ b n a p v w h (by omega) (by omega) (by omega)
    exact ⟨m, e, by omega, hl⟩
theorem zxa (v w : Int) (h : 0 ≤ v) (h' : v < 4294967296) (hw : 0 ≤ w) (hw' : w ≤ 32) : ∃ m : Nat, z7p φ v w b n a p = z06 φ φ b n a (w + m) 0 p ∧ m ≤ 32 ∧ z5t v.toNat m := by
  unfold z7p
  by_cases c : 65536 ≤ v
  · rw [if_pos (by simpa using c), if_pos (by decide), sh16, W_id (by omega) (by omega)]
    obtain ⟨m, e, hn, hl⟩ := zt5 φ b n a p (v / 65536) (w + 16) (by omega) (by omega) (by omega) (by omega)
    refine ⟨m + 16, by rw [e]; congr 1; omega, by omega, ?_⟩
    refine z5t.up 16 ?_ (by omega)
    rwa [show v.toNat / 2 ^ 16 = (v / 65536).toNat by omega]
  · rw [if_neg (by simpa using c)]
    obtain ⟨m, e, hn, hl⟩ := zt5 φ b n a p v w h (by omega) (by omega) (by omega)
    exact ⟨m, e, by omega, hl⟩
end first
/-- A step of the loop, once the length is known. -/
def zej (φ : Nat) (k : Int → Int → Int → Int → Int → Int → Option (Int × Unit)) (L x57 x58 x59 x60 x61 x62 x63 x64 : Int) : Option (Int × Unit) :=
  ck (0 ≤ (W ((W (L - 1)) - x60))) (if (((U ((BitVec.ofInt 64 ((x63 : Int).fdiv (2 ^ (min ((W ((W (L - 1)) - x60)) : Int).toNat 64))) &&& BitVec.ofInt 64 1).toNat)) : Int) == 1) = true then (ck (x64 ≠ 0) (ck (x64 ≠ 0) ((z69 φ ((x59 : Int).tmod x64) ((x57 : Int).tmod x64)).bind fun y66 => ((z4w φ y66.1 y66.2.1 x64).bind fun y67 => (k x57 x58 y67.2.1 x61 (W (x62 + 1)) x64))))) else (k x57 x58 x59 x61 (W (x62 + 1)) x64))
section second
variable (φ : Nat) (k : Int → Int → Int → Int → Int → Int → Option (Int × Unit)) (x57 x58 x59 x60 x61 x62 x63 x64 : Int)
theorem zsx (v w : Int) (h : 0 ≤ v) (h' : v < 256) (hw : 0 ≤ w) (hw' : w ≤ 64) : ∃ m : Nat, z6m φ k v w x57 x58 x59 x60 x61 x62 x63 x64 = zej φ k (w + m) x57 x58 x59 x60 x61 x62 x63 x64 ∧ m ≤ 8 ∧ z5t v.toNat m := by
  obtain ⟨m, e, hm, x, y⟩ := zgj h h'
  have e8 : IntKind.wrap .u8 v = v := by simp [IntKind.wrap, IntKind.bits, IntKind.signed]; omega
  refine ⟨m, ?_, hm, x, fun hv => y (by omega)⟩
  unfold z6m zej
  rw [e8, z2 ⟨h, h'⟩, e, W_id (x := (m : Int)) (by omega) (by omega), W_id (x := w + m) (by omega) (by omega)]
theorem zu5 (v w : Int) (h : 0 ≤ v) (h' : v < 65536) (hw : 0 ≤ w) (hw' : w ≤ 48) : ∃ m : Nat, z6l φ k v w x57 x58 x59 x60 x61 x62 x63 x64 = zej φ k (w + m) x57 x58 x59 x60 x61 x62 x63 x64 ∧ m ≤ 16 ∧ z5t v.toNat m := by
  unfold z6l
  by_cases c : 256 ≤ v
  · rw [if_pos (by simpa using c), if_pos (by decide), sh8, W_id (by omega) (by omega)]
    obtain ⟨m, e, hn, hl⟩ := zsx φ k x57 x58 x59 x60 x61 x62 x63 x64 (v / 256) (w + 8) (by omega) (by omega) (by omega) (by omega)
    refine ⟨m + 8, by rw [e]; congr 1; omega, by omega, ?_⟩
    refine z5t.up 8 ?_ (by omega)
    rwa [show v.toNat / 2 ^ 8 = (v / 256).toNat by omega]
  · rw [if_neg (by simpa using c)]
    obtain ⟨m, e, hn, hl⟩ := zsx φ k x57 x58 x59 x60 x61 x62 x63 x64 v w h (by omega) (by omega) (by omega)
    exact ⟨m, e, by omega, hl⟩
theorem zth (v w : Int) (h : 0 ≤ v) (h' : v < 4294967296) (hw : 0 ≤ w) (hw' : w ≤ 32) : ∃ m : Nat, z2m φ k v w x57 x58 x59 x60 x61 x62 x63 x64 = zej φ k (w + m) x57 x58 x59 x60 x61 x62 x63 x64 ∧ m ≤ 32 ∧ z5t v.toNat m := by
  unfold z2m
  by_cases c : 65536 ≤ v
  · rw [if_pos (by simpa using c), if_pos (by decide), sh16, W_id (by omega) (by omega)]
    obtain ⟨m, e, hn, hl⟩ := zu5 φ k x57 x58 x59 x60 x61 x62 x63 x64 (v / 65536) (w + 16) (by omega) (by omega) (by omega) (by omega)
    refine ⟨m + 16, by rw [e]; congr 1; omega, by omega, ?_⟩
    refine z5t.up 16 ?_ (by omega)
    rwa [show v.toNat / 2 ^ 16 = (v / 65536).toNat by omega]
  · rw [if_neg (by simpa using c)]
    obtain ⟨m, e, hn, hl⟩ := zu5 φ k x57 x58 x59 x60 x61 x62 x63 x64 v w h (by omega) (by omega) (by omega)
    exact ⟨m, e, by omega, hl⟩
theorem y0y (v : Int) (h : 0 ≤ v) (h' : v < 18446744073709551616) : ∃ m : Nat, (if (decide ((4294967296 : Int) ≤ v)) = true then (if 0 ≤ (32 : Int) then (z2m φ k (((v : Int).fdiv (2 ^ (min (32 : Int).toNat 64)))) 32 x57 x58 x59 x60 x61 x62 x63 x64) else none) else (z2m φ k v 0 x57 x58 x59 x60 x61 x62 x63 x64)) =
    zej φ k m x57 x58 x59 x60 x61 x62 x63 x64 ∧ m ≤ 64 ∧ z5t v.toNat m := by
  by_cases c : 4294967296 ≤ v
  · rw [if_pos (by simpa using c), if_pos (by decide), sh32]
    obtain ⟨m, e, hn, hl⟩ := zth φ k x57 x58 x59 x60 x61 x62 x63 x64 (v / 4294967296) 32 (by omega) (by omega) (by omega) (by omega)
    refine ⟨m + 32, by rw [e]; congr 1; omega, by omega, ?_⟩
    refine z5t.up 32 ?_ (by omega)
    rwa [show v.toNat / 2 ^ 32 = (v / 4294967296).toNat by omega]
  · rw [if_neg (by simpa using c)]
    obtain ⟨m, e, hn, hl⟩ := zth φ k x57 x58 x59 x60 x61 x62 x63 x64 v 0 h (by omega) (by omega) (by omega)
    exact ⟨m, by rw [e]; simp, by omega, hl⟩
end second
theorem znb (φ : Nat) (hφ : 100 < φ) (b n : Nat) (hn0 : 0 < n) (hn : n < 18446744073709551616) : zcu φ (b : Int) (n : Int) = some (((pw b n : Nat) : Int), ()) := by
  have hstart : ∃ L : Nat, zcu φ (b : Int) (n : Int) = z06 φ φ b n 1 L 0 2305843009213690799 ∧ L ≤ 64 ∧ z5t n L := by
    unfold zcu
    by_cases c : (4294967296 : Int) ≤ n
    · rw [if_pos (by simpa using c), if_pos (by decide), sh32]
      obtain ⟨m, e, hm, hl⟩ := zxa φ b n 1 2305843009213690799 ((n : Int) / 4294967296) 32 (by omega) (by omega) (by omega) (by omega)
      refine ⟨m + 32, by rw [e]; congr 1; omega, by omega, ?_⟩
      refine z5t.up 32 ?_ (by omega)
      rwa [show n / 2 ^ 32 = ((n : Int) / 4294967296).toNat by omega]
    · rw [if_neg (by simpa using c)]
      obtain ⟨m, e, hm, hl⟩ := zxa φ b n 1 2305843009213690799 (n : Int) 0 (by omega) (by omega) (by omega) (by omega)
      exact ⟨m, by rw [e]; simp, by omega, by rwa [Int.toNat_natCast] at hl⟩
  obtain ⟨L, e0, hL, hlen⟩ := hstart
  rw [e0]
  obtain ⟨h1, h2⟩ := hlen
  refine zm (fun k i v => z06 φ k (b : Int) (n : Int) v (L : Int) i 2305843009213690799) L (fun i v => v = ((pw b (n / 2 ^ (L - i)) : Nat) : Int)) (fun o => o = some (((pw b n : Nat) : Int), ())) ?_ ?_ φ 1 ?_ (by omega)
  · intro k i v hi hv hs
    rw [z06, if_pos (by simp; omega), z2 (by decide), z2 (by decide)]
    subst hv
    rw [zzw (ztu _ _)]
    refine (zro (ztu _ _) (ztu _ _) φ (by omega) (fun z => (if (decide ((4294967296 : Int) ≤ (n : Int))) = true then (if 0 ≤ (32 : Int) then (z2m φ (z06 φ k) ((((n : Int) : Int).fdiv (2 ^ (min (32 : Int).toNat 64)))) 32 b n z i L i n 2305843009213690799) else none) else (z2m φ (z06 φ k) n 0 b n z i L i n 2305843009213690799)))).trans ?_
    rw [zwq]
    obtain ⟨m, em, hm, hl⟩ := y0y φ (z06 φ k) b n ((pw b (n / 2 ^ (L - i) + n / 2 ^ (L - i)) : Nat) : Int) i L i n 2305843009213690799 (n : Int) (by omega) (by omega)
    refine em.trans ?_
    rw [Int.toNat_natCast] at hl
    have := z5t.uniq hn0 hl ⟨h1, h2⟩
    subst this
    unfold zej
    have hw1 : W ((m : Int) - 1) = (m : Int) - 1 := W_id (by omega) (by omega)
    have hw2 : W ((m : Int) - 1 - (i : Int)) = ((m - 1 - i : Nat) : Int) := by rw [W_id (by omega) (by omega)]; omega
    rw [hw1, hw2, z2 (by omega)]
    have hsh := zzj (c := (n : Int)) (k := ((m - 1 - i : Nat) : Int)) (by omega) (by omega) (by omega)
    have hone : U ((BitVec.ofInt 64 ((n : Int).fdiv (2 ^ (min (((m - 1 - i : Nat) : Int)).toNat 64))) &&& BitVec.ofInt 64 1).toNat) = ((n / 2 ^ (m - 1 - i) % 2 : Nat) : Int) := by
      rw [show ((n : Int).fdiv (2 ^ (min (((m - 1 - i : Nat) : Int)).toNat 64))) = _ from hsh, Int.toNat_natCast, Int.toNat_natCast]
      have hd : n / 2 ^ (m - 1 - i) ≤ n := Nat.div_le_self _ _
      rw [BitVec.toNat_and, z60 (Int.natCast_nonneg _) (by omega), z60 (by omega) (by omega), zxe (zwk (by omega)), Int.toNat_natCast]
      show ((n / 2 ^ (m - 1 - i) &&& 1 : Nat) : Int) = _
      rw [Nat.and_one_is_mod]
    rw [hone]
    have hhalf : n / 2 ^ (m - i) = n / 2 ^ (m - 1 - i) / 2 := by
      rw [Nat.div_div_eq_div_mul, ← Nat.pow_succ]; congr 2; omega
    have hidx : m - (i + 1) = m - 1 - i := by omega
    have hW : W ((i : Int) + 1) = (i : Int) + 1 := W_id (by omega) (by omega)
    have hbit := Nat.mod_two_eq_zero_or_one (n / 2 ^ (m - 1 - i))
    rcases hbit with hbit | hbit
    · rw [hbit, if_neg (by simp), hW]
      refine hs _ ?_
      rw [hidx, hhalf]; congr 2; omega
    · rw [hbit, if_pos (by simp), zzw (ztu _ _), zzi, z2 (by decide), z2 (by decide), hW]
      refine (zro (ztu _ _) (Nat.mod_lt b (by decide : 0 < PP)) φ (by omega) (fun z => z06 φ k b n z m ((i : Int) + 1) 2305843009213690799)).trans ?_
      refine hs _ ?_
      rw [← zzl b, zwq, hidx, hhalf]; congr 2; omega
  · intro k v hv
    rw [z06, if_neg (by simp), hv]
    rw [Nat.sub_self, Nat.pow_zero, Nat.div_one]
  · rw [Nat.sub_zero, Nat.div_eq_of_lt h1, zzf]; rfl
/-- What Valid answers. -/
def zyv (x : Int) : Bool := decide (2 ≤ x) && decide (x < 2305843009213690799) && (pw x.toNat QQ == 1)
theorem zmz (a : Nat) : (((a : Nat) : Int) == 1) = (a == 1) := by
  rw [Bool.eq_iff_iff, beq_iff_eq, beq_iff_eq]; omega
theorem zjj (φ : Nat) (hφ : 100 < φ) (x : Int) : zb0 φ x = some (zyv x, ()) := by
  unfold zb0 zyv z1c
  cases h : decide (2 ≤ x) && decide (x < 2305843009213690799) with
  | false => rw [if_neg (by simp), Option.bind_some]; simp only [Bool.false_and]
  | true =>
    simp only [Bool.and_eq_true, decide_eq_true_eq] at h
    have := znb φ hφ x.toNat QQ (by decide) (by decide)
    rw [show ((x.toNat : Nat) : Int) = x by omega, show ((QQ : Nat) : Int) = 1152921504606845399 by decide] at this
    rw [if_pos rfl, this, Option.bind_some, Bool.true_and, Bool.true_and]
    show some ((((pw x.toNat QQ : Nat) : Int) == 1), ()) = _
    rw [zmz]
end Px
end
section
namespace Px
open Go
set_option linter.unusedVariables false
set_option linter.unusedSimpArgs false
theorem gz_t {α : Type} {z : α} {p : Prop} [Decidable p] {x : Option α} (h : p) : z1c z p x = x := if_pos h
theorem gz_f {α : Type} {z : α} {p : Prop} [Decidable p] {x : Option α} (h : ¬ p) : z1c z p x = some z := if_neg h
def zal (p : z5s) : Bool := bet p.kind 1 5 && bet p.railway 0 15 && (bif p.kind == 3 then bet p.other 0 15 && (p.other != p.railway) else p.other == (-1))
def zak (n : Int) (e : Edge) : Bool := bet e.a 0 (n - 1) && bet e.b 0 (n - 1) && (e.a != e.b) && bet e.railway 0 15 && bet e.minutes 1 100000 && bet e.km 0 10000
def z78 (x : z6) : Int := bif decide (512 < x.places.length) || decide (2048 < x.edges.length) then 2 else bif x.places.all zal && x.edges.all (zak x.places.length) then 0 else 1
theorem zfe (φ : Nat) (p : z5s) : z7i φ p = some (zal p, ()) := by
  have hb : (((decide (p.kind < 1) || decide (5 < p.kind)) || decide (p.railway < 0)) || decide (16 ≤ p.railway)) = !(bet p.kind 1 5 && bet p.railway 0 15) := by
    rw [Bool.eq_iff_iff]; simp [bet]; omega
  unfold z7i zal
  rw [hb]
  cases bet p.kind 1 5 && bet p.railway 0 15 with
  | false => rfl
  | true =>
    rw [if_neg (by simp)]
    by_cases h : p.kind = 3
    · have : (decide (0 ≤ p.other) && decide (p.other < 16)) = bet p.other 0 15 := by rw [Bool.eq_iff_iff]; simp [bet]; omega
      rw [if_neg (by simp [h]), this]; simp [h]
    · have h2 : (p.kind == 3) = false := by simpa using h
      rw [if_pos (by simp [h]), h2]; rfl
theorem zrr (n : Int) (e : Edge) : ((((((decide ((min2 (min2 (min2 (e.a) (e.b)) (e.railway)) (e.km)) < 0) || decide (n ≤ (max2 (e.a) (e.b)))) || (e.a == e.b)) || decide (16 ≤ e.railway)) || decide (e.minutes < 1)) || decide (100000 < e.minutes)) || decide (10000 < e.km)) = !zak n e := by
  have hm : ∀ x y z : Int, z ≤ max2 x y ↔ z ≤ x ∨ z ≤ y := by intro x y z; unfold max2; split <;> omega
  have hok : zak n e = true ↔ ((((((0 ≤ e.a ∧ e.a ≤ n - 1) ∧ 0 ≤ e.b ∧ e.b ≤ n - 1) ∧ ¬ e.a = e.b) ∧ 0 ≤ e.railway ∧ e.railway ≤ 15) ∧ 1 ≤ e.minutes ∧ e.minutes ≤ 100000) ∧ 0 ≤ e.km ∧ e.km ≤ 10000) := by
    simp only [zak, Bool.and_eq_true, znt, bne_iff_ne, ne_eq]
  rw [Bool.eq_iff_iff, Bool.not_eq_true', ← Bool.not_eq_true, hok]
  simp only [Bool.or_eq_true, decide_eq_true_eq, zz0, hm, beq_iff_eq]
  omega
theorem zw6 (x : z6) : (decide (512 < (x.places.length : Int)) || decide (2048 < (x.edges.length : Int))) = (decide (512 < x.places.length) || decide (2048 < x.edges.length)) := by
  congr 1 <;> (apply decide_eq_decide.2; omega)
theorem z4l (φ : Nat) (hφ : 5000 < φ) (x : z6) : z2z φ x = some (z78 x, ()) := by
  unfold z2z z78
  rw [zw6]
  cases h : decide (512 < x.places.length) || decide (2048 < x.edges.length) with
  | true => rfl
  | false =>
    simp only [Bool.or_eq_false_iff, decide_eq_false_iff_not, Nat.not_lt] at h
    rw [if_neg (by simp), zj0 (fun n i => z2g φ n (x.places.length : Int) x.places (x.places.length : Int) i x) (z14 φ φ (x.places.length : Int) x.edges (x.edges.length : Int) 0) (some (1, ())) x.places (fun t => !zal t) ?_ ?_ φ (by omega)]
    · rw [zj0 (fun n i => z14 φ n (x.places.length : Int) x.edges (x.edges.length : Int) i) (some (0, ())) (some (1, ())) x.edges (fun t => !zak x.places.length t) ?_ ?_ φ (by omega)]
      · simp only [List.any_eq_not_all_not, Bool.not_not]
        cases x.places.all zal <;> cases x.edges.all (zak x.places.length) <;> rfl
      · intro n i hi
        rw [z14, if_pos (by simp; omega), z2 ⟨by omega, by omega⟩, zrr, W_id (by omega) (by omega)]
        cases zak x.places.length (gt x.edges i) <;> rfl
      · intro n; rw [z14, if_neg (by simp)]
    · intro n i hi
      rw [z2g, if_pos (by simp; omega), z2 ⟨by omega, by omega⟩, zfe, Option.bind_some, W_id (by omega) (by omega)]
      cases zal (gt x.places i) <;> rfl
    · intro n; rw [z2g, if_neg (by simp)]
theorem zg7 {x : z6} (h : z78 x = 0) : x.places.length ≤ 512 ∧ x.edges.length ≤ 2048 ∧ (∀ p ∈ x.places, zal p = true) ∧ ∀ e ∈ x.edges, zak x.places.length e = true := by
  unfold z78 at h
  cases h1 : decide (512 < x.places.length) || decide (2048 < x.edges.length) with
  | true => rw [h1] at h; cases h
  | false =>
    rw [h1] at h
    cases h2 : x.places.all zal && x.edges.all (zak x.places.length) with
    | false => rw [h2] at h; cases h
    | true =>
      simp only [Bool.or_eq_false_iff, decide_eq_false_iff_not, Nat.not_lt] at h1
      simp only [Bool.and_eq_true, List.all_eq_true] at h2
      exact ⟨h1.1, h1.2, h2⟩
/-- What Check says of a calendar. -/
def zt8 : Int → List Int → Bool
  | _, [] => true
  | p, h :: t => decide (p < h) && decide (h ≤ 745654) && zt8 h t
def zic (s : Span) : Bool := decide (0 ≤ s.from_) && decide (s.from_ ≤ s.to) && decide (s.to ≤ 1440)
def znc (c : z6g) : Bool := ((List.range 7).all fun i => zic (c.open_ i)) && zt8 (-1) c.holidays
theorem zyu (φ : Nat) (c : z6g) : ∀ (n i : Nat) (p : Int), -1 ≤ p → (i : Int) ≤ p + 1 → p ≤ 745654 → i ≤ c.holidays.length → 745656 ≤ (n : Int) + p → z1n φ n p c.holidays (c.holidays.length : Int) i = some (bif zt8 p (c.holidays.drop i) then 0 else 1, ()) := by
  intro n
  induction n with
  | zero => intro i p _ _ _ _ _; omega
  | succ n ih =>
    intro i p hp hip hp2 hi hn
    by_cases h : i = c.holidays.length
    · rw [h, z1n, if_neg (by simp), List.drop_length]; rfl
    · rw [z1n, if_pos (by simp; omega), z2 ⟨by omega, by omega⟩, zdx _ _ (by omega)]
      by_cases hb : gt c.holidays i ≤ p ∨ 745654 < gt c.holidays i
      · have : (decide (p < gt c.holidays i) && decide (gt c.holidays i ≤ 745654)) = false := by simp; omega
        rw [if_pos (by simpa using hb)]
        simp [zt8, this]
      · have h2 : (decide (p < gt c.holidays i) && decide (gt c.holidays i ≤ 745654)) = true := by simp; omega
        rw [if_neg (by simpa using hb), W_id (by omega) (by omega)]
        have := ih (i + 1) (gt c.holidays i) (by omega) (by omega) (by omega) (by omega) (by omega)
        rw [show ((i + 1 : Nat) : Int) = (i : Int) + 1 by omega] at this
        rw [this]
        simp [zt8, h2]
theorem ziw (s : Span) : ((decide (s.from_ < 0) || decide (s.to < s.from_)) || decide (1440 < s.to)) = !zic s := by
  rw [Bool.eq_iff_iff]; simp [zic]
  try omega
theorem zec (φ : Nat) (hφ : 800000 < φ) (c : z6g) : z6d φ c = some (bif znc c then 0 else 1, ()) := by
  unfold z6d
  refine zm (fun n i (_ : Unit) => z21 φ n c.open_ i c) 7 (fun i _ => ((List.range i).all fun j => zic (c.open_ j)) = true) (fun o => o = some (bif znc c then 0 else 1, ())) ?_ ?_ φ () (by simp) (by omega)
  · intro n i _ hi h hs
    rw [z21, if_pos (by simp; omega), z2 ⟨by omega, by omega⟩, Int.toNat_natCast, ziw, W_id (by omega) (by omega)]
    cases ho : zic (c.open_ i) with
    | true =>
      rw [if_neg (by simp)]
      exact hs () (by rw [zbm, h, ho]; rfl)
    | false =>
      have : znc c = false := by
        unfold znc
        have : ((List.range 7).all fun j => zic (c.open_ j)) = false := by
          rw [List.all_eq_false]; exact ⟨i, by simp; omega, by simp [ho]⟩
        rw [this]; rfl
      rw [if_pos (by simp), this]; rfl
  · intro n _ h
    rw [z21, if_neg (by simp)]
    unfold znc
    rw [h, Bool.true_and]
    have := zyu φ c φ 0 (-1) (by omega) (by omega) (by omega) (by omega) (by omega)
    simpa using this
theorem ze6 {α ρ : Type} [Inhabited α] (L : Nat → Bool → Int → Option ρ) (k : Bool → Option ρ) (l : List α) (p : α → Bool)
    (step : ∀ (n i : Nat) (s : Bool), i < l.length → L (n + 1) s i = L n (s || p (gt l i)) ((i : Int) + 1)) (done : ∀ n s, L (n + 1) s l.length = k s) (n : Nat) (s : Bool) (hn : l.length < n) : L n s 0 = k (s || l.any p) := by
  refine zm (fun n i t => L n t i) l.length (fun i t => t = (s || (l.take i).any p)) (fun o => o = k (s || l.any p)) ?_ ?_ n s (by simp) hn
  · intro n i t hi ht hs
    rw [step n i t hi]
    exact hs _ (by rw [zd0 _ _ _ hi, ht, Bool.or_assoc])
  · intro n t ht
    rw [List.take_length] at ht
    rw [done, ht]
def zdc (n : Int) (r : z6u) : Bool := (((!bet r.place 0 (n - 1)) || decide (r.low < (-1000))) || decide (r.high < r.low)) || decide (1000 < r.high)
def zdu (x : z6) (s : z9m) : Bool := (!bet s.place 0 ((x.places.length : Int) - 1)) || ((gt x.places s.place).kind != 4)
def zmi (r : z30) : Bool := !znc r.calendar || !zyv r.key
def zdn (x : Pool) : Bool :=
  ((((((x.railways.length : Int) == 0) || x.readers.any (zdc x.network.places.length)) || x.shippers.any (zdu x.network)) || x.fleet.wagons.any (fun w => decide ((x.network.places.length : Int) ≤ w.home))) ||
  x.network.places.any (fun p => decide ((x.railways.length : Int) ≤ p.railway) || decide ((x.railways.length : Int) ≤ p.other))) || x.network.edges.any (fun e => decide ((x.railways.length : Int) ≤ e.railway)) || x.railways.any zmi
def zek (x : Pool) : Bool := (decide (256 < (x.readers.length : Int)) || decide (256 < (x.shippers.length : Int))) || decide (16 < (x.railways.length : Int))
/-- What CheckPool answers. -/
def z2d (x : Pool) : Int := if z78 x.network ≠ 0 then z78 x.network else if z52 x.fleet ≠ 0 then z52 x.fleet else bif zek x then 2 else bif zdn x then 1 else 0
theorem z3m (φ : Nat) (hφ : 800000 < φ) (x : Pool) : z24 φ x = some (z2d x, ()) := by
  unfold z24 z2d
  rw [z4l _ (by omega), Option.bind_some]
  by_cases hn : z78 x.network = 0
  case neg => rw [if_pos (by simp [hn]), if_pos hn]
  rw [if_neg (by simp [hn]), if_neg (fun e : z78 x.network ≠ 0 => e hn), zhf _ (by omega), Option.bind_some]
  by_cases hf : z52 x.fleet = 0
  case neg => rw [if_pos (by simp [hf]), if_pos hf]
  rw [if_neg (by simp [hf]), if_neg (fun e : z52 x.fleet ≠ 0 => e hf)]
  cases hb : zek x with
  | true =>
    have e : (((decide (256 < (x.readers.length : Int)) || decide (256 < (x.shippers.length : Int))) || decide (16 < (x.railways.length : Int)))) = zek x := rfl
    rw [e, hb]; rfl
  | false =>
    have hb' : ¬ (((decide (256 < (x.readers.length : Int)) || decide (256 < (x.shippers.length : Int))) || decide (16 < (x.railways.length : Int))) = true) := by
      rw [show (((decide (256 < (x.readers.length : Int)) || decide (256 < (x.shippers.length : Int))) || decide (16 < (x.railways.length : Int)))) = zek x from rfl, hb]; simp
    rw [if_neg hb']
    simp only [Bool.or_eq_true, decide_eq_true_eq, not_or] at hb'
    obtain ⟨n1, n2, _, _⟩ := zg7 hn
    obtain ⟨f1, f2, _⟩ := z5z hf
    have hp : W ((x.network.places.length : Int) - 1) = (x.network.places.length : Int) - 1 := W_id (by omega) (by omega)
    have a1 := ze6 (fun n s i => z1b φ n x.network.places (x.railways.length : Int) s x.readers (x.readers.length : Int) i x) (fun s => z0o φ φ x.network.places (x.railways.length : Int) s x.shippers (x.shippers.length : Int) 0 x) x.readers (zdc x.network.places.length) (fun n i s hi => by
      rw [z1b, if_pos (by simp; omega), z2 ⟨by omega, by omega⟩, hp, W_id (by omega) (by omega)]
      unfold zdc
      cases s with
      | true => rw [gz_f (by simp)]; rfl
      | false => rw [gz_t rfl]; rfl) (fun n s => by rw [z1b, if_neg (by simp)]) φ ((x.railways.length : Int) == 0) (by omega)
    refine a1.trans ?_
    have a2 := fun s0 => ze6 (fun n s i => z0o φ n x.network.places (x.railways.length : Int) s x.shippers (x.shippers.length : Int) i x) (fun s => z0m φ φ x.network.places (x.railways.length : Int) s x.fleet.wagons (x.fleet.wagons.length : Int) 0 x) x.shippers (zdu x.network) (fun n i s hi => by
      rw [z0o, if_pos (by simp; omega), z2 ⟨by omega, by omega⟩, hp, W_id (by omega) (by omega)]
      unfold zdu
      cases s with
      | true => rw [gz_f (by simp), Option.bind_some, z2 (by simp)]; rfl
      | false =>
        rw [gz_t rfl, z2h, Option.bind_some]
        cases hbt : bet (gt x.shippers i).place 0 ((x.network.places.length : Int) - 1) with
        | true => rw [z2 (fun _ => by have := zto hbt; omega)]; rfl
        | false => rw [z2 (by simp)]; rfl) (fun n s => by rw [z0o, if_neg (by simp)]) φ s0 (by omega)
    refine (a2 _).trans ?_
    have a3 := fun s0 => ze6 (fun n s i => z0m φ n x.network.places (x.railways.length : Int) s x.fleet.wagons (x.fleet.wagons.length : Int) i x) (fun s => z0p φ φ (x.railways.length : Int) s x.network.places (x.network.places.length : Int) 0 x) x.fleet.wagons (fun w => decide ((x.network.places.length : Int) ≤ w.home)) (fun n i s hi => by
      rw [z0m, if_pos (by simp; omega), z2 ⟨by omega, by omega⟩, W_id (by omega) (by omega)]) (fun n s => by rw [z0m, if_neg (by simp)]) φ s0 (by omega)
    refine (a3 _).trans ?_
    have a4 := fun s0 => ze6 (fun n s i => z0p φ n (x.railways.length : Int) s x.network.places (x.network.places.length : Int) i x) (fun s => z0q φ φ (x.railways.length : Int) s x.network.edges (x.network.edges.length : Int) 0 x) x.network.places (fun p => decide ((x.railways.length : Int) ≤ p.railway) || decide ((x.railways.length : Int) ≤ p.other)) (fun n i s hi => by
      rw [z0p, if_pos (by simp; omega), z2 ⟨by omega, by omega⟩, W_id (by omega) (by omega), Bool.or_assoc]) (fun n s => by rw [z0p, if_neg (by simp)]) φ s0 (by omega)
    refine (a4 _).trans ?_
    have a5 := fun s0 => ze6 (fun n s i => z0q φ n (x.railways.length : Int) s x.network.edges (x.network.edges.length : Int) i x) (fun s => z0n φ φ s x.railways (x.railways.length : Int) 0) x.network.edges (fun e => decide ((x.railways.length : Int) ≤ e.railway)) (fun n i s hi => by
      rw [z0q, if_pos (by simp; omega), z2 ⟨by omega, by omega⟩, W_id (by omega) (by omega)]) (fun n s => by rw [z0q, if_neg (by simp)]) φ s0 (by omega)
    refine (a5 _).trans ?_
    have a6 := fun s0 => ze6 (fun n s i => z0n φ n s x.railways (x.railways.length : Int) i) (fun s => if s = true then some (1, ()) else some (0, ())) x.railways zmi (fun n i s hi => by
      rw [z0n, if_pos (by simp; omega), z2 ⟨by omega, by omega⟩, W_id (by omega) (by omega)]
      unfold zmi
      cases s with
      | true => rw [gz_f (by simp), Option.bind_some, gz_f (by simp)]; rfl
      | false =>
        rw [gz_t rfl, zec _ hφ, Option.bind_some]
        cases znc (gt x.railways i).calendar with
        | false => rw [gz_f (by simp)]; rfl
        | true => rw [gz_t (by simp), zjj _ (by omega)]; rfl) (fun n s => by rw [z0n, if_neg (by simp)]) φ s0 (by omega)
    refine (a6 _).trans ?_
    show (if zdn x = true then some ((1 : Int), ()) else some (0, ())) = _
    cases zdn x <;> rfl
/-- What a valid pool is. -/
theorem z95 {p : Pool} (h : z2d p = 0) : z78 p.network = 0 ∧ z52 p.fleet = 0 ∧ p.readers.length ≤ 256 ∧ p.shippers.length ≤ 256 ∧ p.railways.length ≤ 16 ∧ zdn p = false := by
  unfold z2d at h
  by_cases hn : z78 p.network = 0
  case neg => rw [if_pos hn] at h; exact absurd h hn
  rw [if_neg (fun e : z78 p.network ≠ 0 => e hn)] at h
  by_cases hf : z52 p.fleet = 0
  case neg => rw [if_pos hf] at h; exact absurd h hf
  rw [if_neg (fun e : z52 p.fleet ≠ 0 => e hf)] at h
  cases hb : zek p with
  | true => rw [hb] at h; cases h
  | false =>
    rw [hb] at h
    cases hd : zdn p with
    | true => rw [hd] at h; cases h
    | false =>
      simp only [zek, Bool.or_eq_false_iff, decide_eq_false_iff_not] at hb
      exact ⟨hn, hf, by omega, by omega, by omega, rfl⟩
theorem zpp {p : Pool} (h : z2d p = 0) : (∀ r ∈ p.readers, 0 ≤ r.place ∧ r.place < (p.network.places.length : Int) ∧ -1000 ≤ r.low ∧ r.low ≤ r.high ∧ r.high ≤ 1000) ∧
    (∀ w ∈ p.fleet.wagons, 0 ≤ w.home ∧ w.home < (p.network.places.length : Int)) ∧ (∀ e ∈ p.network.edges, e.railway < (p.railways.length : Int)) ∧ 0 < p.railways.length := by
  obtain ⟨hn, hf, h1, h2, h3, hb⟩ := z95 h
  simp only [zdn, Bool.or_eq_false_iff] at hb
  obtain ⟨⟨⟨⟨⟨⟨b0, b1⟩, b2⟩, b3⟩, b4⟩, b5⟩, b6⟩ := hb
  obtain ⟨_, _, _, _, _, hw, _, _⟩ := z5z hf
  refine ⟨fun r hr => ?_, fun w hw' => ?_, fun e he => ?_, ?_⟩
  · have := List.any_eq_false.1 b1 r hr
    simp only [zdc, Bool.not_eq_true, Bool.or_eq_false_iff, Bool.not_eq_false', decide_eq_false_iff_not] at this
    obtain ⟨⟨⟨c1, c2⟩, c3⟩, c4⟩ := this
    have := zto c1
    omega
  · have := List.any_eq_false.1 b3 w hw'
    have h3 := hw w hw'
    simp only [zc2, Bool.and_eq_true] at h3
    have := zto h3.1.1.2
    simp at *
    omega
  · have := List.any_eq_false.1 b5 e he
    simp at this; omega
  · simp at b0
    exact List.length_pos_iff.2 b0
end Px
end
section
namespace Px
open Go
set_option linter.unusedVariables false
set_option linter.unusedSimpArgs false
theorem zhx {n b : Nat} (h : n ≤ 100000) (hb : b ≤ 1000) : fits n b := by
  unfold fits
  have : n * b ≤ 100000 * 1000 := Nat.mul_le_mul h hb
  omega
abbrev Ln := List ((Nat → Int) × Int)
abbrev keyP (a b : Int) : Nat → Int := upd (upd (fun _ => (default : Int)) 0 a) 1 b
abbrev lget (m : Ln) (a b : Int) : Option Int := @mget _ _ ⟨beqA 2⟩ m (keyP a b)
abbrev lset (m : Ln) (a b i : Int) : Ln := @mset _ _ ⟨beqA 2⟩ m (keyP a b) i
theorem zv1 (f g : Nat → Int) : beqA 2 f g = (f 0 == g 0 && f 1 == g 1) := by
  simp [beqA, List.range_succ]
theorem zy1 (a b : Int) : keyP a b 0 = a := rfl
theorem zyd (a b : Int) : keyP a b 1 = b := rfl
theorem zav (m : Ln) (a b i c d : Int) : lget (lset m a b i) c d = if c = a ∧ d = b then some i else lget m c d := by
  induction m with
  | nil =>
    show (bif beqA 2 (keyP c d) (keyP a b) then some i else none) = _
    rw [zv1]
    simp only [zy1, zyd]
    by_cases h : c = a ∧ d = b
    · rw [if_pos h]; simp [h]
    · rw [if_neg h]
      have : (c == a && d == b) = false := by rw [← Bool.not_eq_true]; simpa using h
      rw [this]; rfl
  | cons p m ih =>
    obtain ⟨k, v⟩ := p
    show lget (bif beqA 2 (keyP a b) k then (keyP a b, i) :: m else (k, v) :: lset m a b i) c d = _
    have e1 : lget ((k, v) :: m) c d = bif beqA 2 (keyP c d) k then some v else lget m c d := rfl
    cases h1 : beqA 2 (keyP a b) k with
    | true =>
      rw [zv1] at h1
      simp only [zy1, zyd, Bool.and_eq_true, beq_iff_eq] at h1
      show (bif beqA 2 (keyP c d) (keyP a b) then some i else lget m c d) = _
      rw [e1, zv1, zv1]
      simp only [zy1, zyd]
      by_cases h : c = a ∧ d = b
      · rw [if_pos h]; simp [h]
      · rw [if_neg h]
        have h2 : (c == a && d == b) = false := by rw [← Bool.not_eq_true]; simpa using h
        have h3 : (c == k 0 && d == k 1) = false := by rw [← h1.1, ← h1.2]; exact h2
        rw [h2, h3]; rfl
    | false =>
      show (bif beqA 2 (keyP c d) k then some v else lget (lset m a b i) c d) = _
      rw [ih, e1]
      cases h2 : beqA 2 (keyP c d) k with
      | false => rfl
      | true =>
        by_cases h : c = a ∧ d = b
        · obtain ⟨rfl, rfl⟩ := h
          rw [h1] at h2; cases h2
        · show some v = _
          rw [if_neg h]; rfl
theorem zuh {b : Bool} (h : ¬ (!b) = true) : b = true := by cases b <;> simp_all
/-- One end of a line is entered. -/
def ent1 (es : List Edge) (i a b : Int) (s : List (List Int) × Ln) : List (List Int) × Ln :=
  (if (!(lget s.2 a b).isSome) = true then z05 s.1 a (gt s.1 a ++ [b]) else s.1,
   if (!(lget s.2 a b).isSome || decide ((gt es i).minutes < (gt es ((lget s.2 a b).getD default)).minutes)) = true then lset s.2 a b i else s.2)
def entE (es : List Edge) (i : Int) (s : List (List Int) × Ln) : List (List Int) × Ln := ent1 es i (gt es i).b (gt es i).a (ent1 es i (gt es i).a (gt es i).b s)
/-- What is known while z1k are entered. -/
structure GI (es : List Edge) (P k : Nat) (s : List (List Int) × Ln) : Prop where
  len : s.1.length = P
  near : ∀ a b : Int, 0 ≤ a → a < (P : Int) → (b ∈ gt s.1 a ↔ (lget s.2 a b).isSome = true)
  line : ∀ a b i : Int, lget s.2 a b = some i → 0 ≤ i ∧ i < (k : Int) ∧ (((gt es i).a = a ∧ (gt es i).b = b) ∨ ((gt es i).a = b ∧ (gt es i).b = a))
  size : ∀ a : Int, 0 ≤ a → a < (P : Int) → (gt s.1 a).length ≤ 2 * k
structure HI (es : List Edge) (P k : Nat) (s : List (List Int) × Ln) : Prop extends GI es P k s where
  sym : ∀ a b : Int, lget s.2 a b = lget s.2 b a
theorem zwd (es : List Edge) (P : Nat) : HI es P 0 (List.replicate P (default : List Int), []) where
  len := by simp
  near := fun a b h0 h1 => by
    rw [z8i _ _ _ h0 (by omega)]
    show b ∈ ([] : List Int) ↔ _
    simp [lget, mget]
  line := fun a b i h => by simp [lget, mget] at h
  size := fun a h0 h1 => by rw [z8i _ _ _ h0 (by omega)]; simp; rfl
  sym := fun a b => rfl
/-- What one end does to what is known; j: how far the numbers of the z1k go. -/
theorem zzb {es : List Edge} {P k : Nat} {s : List (List Int) × Ln} (h : GI es P k s) {a b : Int} (ha : 0 ≤ a) (ha' : a < (P : Int)) (he : ((gt es (k : Int)).a = a ∧ (gt es (k : Int)).b = b) ∨ ((gt es (k : Int)).a = b ∧ (gt es (k : Int)).b = a)) :
    (ent1 es k a b s).1.length = P ∧ (∀ c d : Int, 0 ≤ c → c < (P : Int) → (d ∈ gt (ent1 es k a b s).1 c ↔ (lget (ent1 es k a b s).2 c d).isSome = true)) ∧
    (∀ c d i : Int, lget (ent1 es k a b s).2 c d = some i → 0 ≤ i ∧ i < ((k + 1 : Nat) : Int) ∧ (((gt es i).a = c ∧ (gt es i).b = d) ∨ ((gt es i).a = d ∧ (gt es i).b = c))) ∧
    (∀ c : Int, 0 ≤ c → c < (P : Int) → (gt (ent1 es k a b s).1 c).length ≤ (gt s.1 c).length + 1) ∧
    (∀ c d : Int, ¬ (c = a ∧ d = b) → lget (ent1 es k a b s).2 c d = lget s.2 c d) ∧
    lget (ent1 es k a b s).2 a b = (if (!(lget s.2 a b).isSome || decide ((gt es (k : Int)).minutes < (gt es ((lget s.2 a b).getD default)).minutes)) = true then some (k : Int) else lget s.2 a b) := by
  have hl2 : ∀ c d : Int, lget (ent1 es k a b s).2 c d = if (c = a ∧ d = b) then (if (!(lget s.2 a b).isSome || decide ((gt es (k : Int)).minutes < (gt es ((lget s.2 a b).getD default)).minutes)) = true then some (k : Int) else lget s.2 a b) else lget s.2 c d := by
    intro c d
    unfold ent1
    simp only []
    split
    · rw [zav]
    · split
      · rename_i q; rw [q.1, q.2]
      · rfl
  have hsm : (lget (ent1 es k a b s).2 a b).isSome = true := by
    rw [hl2, if_pos ⟨rfl, rfl⟩]
    split
    · rfl
    · rename_i q
      simp only [Bool.or_eq_true, not_or] at q
      exact zuh q.1
  refine ⟨?_, ?_, ?_, ?_, fun c d hcd => by rw [hl2, if_neg hcd], by rw [hl2, if_pos ⟨rfl, rfl⟩]⟩
  · unfold ent1
    simp only []
    split
    · rw [z1j]; exact h.len
    · exact h.len
  · intro c d hc hc'
    by_cases hcd : c = a ∧ d = b
    · obtain ⟨rfl, rfl⟩ := hcd
      rw [hsm]
      refine ⟨fun _ => rfl, fun _ => ?_⟩
      unfold ent1
      simp only []
      split
      · rw [z0y _ _ _ _ hc (by rw [h.len]; exact hc') hc, if_pos rfl]; simp
      · rename_i q
        exact (h.near c d hc hc').2 (zuh q)
    · rw [hl2, if_neg hcd, ← h.near c d hc hc']
      unfold ent1
      simp only []
      split
      · rw [z0y _ _ _ _ ha (by rw [h.len]; exact ha') hc]
        by_cases e : c = a
        · subst e
          rw [if_pos rfl]
          simp only [List.mem_append, List.mem_singleton]
          exact ⟨fun q => q.resolve_right (fun e => hcd ⟨rfl, e⟩), .inl⟩
        · rw [if_neg e]
      · exact Iff.rfl
  · intro c d i hi
    rw [hl2] at hi
    split at hi
    · rename_i q
      obtain ⟨rfl, rfl⟩ := q
      split at hi
      · have := Option.some.inj hi
        subst this
        exact ⟨by omega, by omega, he⟩
      · obtain ⟨h1, h2, h3⟩ := h.line _ _ _ hi
        exact ⟨h1, by omega, h3⟩
    · obtain ⟨h1, h2, h3⟩ := h.line _ _ _ hi
      exact ⟨h1, by omega, h3⟩
  · intro c hc hc'
    unfold ent1
    simp only []
    split
    · rw [z0y _ _ _ _ ha (by rw [h.len]; exact ha') hc]
      split
      · rename_i e; subst e; simp
      · omega
    · omega
theorem zz2 {es : List Edge} {P k : Nat} {s : List (List Int) × Ln} (h : HI es P k s) (ha : 0 ≤ (gt es (k : Int)).a) (ha' : (gt es (k : Int)).a < (P : Int)) (hb : 0 ≤ (gt es (k : Int)).b) (hb' : (gt es (k : Int)).b < (P : Int)) (hne : (gt es (k : Int)).a ≠ (gt es (k : Int)).b) :
    HI es P (k + 1) (entE es k s) := by
  obtain ⟨a1, a2, a3, a4, a5, a6⟩ := zzb h.toGI ha ha' (.inl ⟨rfl, rfl⟩)
  unfold entE
  generalize hs1 : ent1 es k (gt es (k : Int)).a (gt es (k : Int)).b s = s1 at *
  generalize (gt es (k : Int)).a = a at *
  generalize (gt es (k : Int)).b = b at *
  -- the second end, by the same law: only the zeu on the numbers has moved
  have hl2 : ∀ c d : Int, lget (ent1 es k b a s1).2 c d = if (c = b ∧ d = a) then (if (!(lget s1.2 b a).isSome || decide ((gt es (k : Int)).minutes < (gt es ((lget s1.2 b a).getD default)).minutes)) = true then some (k : Int) else lget s1.2 b a) else lget s1.2 c d := by
    intro c d
    unfold ent1
    simp only []
    split
    · rw [zav]
    · split
      · rename_i q; rw [q.1, q.2]
      · rfl
  have hba : lget s1.2 b a = lget s.2 a b := by rw [a5 b a (fun q => hne q.2), h.sym]
  have hsm : (lget (ent1 es k b a s1).2 b a).isSome = true := by
    rw [hl2, if_pos ⟨rfl, rfl⟩]
    split
    · rfl
    · rename_i q
      simp only [Bool.or_eq_true, not_or] at q
      exact zuh q.1
  have hlab : lget (ent1 es k b a s1).2 a b = lget s1.2 a b := by rw [hl2, if_neg (fun q => hne q.1)]
  have hlba : lget (ent1 es k b a s1).2 b a = lget s1.2 a b := by
    rw [hl2, if_pos ⟨rfl, rfl⟩, hba, a6]
  have hab : ((gt es (k : Int)).a = a ∧ (gt es (k : Int)).b = b) ∨ ((gt es (k : Int)).a = b ∧ (gt es (k : Int)).b = a) → True := fun _ => trivial
  refine ⟨⟨?_, ?_, ?_, ?_⟩, ?_⟩
  · unfold ent1
    simp only []
    split
    · rw [z1j]; exact a1
    · exact a1
  · intro c d hc hc'
    by_cases hcd : c = b ∧ d = a
    · obtain ⟨rfl, rfl⟩ := hcd
      rw [hsm]
      refine ⟨fun _ => rfl, fun _ => ?_⟩
      unfold ent1
      simp only []
      split
      · rw [z0y _ _ _ _ hc (by rw [a1]; exact hc') hc, if_pos rfl]; simp
      · rename_i q
        exact (a2 c d hc hc').2 (zuh q)
    · rw [hl2, if_neg hcd, ← a2 c d hc hc']
      unfold ent1
      simp only []
      split
      · rw [z0y _ _ _ _ hb (by rw [a1]; exact hb') hc]
        by_cases e : c = b
        · subst e
          rw [if_pos rfl]
          simp only [List.mem_append, List.mem_singleton]
          exact ⟨fun q => q.resolve_right (fun e => hcd ⟨rfl, e⟩), .inl⟩
        · rw [if_neg e]
      · exact Iff.rfl
  · intro c d i hi
    by_cases hcd : c = b ∧ d = a
    · obtain ⟨rfl, rfl⟩ := hcd
      rw [hlba] at hi
      obtain ⟨h1, h2, h3⟩ := a3 _ _ _ hi
      exact ⟨h1, h2, h3.elim .inr .inl⟩
    · rw [hl2, if_neg hcd] at hi
      exact a3 _ _ _ hi
  · intro c hc hc'
    have h1 := a4 c hc hc'
    have h0 := h.size c hc hc'
    have h2 : (gt (ent1 es k b a s1).1 c).length ≤ (gt s1.1 c).length + 1 := by
      unfold ent1
      simp only []
      split
      · rw [z0y _ _ _ _ hb (by rw [a1]; exact hb') hc]
        split
        · rename_i e; subst e; simp
        · omega
      · omega
    omega
  · intro c d
    by_cases h1 : c = b ∧ d = a
    · obtain ⟨rfl, rfl⟩ := h1
      rw [hlba, hlab]
    · by_cases h2 : c = a ∧ d = b
      · obtain ⟨rfl, rfl⟩ := h2
        rw [hlab, hlba]
      · rw [hl2, if_neg h1, hl2, if_neg (fun q => h2 ⟨q.2, q.1⟩), a5 c d h2, a5 d c (fun q => h1 ⟨q.2, q.1⟩), h.sym]
/-- The graph of a valid network. -/
def z8d (es : List Edge) (P : Nat) : Nat → List (List Int) × Ln
  | 0 => (List.replicate P default, [])
  | k + 1 => entE es k (z8d es P k)
structure z8x (x : z6) : Prop where
  places : x.places.length ≤ 512
  edges : x.edges.length ≤ 2048
  edge : ∀ i : Int, 0 ≤ i → i < (x.edges.length : Int) → zak x.places.length (gt x.edges i) = true
theorem zxp {x : z6} (h : z78 x = 0) : z8x x := by
  obtain ⟨h1, h2, _, h4⟩ := zg7 h
  exact ⟨h1, h2, fun i h0 hi => h4 _ (z8e h0 hi)⟩
theorem z8x.ends {x : z6} (h : z8x x) {i : Int} (h0 : 0 ≤ i) (hi : i < (x.edges.length : Int)) : 0 ≤ (gt x.edges i).a ∧ (gt x.edges i).a < (x.places.length : Int) ∧ 0 ≤ (gt x.edges i).b ∧ (gt x.edges i).b < (x.places.length : Int) ∧
    (gt x.edges i).a ≠ (gt x.edges i).b ∧ 0 ≤ (gt x.edges i).railway ∧ (gt x.edges i).railway ≤ 15 ∧ 1 ≤ (gt x.edges i).minutes ∧ (gt x.edges i).minutes ≤ 100000 ∧ 0 ≤ (gt x.edges i).km ∧ (gt x.edges i).km ≤ 10000 := by
  have := h.edge i h0 hi
  simp only [zak, Bool.and_eq_true, znt, bne_iff_ne, ne_eq] at this
  obtain ⟨⟨⟨⟨⟨q1, q2⟩, q3⟩, q4⟩, q5⟩, q6⟩ := this
  exact ⟨q1.1, by omega, q2.1, by omega, q3, q4.1, q4.2, q5.1, q5.2, q6.1, q6.2⟩
theorem z4n {x : z6} (h : z8x x) : ∀ k, k ≤ x.edges.length → HI x.edges x.places.length k (z8d x.edges x.places.length k)
  | 0, _ => zwd _ _
  | k + 1, hk => by
    obtain ⟨a1, a2, a3, a4, a5, _⟩ := h.ends (i := (k : Int)) (by omega) (by omega)
    exact zz2 (z4n h k (by omega)) a1 a2 a3 a4 a5
/-- A graph: neighbours, and the minutes of the z1k to them. -/
structure Gr (P : Nat) (near : List (List Int)) (wt : Int → Int → Int) : Prop where
  len : near.length = P
  small : P ≤ 512
  size : ∀ a : Int, 0 ≤ a → a < (P : Int) → (gt near a).length ≤ 5000
  rng : ∀ a b : Int, 0 ≤ a → a < (P : Int) → b ∈ gt near a → 0 ≤ b ∧ b < (P : Int)
  sym : ∀ a b : Int, 0 ≤ a → a < (P : Int) → b ∈ gt near a → a ∈ gt near b ∧ wt b a = wt a b
  wt : ∀ a b : Int, 0 ≤ a → a < (P : Int) → b ∈ gt near a → 1 ≤ wt a b ∧ wt a b ≤ 100000
def z1k (x : z6) : Ln := (z8d x.edges x.places.length x.edges.length).2
def wtN (x : z6) (a b : Int) : Int := (gt x.edges ((lget (z1k x) a b).getD default)).minutes
def z3w (x : z6) : List (List Int) := (z8d x.edges x.places.length x.edges.length).1
def zk (x : z6) : List (List Int) := (z3w x).map fun l => z6t (fun a b => decide (a < b)) l
theorem zqw {α β : Type} [Inhabited α] [Inhabited β] (f : α → β) (l : List α) {i : Int} (h0 : 0 ≤ i) (h : i < (l.length : Int)) : gt (l.map f) i = f (gt l i) := by
  obtain ⟨n, rfl⟩ : ∃ n : Nat, i = (n : Int) := ⟨i.toNat, by omega⟩
  rw [z44 (by simp; omega), z44 (by omega)]
  simp
theorem zc3 {x : z6} (h : z8x x) {a b : Int} (ha : 0 ≤ a) (ha' : a < (x.places.length : Int)) (hb : b ∈ gt (zk x) a) : ∃ i, lget (z1k x) a b = some i ∧ 0 ≤ i ∧ i < (x.edges.length : Int) ∧ (((gt x.edges i).a = a ∧ (gt x.edges i).b = b) ∨ ((gt x.edges i).a = b ∧ (gt x.edges i).b = a)) := by
  have H := z4n h x.edges.length (Nat.le_refl _)
  unfold zk at hb
  rw [zqw _ _ ha (by show a < ((z3w x).length : Int); rw [show (z3w x).length = _ from H.len]; exact ha')] at hb
  have hb := (z16 _ _).mem_iff.1 hb
  have := (H.near a b ha ha').1 hb
  obtain ⟨i, hi⟩ := Option.isSome_iff_exists.1 this
  obtain ⟨h1, h2, h3⟩ := H.line _ _ _ hi
  exact ⟨i, hi, h1, h2, h3⟩
theorem grN {x : z6} (h : z8x x) : Gr x.places.length (zk x) (wtN x) := by
  have H := z4n h x.edges.length (Nat.le_refl _)
  have hlen : (zk x).length = x.places.length := by unfold zk; rw [List.length_map]; exact H.len
  have hl0 : (z3w x).length = x.places.length := H.len
  have hmem : ∀ a b : Int, 0 ≤ a → a < (x.places.length : Int) → (b ∈ gt (zk x) a ↔ (lget (z1k x) a b).isSome = true) := by
    intro a b ha ha'
    unfold zk
    rw [zqw _ _ ha (by rw [hl0]; exact ha')]
    exact ((z16 _ _).mem_iff).trans (H.near a b ha ha')
  refine ⟨hlen, h.places, ?_, ?_, ?_, ?_⟩
  · intro a ha ha'
    unfold zk
    rw [zqw _ _ ha (by rw [hl0]; exact ha'), (z16 _ _).length_eq]
    have := H.size a ha ha'
    have := h.edges
    show (gt (z8d x.edges x.places.length x.edges.length).1 a).length ≤ _
    omega
  · intro a b ha ha' hb
    obtain ⟨i, _, h1, h2, h3⟩ := zc3 h ha ha' hb
    obtain ⟨e1, e2, e3, e4, _⟩ := h.ends h1 h2
    rcases h3 with ⟨rfl, rfl⟩ | ⟨rfl, rfl⟩
    · exact ⟨e3, e4⟩
    · exact ⟨e1, e2⟩
  · intro a b ha ha' hb
    obtain ⟨i, hi, h1, h2, h3⟩ := zc3 h ha ha' hb
    obtain ⟨e1, e2, e3, e4, _⟩ := h.ends h1 h2
    have hbr : 0 ≤ b ∧ b < (x.places.length : Int) := by
      rcases h3 with ⟨rfl, rfl⟩ | ⟨rfl, rfl⟩
      · exact ⟨e3, e4⟩
      · exact ⟨e1, e2⟩
    have hs : lget (z1k x) b a = lget (z1k x) a b := H.sym b a
    refine ⟨(hmem b a hbr.1 hbr.2).2 (by rw [hs, hi]; rfl), ?_⟩
    unfold wtN
    rw [hs]
  · intro a b ha ha' hb
    obtain ⟨i, hi, h1, h2, _⟩ := zc3 h ha ha' hb
    obtain ⟨_, _, _, _, _, _, _, e1, e2, _⟩ := h.ends h1 h2
    unfold wtN
    rw [hi]
    exact ⟨e1, e2⟩
/-- The state of the search for least times: after k rounds. -/
structure DI (P : Nat) (near : List (List Int)) (wt : Int → Int → Int) (s : Int) (k : Nat) (t : List Int) (d : List Bool) : Prop where
  lt : t.length = P
  ld : d.length = P
  src : gt t s = 0
  bd : ∀ i : Int, 0 ≤ i → i < (P : Int) → gt t i = -1 ∨ (0 ≤ gt t i ∧ gt t i ≤ 100000 * k)
  don : ∀ i : Int, 0 ≤ i → i < (P : Int) → gt d i = true → 0 ≤ gt t i
  pre : ∀ a : Int, 0 ≤ a → a < (P : Int) → a ≠ s → 0 ≤ gt t a → ∃ q, 0 ≤ q ∧ q < (P : Int) ∧ gt d q = true ∧ q ∈ gt near a ∧ gt t a = gt t q + wt q a
  mon : ∀ q i : Int, 0 ≤ q → q < (P : Int) → 0 ≤ i → i < (P : Int) → gt d q = true → gt d i = false → 0 ≤ gt t i → gt t q ≤ gt t i
  nbr : ∀ q i : Int, 0 ≤ q → q < (P : Int) → gt d q = true → i ∈ gt near q → 0 ≤ gt t i
  cnt : d.count true = k
/-- A round: the place p is done, and its neighbours are looked at. -/
structure RndI (P : Nat) (near : List (List Int)) (wt : Int → Int → Int) (s p : Int) (k : Nat) (t0 : List Int) (d : List Bool) (seen : List Int) (t : List Int) : Prop where
  lt : t.length = P
  own : gt t p = gt t0 p
  val : ∀ i : Int, 0 ≤ i → i < (P : Int) → gt t i = gt t0 i ∨ (i ∈ seen ∧ gt t i = gt t0 p + wt p i ∧ (gt t0 i < 0 ∨ gt t0 p + wt p i < gt t0 i))
  got : ∀ i ∈ seen, 0 ≤ i → 0 ≤ gt t i
end Px
end
section
namespace Px
open Go
set_option linter.unusedVariables false
set_option linter.unusedSimpArgs false
section
variable {P : Nat} {near : List (List Int)} {wt : Int → Int → Int} {s : Int}
theorem zdw {α : Type} [Inhabited α] (l : List α) {i : Int} (h0 : 0 ≤ i) (h : i < (l.length : Int)) : z05 l i (gt l i) = l := by
  obtain ⟨n, rfl⟩ : ∃ n : Nat, i = (n : Int) := ⟨i.toNat, by omega⟩
  rw [z44 (by omega)]
  simp [z05]
theorem ztq {p : Int} {k : Nat} {t0 : List Int} {d : List Bool} (h : DI P near wt s k t0 d) : RndI P near wt s p k t0 d [] t0 :=
  ⟨h.lt, rfl, fun i _ _ => .inl rfl, fun i hi => by cases hi⟩
theorem zvs (hG : Gr P near wt) {p : Int} (hp : 0 ≤ p) (hp' : p < (P : Int)) {k : Nat} {t0 : List Int} {d : List Bool} (hp0 : 0 ≤ gt t0 p) {seen t : List Int} (h : RndI P near wt s p k t0 d seen t) {q : Int} (hq : q ∈ gt near p) :
    RndI P near wt s p k t0 d (seen ++ [q]) (if (decide (gt t q < 0) || decide (gt t p + wt p q < gt t q)) = true then z05 t q (gt t p + wt p q) else t) := by
  obtain ⟨q0, q1⟩ := hG.rng p q hp hp' hq
  obtain ⟨w0, w1⟩ := hG.wt p q hp hp' hq
  have hown := h.own
  by_cases c : gt t q < 0 ∨ gt t p + wt p q < gt t q
  · rw [if_pos (by simpa using c)]
    have hqp : q ≠ p := fun e => by subst e; omega
    refine ⟨by rw [z1j]; exact h.lt, ?_, fun i h0 h1 => ?_, fun i hi hneg => ?_⟩
    · rw [z0y _ _ _ _ q0 (by rw [h.lt]; exact q1) hp, if_neg (fun e => hqp e.symm)]; exact hown
    · rw [z0y _ _ _ _ q0 (by rw [h.lt]; exact q1) h0]
      by_cases e : i = q
      · subst e
        rw [if_pos rfl]
        refine .inr ⟨by simp, by rw [hown], ?_⟩
        rcases h.val i h0 h1 with h2 | ⟨_, h2, _⟩
        · rw [h2, hown] at c; exact c
        · rw [h2, hown] at c; exfalso; omega
      · rw [if_neg e]
        rcases h.val i h0 h1 with h2 | ⟨h2, h3, h4⟩
        · exact .inl h2
        · exact .inr ⟨List.mem_append_left _ h2, h3, h4⟩
    · by_cases e : i = q
      · subst e
        rw [z0y _ _ _ _ q0 (by rw [h.lt]; exact q1) q0, if_pos rfl]
        omega
      · have hi : i ∈ seen := by
          rcases List.mem_append.1 hi with hi | hi
          · exact hi
          · exact absurd (List.mem_singleton.1 hi) e
        rw [z0y _ _ _ _ q0 (by rw [h.lt]; exact q1) hneg, if_neg e]
        exact h.got i hi hneg
  · rw [if_neg (by simpa using c)]
    refine ⟨h.lt, hown, fun i h0 h1 => ?_, fun i hi hneg => ?_⟩
    · rcases h.val i h0 h1 with h2 | ⟨h2, h3, h4⟩
      · exact .inl h2
      · exact .inr ⟨List.mem_append_left _ h2, h3, h4⟩
    · rcases List.mem_append.1 hi with hi | hi
      · exact h.got i hi hneg
      · rw [List.mem_singleton.1 hi]; omega
theorem zmu {d : List Bool} {p : Int} (hp : 0 ≤ p) (hp' : p < (d.length : Int)) (h : gt d p = false) : (z05 d p true).count true = d.count true + 1 := by
  obtain ⟨n, rfl⟩ : ∃ n : Nat, p = (n : Int) := ⟨p.toNat, by omega⟩
  have hn : n < d.length := by omega
  rw [z44 hn] at h
  unfold z05
  rw [Int.toNat_natCast, List.count_set hn, h]
  simp
/-- A round done. -/
theorem zos (hG : Gr P near wt) {p : Int} (hp : 0 ≤ p) (hp' : p < (P : Int)) {k : Nat} {t0 : List Int} {d : List Bool} (h : DI P near wt s k t0 d) (hs : 0 ≤ s) (hs' : s < (P : Int)) (hp0 : 0 ≤ gt t0 p) (hd : gt d p = false)
    (hmin : ∀ i : Int, 0 ≤ i → i < (P : Int) → 0 ≤ gt t0 i → gt d i = false → gt t0 p ≤ gt t0 i) {t : List Int} (hr : RndI P near wt s p k t0 d (gt near p) t) : DI P near wt s (k + 1) t (z05 d p true) := by
  have hds : ∀ i : Int, 0 ≤ i → gt (z05 d p true) i = if i = p then true else gt d i := fun i hi => z0y _ _ _ _ hp (by rw [h.ld]; exact hp') hi
  have hw : ∀ i, i ∈ gt near p → 1 ≤ wt p i ∧ wt p i ≤ 100000 := fun i hi => hG.wt p i hp hp' hi
  -- what is done stays
  have hdone : ∀ i : Int, 0 ≤ i → i < (P : Int) → gt d i = true → gt t i = gt t0 i := by
    intro i h0 h1 hdi
    rcases hr.val i h0 h1 with h2 | ⟨h2, h3, h4⟩
    · exact h2
    · have := hw i h2
      have := h.don i h0 h1 hdi
      have := h.mon i p h0 h1 hp hp' hdi hd hp0
      omega
  have hbdp := (h.bd p hp hp').resolve_left (by omega)
  refine ⟨hr.lt, by rw [z1j]; exact h.ld, ?_, fun i h0 h1 => ?_, fun i h0 h1 hdi => ?_, fun a h0 h1 has hta => ?_, fun q i q0 q1 h0 h1 hdq hdi hti => ?_, fun q i q0 q1 hdq hin => ?_, ?_⟩
  · rcases hr.val s hs hs' with h2 | ⟨h2, h3, h4⟩
    · rw [h2, h.src]
    · have := hw s h2
      have := h.src
      omega
  · rcases hr.val i h0 h1 with h2 | ⟨h2, h3, h4⟩
    · rw [h2]
      rcases h.bd i h0 h1 with h5 | h5
      · exact .inl h5
      · right; omega
    · have := hw i h2
      right; omega
  · rw [hds i h0] at hdi
    by_cases e : i = p
    · subst e; rw [hr.own]; exact hp0
    · rw [if_neg e] at hdi
      rw [hdone i h0 h1 hdi]; exact h.don i h0 h1 hdi
  · rcases hr.val a h0 h1 with h2 | ⟨h2, h3, h4⟩
    · rw [h2] at hta ⊢
      obtain ⟨q, q0, q1, hdq, hqn, he⟩ := h.pre a h0 h1 has hta
      refine ⟨q, q0, q1, ?_, hqn, by rw [hdone q q0 q1 hdq]; exact he⟩
      rw [hds q q0]; split
      · rfl
      · exact hdq
    · obtain ⟨hsy, hwt⟩ := hG.sym p a hp hp' h2
      exact ⟨p, hp, hp', by rw [hds p hp, if_pos rfl], hsy, by rw [hr.own, h3]⟩
  · rw [hds q q0] at hdq
    rw [hds i h0] at hdi
    have hip : i ≠ p := fun e => by rw [if_pos e] at hdi; cases hdi
    rw [if_neg hip] at hdi
    have hge : gt t0 p ≤ gt t i := by
      rcases hr.val i h0 h1 with h2 | ⟨h2, h3, h4⟩
      · rw [h2] at hti ⊢; exact hmin i h0 h1 hti hdi
      · have := hw i h2; omega
    by_cases e : q = p
    · subst e; rw [hr.own]; exact hge
    · rw [if_neg e] at hdq
      have := h.mon q p q0 q1 hp hp' hdq hd hp0
      rw [hdone q q0 q1 hdq]; omega
  · rw [hds q q0] at hdq
    by_cases e : q = p
    · subst e; exact hr.got i hin (hG.rng q i hp hp' hin).1
    · rw [if_neg e] at hdq
      obtain ⟨i0, i1⟩ := hG.rng q i q0 q1 hin
      have := h.nbr q i q0 q1 hdq hin
      rcases hr.val i i0 i1 with h2 | ⟨h2, h3, h4⟩
      · rw [h2]; exact this
      · have := hw i h2; omega
  · rw [zmu hp (by rw [h.ld]; exact hp') hd, h.cnt]
/-- The search is over. -/
structure DF (P : Nat) (near : List (List Int)) (wt : Int → Int → Int) (s : Int) (t : List Int) : Prop where
  lt : t.length = P
  src : gt t s = 0
  bd : ∀ i : Int, 0 ≤ i → i < (P : Int) → gt t i = -1 ∨ (0 ≤ gt t i ∧ gt t i ≤ 51200000)
  pre : ∀ a : Int, 0 ≤ a → a < (P : Int) → a ≠ s → 0 ≤ gt t a → ∃ q, 0 ≤ q ∧ q < (P : Int) ∧ q ∈ gt near a ∧ 0 ≤ gt t q ∧ gt t a = gt t q + wt q a
  nbr : ∀ q i : Int, 0 ≤ q → q < (P : Int) → 0 ≤ gt t q → i ∈ gt near q → 0 ≤ gt t i
theorem zzn (hG : Gr P near wt) {k : Nat} {t : List Int} {d : List Bool} (h : DI P near wt s k t d) (hall : ∀ i : Int, 0 ≤ i → i < (P : Int) → 0 ≤ gt t i → gt d i = true) : DF P near wt s t := by
  have hk : k ≤ P := by rw [← h.cnt, ← h.ld]; exact List.count_le_length
  have := hG.small
  refine ⟨h.lt, h.src, fun i h0 h1 => ?_, fun a h0 h1 ha hta => ?_, fun q i q0 q1 hq hi => h.nbr q i q0 q1 (hall q q0 q1 hq) hi⟩
  · rcases h.bd i h0 h1 with h2 | h2
    · exact .inl h2
    · right; omega
  · obtain ⟨q, q0, q1, hdq, hqn, he⟩ := h.pre a h0 h1 ha hta
    exact ⟨q, q0, q1, hqn, h.don q q0 q1 hdq, he⟩
theorem zpe (hs : 0 ≤ s) (hs' : s < (P : Int)) (t : List Int) (ht : t.length = P) (hall : ∀ i : Int, 0 ≤ i → i < (P : Int) → gt t i = if i = s then 0 else -1) : DI P near wt s 0 t (List.replicate P (default : Bool)) := by
  have hd : ∀ i : Int, 0 ≤ i → i < (P : Int) → gt (List.replicate P (default : Bool)) i = false := fun i h0 h1 => by rw [z8i _ _ _ h0 (by omega)]; rfl
  refine ⟨ht, by simp, by rw [hall s hs hs', if_pos rfl], fun i h0 h1 => ?_, fun i h0 h1 h => ?_, fun a h0 h1 ha hta => ?_, fun q i q0 q1 h0 h1 hdq => ?_, fun q i q0 q1 hdq => ?_, ?_⟩
  · rw [hall i h0 h1]; split <;> omega
  · rw [hd i h0 h1] at h; cases h
  · rw [hall a h0 h1, if_neg ha] at hta; omega
  · rw [hd q q0 q1] at hdq; cases hdq
  · rw [hd q q0 q1] at hdq; cases hdq
  · simp [List.count_replicate]
end
section walk
variable {ρ : Type} {P : Nat} {near : List (List Int)} {wt : Int → Int → Int} {s : Int}
/-- The place that is next. -/
theorem zx0 (hP : P ≤ 512) (A : Nat → Int → Int → Option ρ) (fin : Int → Option ρ) (t : List Int) (d : List Bool) (ht : t.length = P) (hd : d.length = P)
    (stp : ∀ n p i, A (n + 1) p i = (if (decide ((i : Int) < (P : Int))) = true then (ck ((0 : Int) ≤ i ∧ i < (t.length : Int)) (ck (((decide ((0 : Int) ≤ (gt t i))) = true) → (0 : Int) ≤ i ∧ i < (d.length : Int)) (ck ((((decide ((0 : Int) ≤ (gt t i))) && (!(gt d i))) = true ∧ (decide ((p : Int) < 0)) = false) → (0 : Int) ≤ i ∧ i < (t.length : Int)) (ck ((((decide ((0 : Int) ≤ (gt t i))) && (!(gt d i))) = true ∧ (decide ((p : Int) < 0)) = false) → (0 : Int) ≤ p ∧ p < (t.length : Int)) (if (((decide ((0 : Int) ≤ (gt t i))) && (!(gt d i))) && ((decide ((p : Int) < 0)) || (decide (((gt t i) : Int) < (gt t p))))) = true then (A n i (W (i + 1))) else (A n p (W (i + 1)))))))) else fin p)) (n : Nat) (hn : P < n) :
    ∃ p, A n (-1) 0 = fin p ∧ ((p = -1 ∧ ∀ i : Int, 0 ≤ i → i < (P : Int) → 0 ≤ gt t i → gt d i = true) ∨ (0 ≤ p ∧ p < (P : Int) ∧ 0 ≤ gt t p ∧ gt d p = false ∧ ∀ i : Int, 0 ≤ i → i < (P : Int) → 0 ≤ gt t i → gt d i = false → gt t p ≤ gt t i)) := by
  refine zm (fun n i (p : Int) => A n p i) P (fun i p => (p = -1 ∧ ∀ j : Int, 0 ≤ j → j < (i : Int) → 0 ≤ gt t j → gt d j = true) ∨ (0 ≤ p ∧ p < (i : Int) ∧ 0 ≤ gt t p ∧ gt d p = false ∧ ∀ j : Int, 0 ≤ j → j < (i : Int) → 0 ≤ gt t j → gt d j = false → gt t p ≤ gt t j))
    (fun o => ∃ p, o = fin p ∧ ((p = -1 ∧ ∀ i : Int, 0 ≤ i → i < (P : Int) → 0 ≤ gt t i → gt d i = true) ∨ (0 ≤ p ∧ p < (P : Int) ∧ 0 ≤ gt t p ∧ gt d p = false ∧ ∀ i : Int, 0 ≤ i → i < (P : Int) → 0 ≤ gt t i → gt d i = false → gt t p ≤ gt t i))) ?_ ?_ n (-1) (.inl ⟨rfl, fun j h0 h1 => by omega⟩) hn
  · intro n i p hi hI hs
    rw [stp, if_pos (by simp; omega), z2 ⟨by omega, by omega⟩, z2 (fun _ => ⟨by omega, by omega⟩), z2 (fun _ => ⟨by omega, by omega⟩), W_id (by omega) (by omega)]
    have hpr : (decide ((p : Int) < 0)) = false → (0 : Int) ≤ p ∧ p < (t.length : Int) := by
      intro h
      simp only [decide_eq_false_iff_not] at h
      rcases hI with ⟨rfl, _⟩ | ⟨h1, h2, _⟩
      · omega
      · exact ⟨h1, by omega⟩
    rw [z2 (fun h => hpr h.2)]
    have split_j : ∀ j : Int, j < ((i + 1 : Nat) : Int) → j < (i : Int) ∨ j = (i : Int) := fun j h => by omega
    by_cases c : (0 ≤ gt t (i : Int) ∧ gt d (i : Int) = false) ∧ (p < 0 ∨ gt t (i : Int) < gt t p)
    · rw [if_pos (by simpa using c)]
      refine hs _ (.inr ⟨by omega, by omega, c.1.1, c.1.2, fun j h0 h1 htj hdj => ?_⟩)
      rcases split_j j h1 with h2 | rfl
      · rcases hI with ⟨_, h3⟩ | ⟨q0, _, _, _, h3⟩
        · have := h3 j h0 h2 htj; rw [hdj] at this; cases this
        · have := h3 j h0 h2 htj hdj
          have := c.2.resolve_left (by omega)
          omega
      · exact Int.le_refl _
    · rw [if_neg (by simpa using c)]
      refine hs p ?_
      rcases hI with ⟨rfl, h3⟩ | ⟨q0, q1, q2, q3, h3⟩
      · refine .inl ⟨rfl, fun j h0 h1 htj => ?_⟩
        rcases split_j j h1 with h2 | rfl
        · exact h3 j h0 h2 htj
        · cases hdi : gt d (i : Int) with
          | true => rfl
          | false => exact absurd ⟨⟨htj, hdi⟩, .inl (by omega)⟩ c
      · refine .inr ⟨q0, by omega, q2, q3, fun j h0 h1 htj hdj => ?_⟩
        rcases split_j j h1 with h2 | rfl
        · exact h3 j h0 h2 htj hdj
        · rcases Int.lt_or_le (gt t (i : Int)) (gt t p) with h4 | h4
          · exact absurd ⟨⟨htj, hdj⟩, .inr h4⟩ c
          · exact h4
  · intro n p hI
    rw [stp, if_neg (by simp)]
    exact ⟨p, rfl, hI⟩
/-- The neighbours of a place. -/
theorem zwm (hG : Gr P near wt) {p : Int} (hp : 0 ≤ p) (hp' : p < (P : Int)) {k : Nat} (hk : k ≤ 512) {t0 : List Int} {d : List Bool} (hD : DI P near wt s k t0 d) (hp0 : 0 ≤ gt t0 p) (B : Nat → Int → List Int → Option ρ) (K : List Int → Option ρ) (nb : List Int) (hnb : nb = gt near p) (E : Nat) (lg : Int → Int) (mins : Int → Int)
    (hlg : ∀ q ∈ nb, 0 ≤ lg q ∧ lg q < (E : Int) ∧ mins (lg q) = wt p q)
    (stp : ∀ n i t, B (n + 1) i t = (if (decide ((i : Int) < (nb.length : Int))) = true then (ck ((0 : Int) ≤ i ∧ i < (nb.length : Int)) (ck ((0 : Int) ≤ p ∧ p < (t.length : Int)) (ck ((0 : Int) ≤ lg (gt nb i) ∧ lg (gt nb i) < (E : Int)) (ck ((0 : Int) ≤ (gt nb i) ∧ (gt nb i) < (t.length : Int)) (ck (((decide (((gt t (gt nb i)) : Int) < 0)) = false) → (0 : Int) ≤ (gt nb i) ∧ (gt nb i) < (t.length : Int)) (if ((decide (((gt t (gt nb i)) : Int) < 0)) || (decide (((W ((gt t p) + mins (lg (gt nb i)))) : Int) < (gt t (gt nb i))))) = true then (ck ((0 : Int) ≤ (gt nb i) ∧ (gt nb i) < (t.length : Int)) (B n (W (i + 1)) (z05 t (gt nb i) (W ((gt t p) + mins (lg (gt nb i))))))) else (B n (W (i + 1)) t))))))) else K t)) (n : Nat) (hn : nb.length < n) :
    ∃ t, B n 0 t0 = K t ∧ RndI P near wt s p k t0 d nb t := by
  have hsz : nb.length ≤ 5000 := by rw [hnb]; exact hG.size p hp hp'
  have hbp := (hD.bd p hp hp').resolve_left (by omega)
  refine zm (fun n i t => B n i t) nb.length (fun i t => RndI P near wt s p k t0 d (nb.take i) t) (fun o => ∃ t, o = K t ∧ RndI P near wt s p k t0 d nb t) ?_ ?_ n t0 (ztq hD) hn
  · intro n i t hi hI hs
    have hm : gt nb (i : Int) ∈ gt near p := by rw [← hnb]; exact z8e (by omega) (by omega)
    obtain ⟨q0, q1⟩ := hG.rng p _ hp hp' hm
    obtain ⟨w0, w1⟩ := hG.wt p _ hp hp' hm
    obtain ⟨l0, l1, l2⟩ := hlg (gt nb (i : Int)) (by rw [hnb]; rw [hnb] at hm; exact hm)
    have hlt := hI.lt
    have hst := zvs hG hp hp' hp0 hI hm
    rw [← z10 nb i hi] at hst
    have hr := hs _ hst
    have hown := hI.own
    rw [stp, if_pos (by simp; omega), z2 ⟨by omega, by omega⟩, z2 ⟨by omega, by omega⟩, z2 ⟨l0, l1⟩, z2 ⟨by omega, by omega⟩, z2 (fun _ => ⟨by omega, by omega⟩), l2, W_id (x := gt t p + _) (by omega) (by omega), W_id (by omega) (by omega)]
    generalize gt nb (i : Int) = q at *
    by_cases c : (decide (gt t q < 0) || decide (gt t p + wt p q < gt t q)) = true
    · rw [if_pos c] at hr ⊢
      rw [z2 ⟨by omega, by omega⟩]
      exact hr
    · rw [if_neg c] at hr ⊢
      exact hr
  · intro n t hI
    rw [stp, if_neg (by simp)]
    rw [List.take_length] at hI
    exact ⟨t, rfl, hI⟩
/-- All rounds. -/
theorem zo0 (hG : Gr P near wt) (hs : 0 ≤ s) (hs' : s < (P : Int)) (M : Nat → List Int → List Bool → Option ρ) (fin : List Int → Option ρ) (φ : Nat)
    (rnd : ∀ n k t d, k ≤ 512 → DI P near wt s k t d → (∃ t', DF P near wt s t' ∧ M (n + 1) t d = fin t') ∨ (∃ t' p, 0 ≤ p ∧ p < (P : Int) ∧ DI P near wt s (k + 1) t' (z05 d p true) ∧ M (n + 1) t d = M n t' (z05 d p true))) :
    ∀ n k t d, DI P near wt s k t d → P < n + k → ∃ t', DF P near wt s t' ∧ M n t d = fin t' := by
  intro n
  induction n with
  | zero =>
    intro k t d h hn
    have hk : k ≤ P := by rw [← h.cnt, ← h.ld]; exact List.count_le_length
    omega
  | succ n ih =>
    intro k t d h hn
    have hk : k ≤ P := by rw [← h.cnt, ← h.ld]; exact List.count_le_length
    have := hG.small
    rcases rnd n k t d (by omega) h with h1 | ⟨t', p, _, _, h2, h3⟩
    · exact h1
    · rw [h3]
      exact ih (k + 1) t' _ h2 (by omega)
end walk
end Px
end
section
namespace Px
open Go
set_option linter.unusedVariables false
set_option linter.unusedSimpArgs false
section z0h
variable (φ : Nat) (K : List Edge → Int → Int → Int → Int → z6 → z6 → List (List Int) → Ln → Option (Int × Int × Unit)) (x : z6) (a0 b0 : Int)
theorem z5v {i : Nat} (hi : i < x.edges.length) {P : Nat} {near : List (List Int)} {line : Ln} {a b : Int} (hl : near.length = P) (ha : 0 ≤ a) (ha' : a < (P : Int)) (hsz : (gt near a).length ≤ 10000) (hx : x.edges.length ≤ 2048) (hold : ∀ o, lget line a b = some o → 0 ≤ o ∧ o < (x.edges.length : Int)) :
    (if (!(lget line a b).isSome) = true then (ck ((0 : Int) ≤ a ∧ a < (near.length : Int)) (ck ((0 : Int) ≤ a ∧ a < (near.length : Int)) (ck ((a : Int) = a) (ck (fits ((gt near a).length + ([b]).length) 8) (ck ((0 : Int) ≤ a ∧ a < (near.length : Int)) (ck ((a : Int) = a) (z2a φ K i ((lget line a b).getD default) ((lget line a b).isSome) x.edges (x.edges.length : Int) i a0 b0 x (keyP a b) x (z05 near a (gt near a ++ [b])) line))))))) else (z2a φ K i ((lget line a b).getD default) ((lget line a b).isSome) x.edges (x.edges.length : Int) i a0 b0 x (keyP a b) x near line)) =
    K x.edges (x.edges.length : Int) ((i : Int) + 1) a0 b0 x x (ent1 x.edges i a b (near, line)).1 (ent1 x.edges i a b (near, line)).2 := by
  have hW : W ((i : Int) + 1) = (i : Int) + 1 := W_id (by omega) (by omega)
  unfold z2a ent1
  simp only []
  cases h : lget line a b with
  | none =>
    simp only [Option.isSome_none, Bool.not_false, if_true, Option.getD_none, Bool.true_or]
    rw [z2 ⟨ha, by omega⟩, z2 ⟨ha, by omega⟩, z2 trivial, z2 (zhx (by simp; omega) (by omega)), z2 ⟨ha, by omega⟩, z2 trivial, z2 (by simp), z2 (by simp), hW]
  | some o =>
    have ho := hold o h
    simp only [Option.isSome_some, Bool.not_true, Bool.false_eq_true, if_false, Option.getD_some, Bool.false_or]
    rw [z2 (fun _ => ⟨by omega, by omega⟩), z2 (fun _ => ho), hW]
    by_cases c : decide ((gt x.edges (i : Int)).minutes < (gt x.edges o).minutes) = true
    · rw [if_pos c, if_pos c]
    · rw [if_neg c, if_neg c]
theorem za0 {i : Nat} (hi : i < x.edges.length) {P : Nat} {near : List (List Int)} {line : Ln} {a b : Int} (hl : near.length = P) (ha : 0 ≤ a) (ha' : a < (P : Int)) (hsz : (gt near a).length ≤ 10000) (hx : x.edges.length ≤ 2048) (hold : ∀ o, lget line a b = some o → 0 ≤ o ∧ o < (x.edges.length : Int)) :
    (if (!(lget line a b).isSome) = true then (ck ((0 : Int) ≤ a ∧ a < (near.length : Int)) (ck ((0 : Int) ≤ a ∧ a < (near.length : Int)) (ck ((a : Int) = a) (ck (fits ((gt near a).length + ([b]).length) 8) (ck ((0 : Int) ≤ a ∧ a < (near.length : Int)) (ck ((a : Int) = a) (z23 φ K i ((lget line a b).getD default) ((lget line a b).isSome) x.edges (x.edges.length : Int) i a0 b0 x (keyP a b) x (z05 near a (gt near a ++ [b])) line))))))) else (z23 φ K i ((lget line a b).getD default) ((lget line a b).isSome) x.edges (x.edges.length : Int) i a0 b0 x (keyP a b) x near line)) =
    K x.edges (x.edges.length : Int) ((i : Int) + 1) a0 b0 x x (ent1 x.edges i a b (near, line)).1 (ent1 x.edges i a b (near, line)).2 := z5v φ K x a0 b0 hi hl ha ha' hsz hx hold
theorem z5u (hx : z8x x) {i : Nat} (hi : i < x.edges.length) {near near1 : List (List Int)} {line : Ln} (old : Int) (sm : Bool) (hl : near1.length = x.places.length) (ho : sm = true → 0 ≤ old ∧ old < (x.edges.length : Int))
    (hsz : (gt near1 (gt x.edges (i : Int)).b).length ≤ 10000) (hline : ∀ a b o, lget line a b = some o → 0 ≤ o ∧ o < (x.edges.length : Int)) (line1 : Ln) (h1 : line1 = if (!sm || decide ((gt x.edges (i : Int)).minutes < (gt x.edges old).minutes)) = true then lset line (gt x.edges (i : Int)).a (gt x.edges (i : Int)).b i else line) :
    z2c φ K i old sm i x.edges (x.edges.length : Int) i a0 b0 x (keyP (gt x.edges (i : Int)).a (gt x.edges (i : Int)).b) (gt x.edges (i : Int)) x near1 line =
    K x.edges (x.edges.length : Int) ((i : Int) + 1) a0 b0 x x (ent1 x.edges i (gt x.edges (i : Int)).b (gt x.edges (i : Int)).a (near1, line1)).1 (ent1 x.edges i (gt x.edges (i : Int)).b (gt x.edges (i : Int)).a (near1, line1)).2 := by
  obtain ⟨e1, e2, e3, e4, e5, _⟩ := hx.ends (i := (i : Int)) (by omega) (by omega)
  unfold z2c
  rw [z2 (fun _ => ⟨by omega, by omega⟩), z2 (fun h => ho (by simpa using h))]
  by_cases c : (!sm || decide ((gt x.edges (i : Int)).minutes < (gt x.edges old).minutes)) = true
  · rw [if_pos c] at h1 ⊢
    subst h1
    refine z5v φ K x a0 b0 hi hl e3 e4 hsz hx.edges fun o h => ?_
    rw [zav, if_neg (fun q => e5 q.1.symm)] at h
    exact hline _ _ o h
  · rw [if_neg c] at h1 ⊢
    subst h1
    exact za0 φ K x a0 b0 hi hl e3 e4 hsz hx.edges fun o h => hline _ _ o h
end z0h
section z0h
variable (φ : Nat) (x : z6) (a0 b0 : Int)
theorem zbi (hx : z8x x) (n : Nat) {i : Nat} (hi : i < x.edges.length) {s : List (List Int) × Ln} (h : HI x.edges x.places.length i s) :
    ze φ (n + 1) x.edges (x.edges.length : Int) i a0 b0 x x s.1 s.2 = ze φ n x.edges (x.edges.length : Int) ((i : Int) + 1) a0 b0 x x (entE x.edges i s).1 (entE x.edges i s).2 := by
  obtain ⟨e1, e2, e3, e4, e5, _⟩ := hx.ends (i := (i : Int)) (by omega) (by omega)
  have hE := hx.edges
  have hline : ∀ a b o, lget s.2 a b = some o → 0 ≤ o ∧ o < (x.edges.length : Int) := fun a b o ho => by
    obtain ⟨h1, h2, _⟩ := h.line _ _ _ ho
    exact ⟨h1, by omega⟩
  have hsa := h.size _ e1 e2
  have hsb := h.size _ e3 e4
  have hlen := h.len
  rw [ze, if_pos (by simp; omega), z2 ⟨by omega, by omega⟩]
  unfold entE
  generalize hs1 : ent1 x.edges i (gt x.edges (i : Int)).a (gt x.edges (i : Int)).b s = s1
  have hs1' := hs1
  unfold ent1 at hs1'
  cases hg : lget s.2 (gt x.edges (i : Int)).a (gt x.edges (i : Int)).b with
  | none =>
    have hg' : @mget (Nat → Int) Int ⟨beqA 2⟩ s.2 (upd (upd (fun _ => (default : Int)) 0 (gt x.edges (i : Int)).a) 1 (gt x.edges (i : Int)).b) = none := hg
    rw [hg] at hs1'
    simp only [Option.isSome_none, Bool.not_false, if_true, Option.getD_none, Bool.true_or] at hs1'
    rw [hg']
    simp only [Option.isSome_none, Bool.not_false, if_true, Option.getD_none]
    rw [z2 ⟨e1, by omega⟩, z2 ⟨e1, by omega⟩, z2 trivial, z2 (zhx (by simp; omega) (by omega)), z2 ⟨e1, by omega⟩, z2 trivial, ← hs1']
    refine z5u φ (ze φ n) x a0 b0 hx hi (near := s.1) _ _ (by rw [z1j]; exact hlen) (fun h => by cases h) ?_ hline _ (by simp)
    rw [z0y _ _ _ _ e1 (by omega) e3, if_neg (fun q => e5 q.symm)]
    omega
  | some o =>
    have hg' : @mget (Nat → Int) Int ⟨beqA 2⟩ s.2 (upd (upd (fun _ => (default : Int)) 0 (gt x.edges (i : Int)).a) 1 (gt x.edges (i : Int)).b) = some o := hg
    rw [hg] at hs1'
    simp only [Option.isSome_some, Bool.not_true, Bool.false_eq_true, if_false, Option.getD_some, Bool.false_or] at hs1'
    rw [hg']
    simp only [Option.isSome_some, Bool.not_true, Bool.false_eq_true, if_false, Option.getD_some]
    rw [← hs1']
    exact z5u φ (ze φ n) x a0 b0 hx hi (near := s.1) _ _ hlen (fun _ => hline _ _ _ hg) (by omega) hline _ (by simp)
theorem zbh (hx : z8x x) (hφ : 5000 < φ) (line : Ln) : z0l φ φ ((z3w x).length : Int) 0 a0 b0 (z3w x) x line = (ck (z35 (x.places.length : Int) 8) (ck (z35 (((List.replicate ((x.places.length : Int) : Int).toNat (default : Int)).length : Int)) 1) (zp φ φ a0 (((List.replicate ((x.places.length : Int) : Int).toNat (default : Int)).length : Int)) 0 b0 x (List.replicate ((x.places.length : Int) : Int).toNat (default : Int)) ((List.replicate (((List.replicate ((x.places.length : Int) : Int).toNat (default : Int)).length : Int) : Int).toNat (default : Bool))) (zk x) line))) := by
  have hl0 : (z3w x).length = x.places.length := (z4n hx x.edges.length (Nat.le_refl _)).len
  have hP := hx.places
  have hE := hx.edges
  obtain ⟨n0, hn0⟩ : ∃ n0, n0 = x.places.length := ⟨_, rfl⟩
  rw [← hn0] at hl0 hP
  rw [hl0]
  have hfin : ∀ o : List (List Int), o.length = n0 → (∀ w : Nat, w < n0 → gt o (w : Int) = z6t (fun a b => decide (a < b)) (gt (z3w x) (w : Int))) → o = zk x := by
    intro o ho hw
    unfold zk
    refine List.ext_getElem (by simp [ho, hl0]) fun i h1 h2 => ?_
    have := hw i (by omega)
    rw [z44 h1, z44 (by omega)] at this
    simpa using this
  refine zm (fun n i o => z0l φ n (n0 : Int) i a0 b0 o x line) n0 (fun i o => o.length = n0 ∧ ∀ w : Nat, w < n0 → gt o (w : Int) = if w < i then z6t (fun a b => decide (a < b)) (gt (z3w x) (w : Int)) else gt (z3w x) (w : Int)) (fun o => o = (ck (z35 (x.places.length : Int) 8) (ck (z35 (((List.replicate ((x.places.length : Int) : Int).toNat (default : Int)).length : Int)) 1) (zp φ φ a0 (((List.replicate ((x.places.length : Int) : Int).toNat (default : Int)).length : Int)) 0 b0 x (List.replicate ((x.places.length : Int) : Int).toNat (default : Int)) ((List.replicate (((List.replicate ((x.places.length : Int) : Int).toNat (default : Int)).length : Int) : Int).toNat (default : Bool))) (zk x) line)))) ?_ ?_ φ (z3w x) ⟨hl0, fun w hw => by rw [if_neg (by omega)]⟩ (by omega)
  · intro n i o hi ⟨ho1, ho2⟩ hs
    have hsz := (z4n hx x.edges.length (Nat.le_refl _)).size (i : Int) (by omega) (by omega)
    have hsz : (gt (z3w x) (i : Int)).length ≤ 2 * x.edges.length := hsz
    have hso : z8s (gt (z3w x) (i : Int)) = some (z6t (fun a b => decide (a < b)) (gt (z3w x) (i : Int))) := by
      unfold z8s zba; rw [if_pos (by omega)]
    rw [z0l, if_pos (by simp; omega), z2 ⟨by omega, by omega⟩, z2 ⟨by omega, by omega⟩, z2 rfl, ho2 i hi, if_neg (by omega), hso, Option.bind_some, W_id (by omega) (by omega)]
    refine hs _ ⟨by rw [z1j]; exact ho1, fun w hw => ?_⟩
    rw [z0y _ _ _ _ (by omega) (by omega) (by omega)]
    by_cases e : w = i
    · subst e; rw [if_pos rfl, if_pos (by omega)]
    · rw [if_neg (by omega), ho2 w hw]
      by_cases h2 : w < i
      · rw [if_pos h2, if_pos (by omega)]
      · rw [if_neg h2, if_neg (by omega)]
  · intro n o ⟨ho1, ho2⟩
    have := hfin o ho1 fun w hw => by rw [ho2 w hw, if_pos hw]
    subst this
    rw [z0l, if_neg (by simp)]
theorem zam (hx : z8x x) (hφ : 5000 < φ) : ze φ φ x.edges (x.edges.length : Int) 0 a0 b0 x x (List.replicate ((x.places.length : Int)).toNat (default : List Int)) [] = (ck (z35 (x.places.length : Int) 8) (ck (z35 (((List.replicate ((x.places.length : Int) : Int).toNat (default : Int)).length : Int)) 1) (zp φ φ a0 (((List.replicate ((x.places.length : Int) : Int).toNat (default : Int)).length : Int)) 0 b0 x (List.replicate ((x.places.length : Int) : Int).toNat (default : Int)) ((List.replicate (((List.replicate ((x.places.length : Int) : Int).toNat (default : Int)).length : Int) : Int).toNat (default : Bool))) (zk x) (z1k x)))) := by
  have hE := hx.edges
  have h0 : (List.replicate ((x.places.length : Int)).toNat (default : List Int), ([] : Ln)) = z8d x.edges x.places.length 0 := by simp [z8d]
  refine zm (fun n i (s : List (List Int) × Ln) => ze φ n x.edges (x.edges.length : Int) i a0 b0 x x s.1 s.2) x.edges.length (fun i s => s = z8d x.edges x.places.length i) (fun o => o = (ck (z35 (x.places.length : Int) 8) (ck (z35 (((List.replicate ((x.places.length : Int) : Int).toNat (default : Int)).length : Int)) 1) (zp φ φ a0 (((List.replicate ((x.places.length : Int) : Int).toNat (default : Int)).length : Int)) 0 b0 x (List.replicate ((x.places.length : Int) : Int).toNat (default : Int)) ((List.replicate (((List.replicate ((x.places.length : Int) : Int).toNat (default : Int)).length : Int) : Int).toNat (default : Bool))) (zk x) (z1k x))))) ?_ ?_ φ (List.replicate ((x.places.length : Int)).toNat (default : List Int), []) h0 (by omega)
  · intro n i s hi hs hk
    subst hs
    rw [zbi φ x a0 b0 hx n hi (z4n hx i (by omega))]
    exact hk _ rfl
  · intro n s hs
    subst hs
    rw [ze, if_neg (by simp)]
    exact zbh φ x a0 b0 hx hφ (z1k x)
end z0h
section z1d
variable (φ : Nat) (K : List Edge → Int → Int → Int → Int → z6 → z6 → List (List Int) → Ln → Option ((List Int) × Int × Unit)) (x : z6) (a0 b0 : Int)
theorem z75 {i : Nat} (hi : i < x.edges.length) {P : Nat} {near : List (List Int)} {line : Ln} {a b : Int} (hl : near.length = P) (ha : 0 ≤ a) (ha' : a < (P : Int)) (hsz : (gt near a).length ≤ 10000) (hx : x.edges.length ≤ 2048) (hold : ∀ o, lget line a b = some o → 0 ≤ o ∧ o < (x.edges.length : Int)) :
    (if (!(lget line a b).isSome) = true then (ck ((0 : Int) ≤ a ∧ a < (near.length : Int)) (ck ((0 : Int) ≤ a ∧ a < (near.length : Int)) (ck ((a : Int) = a) (ck (fits ((gt near a).length + ([b]).length) 8) (ck ((0 : Int) ≤ a ∧ a < (near.length : Int)) (ck ((a : Int) = a) (z2x φ K i ((lget line a b).getD default) ((lget line a b).isSome) x.edges (x.edges.length : Int) i a0 b0 x (keyP a b) x (z05 near a (gt near a ++ [b])) line))))))) else (z2x φ K i ((lget line a b).getD default) ((lget line a b).isSome) x.edges (x.edges.length : Int) i a0 b0 x (keyP a b) x near line)) =
    K x.edges (x.edges.length : Int) ((i : Int) + 1) a0 b0 x x (ent1 x.edges i a b (near, line)).1 (ent1 x.edges i a b (near, line)).2 := by
  have hW : W ((i : Int) + 1) = (i : Int) + 1 := W_id (by omega) (by omega)
  unfold z2x ent1
  simp only []
  cases h : lget line a b with
  | none =>
    simp only [Option.isSome_none, Bool.not_false, if_true, Option.getD_none, Bool.true_or]
    rw [z2 ⟨ha, by omega⟩, z2 ⟨ha, by omega⟩, z2 trivial, z2 (zhx (by simp; omega) (by omega)), z2 ⟨ha, by omega⟩, z2 trivial, z2 (by simp), z2 (by simp), hW]
  | some o =>
    have ho := hold o h
    simp only [Option.isSome_some, Bool.not_true, Bool.false_eq_true, if_false, Option.getD_some, Bool.false_or]
    rw [z2 (fun _ => ⟨by omega, by omega⟩), z2 (fun _ => ho), hW]
    by_cases c : decide ((gt x.edges (i : Int)).minutes < (gt x.edges o).minutes) = true
    · rw [if_pos c, if_pos c]
    · rw [if_neg c, if_neg c]
theorem zbd {i : Nat} (hi : i < x.edges.length) {P : Nat} {near : List (List Int)} {line : Ln} {a b : Int} (hl : near.length = P) (ha : 0 ≤ a) (ha' : a < (P : Int)) (hsz : (gt near a).length ≤ 10000) (hx : x.edges.length ≤ 2048) (hold : ∀ o, lget line a b = some o → 0 ≤ o ∧ o < (x.edges.length : Int)) :
    (if (!(lget line a b).isSome) = true then (ck ((0 : Int) ≤ a ∧ a < (near.length : Int)) (ck ((0 : Int) ≤ a ∧ a < (near.length : Int)) (ck ((a : Int) = a) (ck (fits ((gt near a).length + ([b]).length) 8) (ck ((0 : Int) ≤ a ∧ a < (near.length : Int)) (ck ((a : Int) = a) (z2s φ K i ((lget line a b).getD default) ((lget line a b).isSome) x.edges (x.edges.length : Int) i a0 b0 x (keyP a b) x (z05 near a (gt near a ++ [b])) line))))))) else (z2s φ K i ((lget line a b).getD default) ((lget line a b).isSome) x.edges (x.edges.length : Int) i a0 b0 x (keyP a b) x near line)) =
    K x.edges (x.edges.length : Int) ((i : Int) + 1) a0 b0 x x (ent1 x.edges i a b (near, line)).1 (ent1 x.edges i a b (near, line)).2 := z75 φ K x a0 b0 hi hl ha ha' hsz hx hold
theorem z79 (hx : z8x x) {i : Nat} (hi : i < x.edges.length) {near near1 : List (List Int)} {line : Ln} (old : Int) (sm : Bool) (hl : near1.length = x.places.length) (ho : sm = true → 0 ≤ old ∧ old < (x.edges.length : Int))
    (hsz : (gt near1 (gt x.edges (i : Int)).b).length ≤ 10000) (hline : ∀ a b o, lget line a b = some o → 0 ≤ o ∧ o < (x.edges.length : Int)) (line1 : Ln) (h1 : line1 = if (!sm || decide ((gt x.edges (i : Int)).minutes < (gt x.edges old).minutes)) = true then lset line (gt x.edges (i : Int)).a (gt x.edges (i : Int)).b i else line) :
    z2t φ K i old sm i x.edges (x.edges.length : Int) i a0 b0 x (keyP (gt x.edges (i : Int)).a (gt x.edges (i : Int)).b) (gt x.edges (i : Int)) x near1 line =
    K x.edges (x.edges.length : Int) ((i : Int) + 1) a0 b0 x x (ent1 x.edges i (gt x.edges (i : Int)).b (gt x.edges (i : Int)).a (near1, line1)).1 (ent1 x.edges i (gt x.edges (i : Int)).b (gt x.edges (i : Int)).a (near1, line1)).2 := by
  obtain ⟨e1, e2, e3, e4, e5, _⟩ := hx.ends (i := (i : Int)) (by omega) (by omega)
  unfold z2t
  rw [z2 (fun _ => ⟨by omega, by omega⟩), z2 (fun h => ho (by simpa using h))]
  by_cases c : (!sm || decide ((gt x.edges (i : Int)).minutes < (gt x.edges old).minutes)) = true
  · rw [if_pos c] at h1 ⊢
    subst h1
    refine z75 φ K x a0 b0 hi hl e3 e4 hsz hx.edges fun o h => ?_
    rw [zav, if_neg (fun q => e5 q.1.symm)] at h
    exact hline _ _ o h
  · rw [if_neg c] at h1 ⊢
    subst h1
    exact zbd φ K x a0 b0 hi hl e3 e4 hsz hx.edges fun o h => hline _ _ o h
end z1d
section z1d
variable (φ : Nat) (x : z6) (a0 b0 : Int)
theorem zd8 (hx : z8x x) (n : Nat) {i : Nat} (hi : i < x.edges.length) {s : List (List Int) × Ln} (h : HI x.edges x.places.length i s) :
    zj φ (n + 1) x.edges (x.edges.length : Int) i a0 b0 x x s.1 s.2 = zj φ n x.edges (x.edges.length : Int) ((i : Int) + 1) a0 b0 x x (entE x.edges i s).1 (entE x.edges i s).2 := by
  obtain ⟨e1, e2, e3, e4, e5, _⟩ := hx.ends (i := (i : Int)) (by omega) (by omega)
  have hE := hx.edges
  have hline : ∀ a b o, lget s.2 a b = some o → 0 ≤ o ∧ o < (x.edges.length : Int) := fun a b o ho => by
    obtain ⟨h1, h2, _⟩ := h.line _ _ _ ho
    exact ⟨h1, by omega⟩
  have hsa := h.size _ e1 e2
  have hsb := h.size _ e3 e4
  have hlen := h.len
  rw [zj, if_pos (by simp; omega), z2 ⟨by omega, by omega⟩]
  unfold entE
  generalize hs1 : ent1 x.edges i (gt x.edges (i : Int)).a (gt x.edges (i : Int)).b s = s1
  have hs1' := hs1
  unfold ent1 at hs1'
  cases hg : lget s.2 (gt x.edges (i : Int)).a (gt x.edges (i : Int)).b with
  | none =>
    have hg' : @mget (Nat → Int) Int ⟨beqA 2⟩ s.2 (upd (upd (fun _ => (default : Int)) 0 (gt x.edges (i : Int)).a) 1 (gt x.edges (i : Int)).b) = none := hg
    rw [hg] at hs1'
    simp only [Option.isSome_none, Bool.not_false, if_true, Option.getD_none, Bool.true_or] at hs1'
    rw [hg']
    simp only [Option.isSome_none, Bool.not_false, if_true, Option.getD_none]
    rw [z2 ⟨e1, by omega⟩, z2 ⟨e1, by omega⟩, z2 trivial, z2 (zhx (by simp; omega) (by omega)), z2 ⟨e1, by omega⟩, z2 trivial, ← hs1']
    refine z79 φ (zj φ n) x a0 b0 hx hi (near := s.1) _ _ (by rw [z1j]; exact hlen) (fun h => by cases h) ?_ hline _ (by simp)
    rw [z0y _ _ _ _ e1 (by omega) e3, if_neg (fun q => e5 q.symm)]
    omega
  | some o =>
    have hg' : @mget (Nat → Int) Int ⟨beqA 2⟩ s.2 (upd (upd (fun _ => (default : Int)) 0 (gt x.edges (i : Int)).a) 1 (gt x.edges (i : Int)).b) = some o := hg
    rw [hg] at hs1'
    simp only [Option.isSome_some, Bool.not_true, Bool.false_eq_true, if_false, Option.getD_some, Bool.false_or] at hs1'
    rw [hg']
    simp only [Option.isSome_some, Bool.not_true, Bool.false_eq_true, if_false, Option.getD_some]
    rw [← hs1']
    exact z79 φ (zj φ n) x a0 b0 hx hi (near := s.1) _ _ hlen (fun _ => hline _ _ _ hg) (by omega) hline _ (by simp)
theorem zd5 (hx : z8x x) (hφ : 5000 < φ) (line : Ln) : z17 φ φ ((z3w x).length : Int) 0 a0 b0 (z3w x) x line = (ck (z35 (x.places.length : Int) 8) (ck (z35 (((List.replicate ((x.places.length : Int) : Int).toNat (default : Int)).length : Int)) 1) (zu φ φ b0 (((List.replicate ((x.places.length : Int) : Int).toNat (default : Int)).length : Int)) 0 a0 b0 x (List.replicate ((x.places.length : Int) : Int).toNat (default : Int)) ((List.replicate (((List.replicate ((x.places.length : Int) : Int).toNat (default : Int)).length : Int) : Int).toNat (default : Bool))) x (zk x) line))) := by
  have hl0 : (z3w x).length = x.places.length := (z4n hx x.edges.length (Nat.le_refl _)).len
  have hP := hx.places
  have hE := hx.edges
  obtain ⟨n0, hn0⟩ : ∃ n0, n0 = x.places.length := ⟨_, rfl⟩
  rw [← hn0] at hl0 hP
  rw [hl0]
  have hfin : ∀ o : List (List Int), o.length = n0 → (∀ w : Nat, w < n0 → gt o (w : Int) = z6t (fun a b => decide (a < b)) (gt (z3w x) (w : Int))) → o = zk x := by
    intro o ho hw
    unfold zk
    refine List.ext_getElem (by simp [ho, hl0]) fun i h1 h2 => ?_
    have := hw i (by omega)
    rw [z44 h1, z44 (by omega)] at this
    simpa using this
  refine zm (fun n i o => z17 φ n (n0 : Int) i a0 b0 o x line) n0 (fun i o => o.length = n0 ∧ ∀ w : Nat, w < n0 → gt o (w : Int) = if w < i then z6t (fun a b => decide (a < b)) (gt (z3w x) (w : Int)) else gt (z3w x) (w : Int)) (fun o => o = (ck (z35 (x.places.length : Int) 8) (ck (z35 (((List.replicate ((x.places.length : Int) : Int).toNat (default : Int)).length : Int)) 1) (zu φ φ b0 (((List.replicate ((x.places.length : Int) : Int).toNat (default : Int)).length : Int)) 0 a0 b0 x (List.replicate ((x.places.length : Int) : Int).toNat (default : Int)) ((List.replicate (((List.replicate ((x.places.length : Int) : Int).toNat (default : Int)).length : Int) : Int).toNat (default : Bool))) x (zk x) line)))) ?_ ?_ φ (z3w x) ⟨hl0, fun w hw => by rw [if_neg (by omega)]⟩ (by omega)
  · intro n i o hi ⟨ho1, ho2⟩ hs
    have hsz := (z4n hx x.edges.length (Nat.le_refl _)).size (i : Int) (by omega) (by omega)
    have hsz : (gt (z3w x) (i : Int)).length ≤ 2 * x.edges.length := hsz
    have hso : z8s (gt (z3w x) (i : Int)) = some (z6t (fun a b => decide (a < b)) (gt (z3w x) (i : Int))) := by
      unfold z8s zba; rw [if_pos (by omega)]
    rw [z17, if_pos (by simp; omega), z2 ⟨by omega, by omega⟩, z2 ⟨by omega, by omega⟩, z2 rfl, ho2 i hi, if_neg (by omega), hso, Option.bind_some, W_id (by omega) (by omega)]
    refine hs _ ⟨by rw [z1j]; exact ho1, fun w hw => ?_⟩
    rw [z0y _ _ _ _ (by omega) (by omega) (by omega)]
    by_cases e : w = i
    · subst e; rw [if_pos rfl, if_pos (by omega)]
    · rw [if_neg (by omega), ho2 w hw]
      by_cases h2 : w < i
      · rw [if_pos h2, if_pos (by omega)]
      · rw [if_neg h2, if_neg (by omega)]
  · intro n o ⟨ho1, ho2⟩
    have := hfin o ho1 fun w hw => by rw [ho2 w hw, if_pos hw]
    subst this
    rw [z17, if_neg (by simp)]
theorem zc5 (hx : z8x x) (hφ : 5000 < φ) : zj φ φ x.edges (x.edges.length : Int) 0 a0 b0 x x (List.replicate ((x.places.length : Int)).toNat (default : List Int)) [] = (ck (z35 (x.places.length : Int) 8) (ck (z35 (((List.replicate ((x.places.length : Int) : Int).toNat (default : Int)).length : Int)) 1) (zu φ φ b0 (((List.replicate ((x.places.length : Int) : Int).toNat (default : Int)).length : Int)) 0 a0 b0 x (List.replicate ((x.places.length : Int) : Int).toNat (default : Int)) ((List.replicate (((List.replicate ((x.places.length : Int) : Int).toNat (default : Int)).length : Int) : Int).toNat (default : Bool))) x (zk x) (z1k x)))) := by
  have hE := hx.edges
  have h0 : (List.replicate ((x.places.length : Int)).toNat (default : List Int), ([] : Ln)) = z8d x.edges x.places.length 0 := by simp [z8d]
  refine zm (fun n i (s : List (List Int) × Ln) => zj φ n x.edges (x.edges.length : Int) i a0 b0 x x s.1 s.2) x.edges.length (fun i s => s = z8d x.edges x.places.length i) (fun o => o = (ck (z35 (x.places.length : Int) 8) (ck (z35 (((List.replicate ((x.places.length : Int) : Int).toNat (default : Int)).length : Int)) 1) (zu φ φ b0 (((List.replicate ((x.places.length : Int) : Int).toNat (default : Int)).length : Int)) 0 a0 b0 x (List.replicate ((x.places.length : Int) : Int).toNat (default : Int)) ((List.replicate (((List.replicate ((x.places.length : Int) : Int).toNat (default : Int)).length : Int) : Int).toNat (default : Bool))) x (zk x) (z1k x))))) ?_ ?_ φ (List.replicate ((x.places.length : Int)).toNat (default : List Int), []) h0 (by omega)
  · intro n i s hi hs hk
    subst hs
    rw [zd8 φ x a0 b0 hx n hi (z4n hx i (by omega))]
    exact hk _ rfl
  · intro n s hs
    subst hs
    rw [zj, if_neg (by simp)]
    exact zd5 φ x a0 b0 hx hφ (z1k x)
end z1d
section z1w
variable (φ : Nat) (K : List Edge → Int → Int → List Int → z6 → z6 → List z32 → List (List Int) → Ln → Option ((List z32) × Int × Unit)) (x : z6) (rt : List Int) (sh : List z32)
theorem z6k {i : Nat} (hi : i < x.edges.length) {P : Nat} {near : List (List Int)} {line : Ln} {a b : Int} (hl : near.length = P) (ha : 0 ≤ a) (ha' : a < (P : Int)) (hsz : (gt near a).length ≤ 10000) (hx : x.edges.length ≤ 2048) (hold : ∀ o, lget line a b = some o → 0 ≤ o ∧ o < (x.edges.length : Int)) :
    (if (!(lget line a b).isSome) = true then (ck ((0 : Int) ≤ a ∧ a < (near.length : Int)) (ck ((0 : Int) ≤ a ∧ a < (near.length : Int)) (ck ((a : Int) = a) (ck (fits ((gt near a).length + ([b]).length) 8) (ck ((0 : Int) ≤ a ∧ a < (near.length : Int)) (ck ((a : Int) = a) (z2i φ K i ((lget line a b).getD default) ((lget line a b).isSome) x.edges (x.edges.length : Int) i rt x (keyP a b) x sh (z05 near a (gt near a ++ [b])) line))))))) else (z2i φ K i ((lget line a b).getD default) ((lget line a b).isSome) x.edges (x.edges.length : Int) i rt x (keyP a b) x sh near line)) =
    K x.edges (x.edges.length : Int) ((i : Int) + 1) rt x x sh (ent1 x.edges i a b (near, line)).1 (ent1 x.edges i a b (near, line)).2 := by
  have hW : W ((i : Int) + 1) = (i : Int) + 1 := W_id (by omega) (by omega)
  unfold z2i ent1
  simp only []
  cases h : lget line a b with
  | none =>
    simp only [Option.isSome_none, Bool.not_false, if_true, Option.getD_none, Bool.true_or]
    rw [z2 ⟨ha, by omega⟩, z2 ⟨ha, by omega⟩, z2 trivial, z2 (zhx (by simp; omega) (by omega)), z2 ⟨ha, by omega⟩, z2 trivial, z2 (by simp), z2 (by simp), hW]
  | some o =>
    have ho := hold o h
    simp only [Option.isSome_some, Bool.not_true, Bool.false_eq_true, if_false, Option.getD_some, Bool.false_or]
    rw [z2 (fun _ => ⟨by omega, by omega⟩), z2 (fun _ => ho), hW]
    by_cases c : decide ((gt x.edges (i : Int)).minutes < (gt x.edges o).minutes) = true
    · rw [if_pos c, if_pos c]
    · rw [if_neg c, if_neg c]
theorem zah {i : Nat} (hi : i < x.edges.length) {P : Nat} {near : List (List Int)} {line : Ln} {a b : Int} (hl : near.length = P) (ha : 0 ≤ a) (ha' : a < (P : Int)) (hsz : (gt near a).length ≤ 10000) (hx : x.edges.length ≤ 2048) (hold : ∀ o, lget line a b = some o → 0 ≤ o ∧ o < (x.edges.length : Int)) :
    (if (!(lget line a b).isSome) = true then (ck ((0 : Int) ≤ a ∧ a < (near.length : Int)) (ck ((0 : Int) ≤ a ∧ a < (near.length : Int)) (ck ((a : Int) = a) (ck (fits ((gt near a).length + ([b]).length) 8) (ck ((0 : Int) ≤ a ∧ a < (near.length : Int)) (ck ((a : Int) = a) (z2j φ K i ((lget line a b).getD default) ((lget line a b).isSome) x.edges (x.edges.length : Int) i rt x (keyP a b) x sh (z05 near a (gt near a ++ [b])) line))))))) else (z2j φ K i ((lget line a b).getD default) ((lget line a b).isSome) x.edges (x.edges.length : Int) i rt x (keyP a b) x sh near line)) =
    K x.edges (x.edges.length : Int) ((i : Int) + 1) rt x x sh (ent1 x.edges i a b (near, line)).1 (ent1 x.edges i a b (near, line)).2 := z6k φ K x rt sh hi hl ha ha' hsz hx hold
theorem z6s (hx : z8x x) {i : Nat} (hi : i < x.edges.length) {near near1 : List (List Int)} {line : Ln} (old : Int) (sm : Bool) (hl : near1.length = x.places.length) (ho : sm = true → 0 ≤ old ∧ old < (x.edges.length : Int))
    (hsz : (gt near1 (gt x.edges (i : Int)).b).length ≤ 10000) (hline : ∀ a b o, lget line a b = some o → 0 ≤ o ∧ o < (x.edges.length : Int)) (line1 : Ln) (h1 : line1 = if (!sm || decide ((gt x.edges (i : Int)).minutes < (gt x.edges old).minutes)) = true then lset line (gt x.edges (i : Int)).a (gt x.edges (i : Int)).b i else line) :
    z2n φ K i old sm i x.edges (x.edges.length : Int) i rt x (keyP (gt x.edges (i : Int)).a (gt x.edges (i : Int)).b) (gt x.edges (i : Int)) x sh near1 line =
    K x.edges (x.edges.length : Int) ((i : Int) + 1) rt x x sh (ent1 x.edges i (gt x.edges (i : Int)).b (gt x.edges (i : Int)).a (near1, line1)).1 (ent1 x.edges i (gt x.edges (i : Int)).b (gt x.edges (i : Int)).a (near1, line1)).2 := by
  obtain ⟨e1, e2, e3, e4, e5, _⟩ := hx.ends (i := (i : Int)) (by omega) (by omega)
  unfold z2n
  rw [z2 (fun _ => ⟨by omega, by omega⟩), z2 (fun h => ho (by simpa using h))]
  by_cases c : (!sm || decide ((gt x.edges (i : Int)).minutes < (gt x.edges old).minutes)) = true
  · rw [if_pos c] at h1 ⊢
    subst h1
    refine z6k φ K x rt sh hi hl e3 e4 hsz hx.edges fun o h => ?_
    rw [zav, if_neg (fun q => e5 q.1.symm)] at h
    exact hline _ _ o h
  · rw [if_neg c] at h1 ⊢
    subst h1
    exact zah φ K x rt sh hi hl e3 e4 hsz hx.edges fun o h => hline _ _ o h
end z1w
section z1w
variable (φ : Nat) (x : z6) (rt : List Int) (sh : List z32)
theorem zc1 (hx : z8x x) (n : Nat) {i : Nat} (hi : i < x.edges.length) {s : List (List Int) × Ln} (h : HI x.edges x.places.length i s) :
    zl φ (n + 1) x.edges (x.edges.length : Int) i rt x x sh s.1 s.2 = zl φ n x.edges (x.edges.length : Int) ((i : Int) + 1) rt x x sh (entE x.edges i s).1 (entE x.edges i s).2 := by
  obtain ⟨e1, e2, e3, e4, e5, _⟩ := hx.ends (i := (i : Int)) (by omega) (by omega)
  have hE := hx.edges
  have hline : ∀ a b o, lget s.2 a b = some o → 0 ≤ o ∧ o < (x.edges.length : Int) := fun a b o ho => by
    obtain ⟨h1, h2, _⟩ := h.line _ _ _ ho
    exact ⟨h1, by omega⟩
  have hsa := h.size _ e1 e2
  have hsb := h.size _ e3 e4
  have hlen := h.len
  rw [zl, if_pos (by simp; omega), z2 ⟨by omega, by omega⟩]
  unfold entE
  generalize hs1 : ent1 x.edges i (gt x.edges (i : Int)).a (gt x.edges (i : Int)).b s = s1
  have hs1' := hs1
  unfold ent1 at hs1'
  cases hg : lget s.2 (gt x.edges (i : Int)).a (gt x.edges (i : Int)).b with
  | none =>
    have hg' : @mget (Nat → Int) Int ⟨beqA 2⟩ s.2 (upd (upd (fun _ => (default : Int)) 0 (gt x.edges (i : Int)).a) 1 (gt x.edges (i : Int)).b) = none := hg
    rw [hg] at hs1'
    simp only [Option.isSome_none, Bool.not_false, if_true, Option.getD_none, Bool.true_or] at hs1'
    rw [hg']
    simp only [Option.isSome_none, Bool.not_false, if_true, Option.getD_none]
    rw [z2 ⟨e1, by omega⟩, z2 ⟨e1, by omega⟩, z2 trivial, z2 (zhx (by simp; omega) (by omega)), z2 ⟨e1, by omega⟩, z2 trivial, ← hs1']
    refine z6s φ (zl φ n) x rt sh hx hi (near := s.1) _ _ (by rw [z1j]; exact hlen) (fun h => by cases h) ?_ hline _ (by simp)
    rw [z0y _ _ _ _ e1 (by omega) e3, if_neg (fun q => e5 q.symm)]
    omega
  | some o =>
    have hg' : @mget (Nat → Int) Int ⟨beqA 2⟩ s.2 (upd (upd (fun _ => (default : Int)) 0 (gt x.edges (i : Int)).a) 1 (gt x.edges (i : Int)).b) = some o := hg
    rw [hg] at hs1'
    simp only [Option.isSome_some, Bool.not_true, Bool.false_eq_true, if_false, Option.getD_some, Bool.false_or] at hs1'
    rw [hg']
    simp only [Option.isSome_some, Bool.not_true, Bool.false_eq_true, if_false, Option.getD_some]
    rw [← hs1']
    exact z6s φ (zl φ n) x rt sh hx hi (near := s.1) _ _ hlen (fun _ => hline _ _ _ hg) (by omega) hline _ (by simp)
theorem zbq (hx : z8x x) (hφ : 5000 < φ) (line : Ln) : z0z φ φ ((z3w x).length : Int) 0 rt (z3w x) x sh line = (zy φ φ rt 1 x sh ([] : List (Int × Int)) (zk x) line) := by
  have hl0 : (z3w x).length = x.places.length := (z4n hx x.edges.length (Nat.le_refl _)).len
  have hP := hx.places
  have hE := hx.edges
  obtain ⟨n0, hn0⟩ : ∃ n0, n0 = x.places.length := ⟨_, rfl⟩
  rw [← hn0] at hl0 hP
  rw [hl0]
  have hfin : ∀ o : List (List Int), o.length = n0 → (∀ w : Nat, w < n0 → gt o (w : Int) = z6t (fun a b => decide (a < b)) (gt (z3w x) (w : Int))) → o = zk x := by
    intro o ho hw
    unfold zk
    refine List.ext_getElem (by simp [ho, hl0]) fun i h1 h2 => ?_
    have := hw i (by omega)
    rw [z44 h1, z44 (by omega)] at this
    simpa using this
  refine zm (fun n i o => z0z φ n (n0 : Int) i rt o x sh line) n0 (fun i o => o.length = n0 ∧ ∀ w : Nat, w < n0 → gt o (w : Int) = if w < i then z6t (fun a b => decide (a < b)) (gt (z3w x) (w : Int)) else gt (z3w x) (w : Int)) (fun o => o = (zy φ φ rt 1 x sh ([] : List (Int × Int)) (zk x) line)) ?_ ?_ φ (z3w x) ⟨hl0, fun w hw => by rw [if_neg (by omega)]⟩ (by omega)
  · intro n i o hi ⟨ho1, ho2⟩ hs
    have hsz := (z4n hx x.edges.length (Nat.le_refl _)).size (i : Int) (by omega) (by omega)
    have hsz : (gt (z3w x) (i : Int)).length ≤ 2 * x.edges.length := hsz
    have hso : z8s (gt (z3w x) (i : Int)) = some (z6t (fun a b => decide (a < b)) (gt (z3w x) (i : Int))) := by
      unfold z8s zba; rw [if_pos (by omega)]
    rw [z0z, if_pos (by simp; omega), z2 ⟨by omega, by omega⟩, z2 ⟨by omega, by omega⟩, z2 rfl, ho2 i hi, if_neg (by omega), hso, Option.bind_some, W_id (by omega) (by omega)]
    refine hs _ ⟨by rw [z1j]; exact ho1, fun w hw => ?_⟩
    rw [z0y _ _ _ _ (by omega) (by omega) (by omega)]
    by_cases e : w = i
    · subst e; rw [if_pos rfl, if_pos (by omega)]
    · rw [if_neg (by omega), ho2 w hw]
      by_cases h2 : w < i
      · rw [if_pos h2, if_pos (by omega)]
      · rw [if_neg h2, if_neg (by omega)]
  · intro n o ⟨ho1, ho2⟩
    have := hfin o ho1 fun w hw => by rw [ho2 w hw, if_pos hw]
    subst this
    rw [z0z, if_neg (by simp)]
theorem zbg (hx : z8x x) (hφ : 5000 < φ) : zl φ φ x.edges (x.edges.length : Int) 0 rt x x sh (List.replicate ((x.places.length : Int)).toNat (default : List Int)) [] = (zy φ φ rt 1 x sh ([] : List (Int × Int)) (zk x) (z1k x)) := by
  have hE := hx.edges
  have h0 : (List.replicate ((x.places.length : Int)).toNat (default : List Int), ([] : Ln)) = z8d x.edges x.places.length 0 := by simp [z8d]
  refine zm (fun n i (s : List (List Int) × Ln) => zl φ n x.edges (x.edges.length : Int) i rt x x sh s.1 s.2) x.edges.length (fun i s => s = z8d x.edges x.places.length i) (fun o => o = (zy φ φ rt 1 x sh ([] : List (Int × Int)) (zk x) (z1k x))) ?_ ?_ φ (List.replicate ((x.places.length : Int)).toNat (default : List Int), []) h0 (by omega)
  · intro n i s hi hs hk
    subst hs
    rw [zc1 φ x rt sh hx n hi (z4n hx i (by omega))]
    exact hk _ rfl
  · intro n s hs
    subst hs
    rw [zl, if_neg (by simp)]
    exact zbq φ x rt sh hx hφ (z1k x)
end z1w
end Px
end
section
namespace Px
open Go
set_option linter.unusedVariables false
set_option linter.unusedSimpArgs false
section z0h
variable (φ : Nat) (x : z6) (a0 b0 : Int)
theorem zas (hx : z8x x) (hφ : 800000 < φ) (hs : 0 ≤ a0) (hs' : a0 < (x.places.length : Int)) : ∃ t, DF x.places.length (zk x) (wtN x) a0 t ∧
    zp φ φ a0 (((List.replicate ((x.places.length : Int) : Int).toNat (default : Int)).length : Int)) 0 b0 x (List.replicate ((x.places.length : Int) : Int).toNat (default : Int)) ((List.replicate (((List.replicate ((x.places.length : Int) : Int).toNat (default : Int)).length : Int) : Int).toNat (default : Bool)))  (zk x) (z1k x) = (ck ((0 : Int) ≤ b0 ∧ b0 < (t.length : Int)) (if (decide (((gt t b0) : Int) < 0)) = true then (some (0, 80, ())) else (some ((gt t b0), 0, ())))) := by
  have hG := grN hx
  have hP := hx.places
  have hrep : (List.replicate ((x.places.length : Int) : Int).toNat (default : Int)).length = x.places.length := by simp
  rw [hrep]
  have e1 : ((x.places.length : Int)).toNat = x.places.length := by simp
  rw [e1]
  -- the search
  have search : ∀ t : List Int, t.length = x.places.length → (∀ i : Int, 0 ≤ i → i < (x.places.length : Int) → gt t i = if i = a0 then 0 else -1) →
      ∃ t', DF x.places.length (zk x) (wtN x) a0 t' ∧ zh φ φ b0 x t (List.replicate x.places.length (default : Bool))  (zk x) (z1k x) = (ck ((0 : Int) ≤ b0 ∧ b0 < (t'.length : Int)) (if (decide (((gt t' b0) : Int) < 0)) = true then (some (0, 80, ())) else (some ((gt t' b0), 0, ())))) := by
    intro t ht hall
    refine zo0 hG hs hs' (fun n t d => zh φ n b0 x t d  (zk x) (z1k x)) (fun t' => (ck ((0 : Int) ≤ b0 ∧ b0 < (t'.length : Int)) (if (decide (((gt t' b0) : Int) < 0)) = true then (some (0, 80, ())) else (some ((gt t' b0), 0, ()))))) φ ?_ φ 0 t _ (zpe hs hs' t ht hall) (by omega)
    intro n k t d hk hD
    obtain ⟨p, hp1, hp2⟩ := zx0 hP (fun m p i => z0b φ (zh φ n) m p (x.places.length : Int) i b0 x t d  (zk x) (z1k x))
      (fun p => (if (decide ((p : Int) < 0)) = true then (ck ((0 : Int) ≤ b0 ∧ b0 < (t.length : Int)) (if (decide (((gt t b0) : Int) < 0)) = true then (some (0, 80, ())) else (some ((gt t b0), 0, ())))) else (ck ((0 : Int) ≤ p ∧ p < (d.length : Int)) (ck ((0 : Int) ≤ p ∧ p < ((zk x).length : Int)) (ck ((0 : Int) ≤ p ∧ p < ((zk x).length : Int)) (ck ((p : Int) = p) (z0d φ (zh φ n) φ p ((gt (zk x) p).length : Int) 0 b0 x t (z05 d p true) (gt (zk x) p)  (zk x) p (z1k x))))))))
      t d hD.lt hD.ld (fun m p i => by rw [z0b]) φ (by omega)
    have hM : zh φ (n + 1) b0 x t d  (zk x) (z1k x) = z0b φ (zh φ n) φ (-1) (x.places.length : Int) 0 b0 x t d  (zk x) (z1k x) := by
      rw [zh, hD.lt]
    simp only [] at hp1
    simp only [hM]
    rw [hp1]
    rcases hp2 with ⟨rfl, hall⟩ | ⟨p0, p1, p2, p3, p4⟩
    · left
      refine ⟨t, zzn hG hD hall, ?_⟩
      rw [if_pos (by decide)]
    · right
      rw [if_neg (by simp; omega), z2 ⟨p0, by rw [hD.ld]; exact p1⟩, z2 ⟨p0, by rw [hG.len]; exact p1⟩, z2 ⟨p0, by rw [hG.len]; exact p1⟩, z2 trivial]
      obtain ⟨t', h1, h2⟩ := zwm hG p0 p1 hk hD p2 (fun m i t => z0d φ (zh φ n) m p ((gt (zk x) p).length : Int) i b0 x t (z05 d p true) (gt (zk x) p)  (zk x) p (z1k x))
        (fun t => zh φ n b0 x t (z05 d p true)  (z05 (zk x) p (gt (zk x) p)) (z1k x)) (gt (zk x) p) rfl x.edges.length (fun q => (lget (z1k x) p q).getD default) (fun i => (gt x.edges i).minutes)
        (fun q hq => by
          obtain ⟨i, hi, i0, i1, _⟩ := zc3 hx p0 p1 hq
          rw [hi]
          exact ⟨i0, i1, by unfold wtN; rw [hi]⟩) (fun m i t => by rw [z0d]) φ (by have := hG.size p p0 p1; omega)
      refine ⟨t', p, p0, p1, zos hG p0 p1 hD hs hs' p2 p3 p4 h2, ?_⟩
      rw [zdw _ p0 (by rw [hG.len]; exact p1)] at h1
      exact h1
  -- all times are unknown at first
  refine zm (fun n i t => zp φ n a0 (x.places.length : Int) i b0 x t (List.replicate x.places.length (default : Bool))  (zk x) (z1k x)) x.places.length (fun i t => t.length = x.places.length ∧ ∀ j : Int, 0 ≤ j → j < (i : Int) → gt t j = -1) (fun o => ∃ t, DF x.places.length (zk x) (wtN x) a0 t ∧ o = (ck ((0 : Int) ≤ b0 ∧ b0 < (t.length : Int)) (if (decide (((gt t b0) : Int) < 0)) = true then (some (0, 80, ())) else (some ((gt t b0), 0, ()))))) ?_ ?_ φ (List.replicate x.places.length (default : Int)) ⟨by simp, fun j h0 h1 => by omega⟩ (by omega)
  · intro n i t hi ⟨h1, h2⟩ hs
    rw [zp, if_pos (by simp; omega), z2 ⟨by omega, by omega⟩, W_id (by omega) (by omega)]
    refine hs _ ⟨by rw [z1j]; exact h1, fun j j0 j1 => ?_⟩
    rw [z0y _ _ _ _ (by omega) (by omega) j0]
    by_cases e : j = (i : Int)
    · rw [if_pos e]
    · rw [if_neg e]; exact h2 j j0 (by omega)
  · intro n t ⟨h1, h2⟩
    rw [zp, if_neg (by simp), z2 ⟨hs, by omega⟩]
    obtain ⟨t', h3, h4⟩ := search (z05 t a0 0) (by rw [z1j]; exact h1) (fun i i0 i1 => by
      rw [z0y _ _ _ _ hs (by omega) i0]
      split
      · rfl
      · exact h2 i i0 i1)
    exact ⟨t', h3, h4⟩
end z0h
section z1d
variable (φ : Nat) (x : z6) (a0 b0 : Int)
theorem zby (hx : z8x x) (hφ : 800000 < φ) (hs : 0 ≤ b0) (hs' : b0 < (x.places.length : Int)) : ∃ t, DF x.places.length (zk x) (wtN x) b0 t ∧
    zu φ φ b0 (((List.replicate ((x.places.length : Int) : Int).toNat (default : Int)).length : Int)) 0 a0 b0 x (List.replicate ((x.places.length : Int) : Int).toNat (default : Int)) ((List.replicate (((List.replicate ((x.places.length : Int) : Int).toNat (default : Int)).length : Int) : Int).toNat (default : Bool))) x (zk x) (z1k x) = (ck ((0 : Int) ≤ a0 ∧ a0 < (t.length : Int)) (if (decide (((gt t a0) : Int) < 0)) = true then (some (([] : List Int), 80, ())) else (zt φ φ a0 b0 x ([a0]) t (zk x) (z1k x)))) := by
  have hG := grN hx
  have hP := hx.places
  have hrep : (List.replicate ((x.places.length : Int) : Int).toNat (default : Int)).length = x.places.length := by simp
  rw [hrep]
  have e1 : ((x.places.length : Int)).toNat = x.places.length := by simp
  rw [e1]
  -- the search
  have search : ∀ t : List Int, t.length = x.places.length → (∀ i : Int, 0 ≤ i → i < (x.places.length : Int) → gt t i = if i = b0 then 0 else -1) →
      ∃ t', DF x.places.length (zk x) (wtN x) b0 t' ∧ zr φ φ a0 b0 x t (List.replicate x.places.length (default : Bool)) x (zk x) (z1k x) = (ck ((0 : Int) ≤ a0 ∧ a0 < (t'.length : Int)) (if (decide (((gt t' a0) : Int) < 0)) = true then (some (([] : List Int), 80, ())) else (zt φ φ a0 b0 x ([a0]) t' (zk x) (z1k x)))) := by
    intro t ht hall
    refine zo0 hG hs hs' (fun n t d => zr φ n a0 b0 x t d x (zk x) (z1k x)) (fun t' => (ck ((0 : Int) ≤ a0 ∧ a0 < (t'.length : Int)) (if (decide (((gt t' a0) : Int) < 0)) = true then (some (([] : List Int), 80, ())) else (zt φ φ a0 b0 x ([a0]) t' (zk x) (z1k x))))) φ ?_ φ 0 t _ (zpe hs hs' t ht hall) (by omega)
    intro n k t d hk hD
    obtain ⟨p, hp1, hp2⟩ := zx0 hP (fun m p i => z0u φ (zr φ n) m p (x.places.length : Int) i a0 b0 x t d x (zk x) (z1k x))
      (fun p => (if (decide ((p : Int) < 0)) = true then (ck ((0 : Int) ≤ a0 ∧ a0 < (t.length : Int)) (if (decide (((gt t a0) : Int) < 0)) = true then (some (([] : List Int), 80, ())) else (zt φ φ a0 b0 x ([a0]) t (zk x) (z1k x)))) else (ck ((0 : Int) ≤ p ∧ p < (d.length : Int)) (ck ((0 : Int) ≤ p ∧ p < ((zk x).length : Int)) (ck ((0 : Int) ≤ p ∧ p < ((zk x).length : Int)) (ck ((p : Int) = p) (z0x φ (zr φ n) φ p ((gt (zk x) p).length : Int) 0 a0 b0 x t (z05 d p true) (gt (zk x) p) x (zk x) p (z1k x))))))))
      t d hD.lt hD.ld (fun m p i => by rw [z0u]) φ (by omega)
    have hM : zr φ (n + 1) a0 b0 x t d x (zk x) (z1k x) = z0u φ (zr φ n) φ (-1) (x.places.length : Int) 0 a0 b0 x t d x (zk x) (z1k x) := by
      rw [zr, hD.lt]
    simp only [] at hp1
    simp only [hM]
    rw [hp1]
    rcases hp2 with ⟨rfl, hall⟩ | ⟨p0, p1, p2, p3, p4⟩
    · left
      refine ⟨t, zzn hG hD hall, ?_⟩
      rw [if_pos (by decide)]
    · right
      rw [if_neg (by simp; omega), z2 ⟨p0, by rw [hD.ld]; exact p1⟩, z2 ⟨p0, by rw [hG.len]; exact p1⟩, z2 ⟨p0, by rw [hG.len]; exact p1⟩, z2 trivial]
      obtain ⟨t', h1, h2⟩ := zwm hG p0 p1 hk hD p2 (fun m i t => z0x φ (zr φ n) m p ((gt (zk x) p).length : Int) i a0 b0 x t (z05 d p true) (gt (zk x) p) x (zk x) p (z1k x))
        (fun t => zr φ n a0 b0 x t (z05 d p true) x (z05 (zk x) p (gt (zk x) p)) (z1k x)) (gt (zk x) p) rfl x.edges.length (fun q => (lget (z1k x) p q).getD default) (fun i => (gt x.edges i).minutes)
        (fun q hq => by
          obtain ⟨i, hi, i0, i1, _⟩ := zc3 hx p0 p1 hq
          rw [hi]
          exact ⟨i0, i1, by unfold wtN; rw [hi]⟩) (fun m i t => by rw [z0x]) φ (by have := hG.size p p0 p1; omega)
      refine ⟨t', p, p0, p1, zos hG p0 p1 hD hs hs' p2 p3 p4 h2, ?_⟩
      rw [zdw _ p0 (by rw [hG.len]; exact p1)] at h1
      exact h1
  -- all times are unknown at first
  refine zm (fun n i t => zu φ n b0 (x.places.length : Int) i a0 b0 x t (List.replicate x.places.length (default : Bool)) x (zk x) (z1k x)) x.places.length (fun i t => t.length = x.places.length ∧ ∀ j : Int, 0 ≤ j → j < (i : Int) → gt t j = -1) (fun o => ∃ t, DF x.places.length (zk x) (wtN x) b0 t ∧ o = (ck ((0 : Int) ≤ a0 ∧ a0 < (t.length : Int)) (if (decide (((gt t a0) : Int) < 0)) = true then (some (([] : List Int), 80, ())) else (zt φ φ a0 b0 x ([a0]) t (zk x) (z1k x))))) ?_ ?_ φ (List.replicate x.places.length (default : Int)) ⟨by simp, fun j h0 h1 => by omega⟩ (by omega)
  · intro n i t hi ⟨h1, h2⟩ hs
    rw [zu, if_pos (by simp; omega), z2 ⟨by omega, by omega⟩, W_id (by omega) (by omega)]
    refine hs _ ⟨by rw [z1j]; exact h1, fun j j0 j1 => ?_⟩
    rw [z0y _ _ _ _ (by omega) (by omega) j0]
    by_cases e : j = (i : Int)
    · rw [if_pos e]
    · rw [if_neg e]; exact h2 j j0 (by omega)
  · intro n t ⟨h1, h2⟩
    rw [zu, if_neg (by simp), z2 ⟨hs, by omega⟩]
    obtain ⟨t', h3, h4⟩ := search (z05 t b0 0) (by rw [z1j]; exact h1) (fun i i0 i1 => by
      rw [z0y _ _ _ _ hs (by omega) i0]
      split
      · rfl
      · exact h2 i i0 i1)
    exact ⟨t', h3, h4⟩
end z1d
theorem zbj {n b : Nat} (h : n ≤ 100000000) (hb : b ≤ 1000) : fits n b := by
  unfold fits
  have : n * b ≤ 100000000 * 1000 := Nat.mul_le_mul h hb
  omega

/-- Between answers. -/
theorem zpr (φ : Nat) (hφ : 800000 < φ) (x : z6) (a b : Int) : ∃ t e, z0h φ x a b = some (t, e, ()) ∧ 0 ≤ t ∧ t ≤ 51200000 := by
  unfold z0h
  rw [z4l _ (by omega), Option.bind_some]
  by_cases hn : z78 x = 0
  case neg =>
    rw [if_pos (by simpa using hn), if_pos (by simpa using hn)]
    exact ⟨0, _, rfl, by omega, by omega⟩
  have hx := zxp hn
  have hP := hx.places
  rw [if_neg (by simp [hn])]
  obtain ⟨m, rfl⟩ : ∃ m, φ = m + 3 := ⟨φ - 3, by omega⟩
  have g0 : gt [a, b] 0 = a := rfl
  have g1 : gt [a, b] 1 = b := rfl
  have L : ((([a, b] : List Int).length : Nat) : Int) = 2 := rfl
  have step : ∀ n i, z18 (m + 3) (n + 1) 2 i a b x [a, b] x [] = (if (decide ((i : Int) < 2)) = true then (ck ((0 : Int) ≤ i ∧ i < (2 : Int)) (if ((decide (((gt [a, b] i) : Int) < 0)) || (decide (((x.places.length : Int) : Int) ≤ (gt [a, b] i)))) = true then (some (0, 1, ())) else (z18 (m + 3) n 2 (W (i + 1)) a b x [a, b] x []))) else (ck (z35 (x.places.length : Int) 24) (ze (m + 3) (m + 3) x.edges (x.edges.length : Int) 0 a b x x (List.replicate ((x.places.length : Int) : Int).toNat (default : (List Int))) ([] : List ((Nat → Int) × Int))))) := fun n i => by rw [z18]; rfl
  rw [L, show m + 3 = (m + 2) + 1 from rfl, step, if_pos (by decide), z2 (by decide), g0]
  by_cases ha : 0 ≤ a ∧ a < (x.places.length : Int)
  case neg =>
    rw [if_pos (by simp; omega)]
    exact ⟨0, 1, rfl, by omega, by omega⟩
  rw [if_neg (by simp; omega), show W (0 + 1) = 1 by rfl, show m + 2 = (m + 1) + 1 from rfl, step, if_pos (by decide), z2 (by decide), g1]
  by_cases hb : 0 ≤ b ∧ b < (x.places.length : Int)
  case neg =>
    rw [if_pos (by simp; omega)]
    exact ⟨0, 1, rfl, by omega, by omega⟩
  rw [if_neg (by simp; omega), show W (1 + 1) = 2 by rfl, step, if_neg (by decide), z2 (mk_t _ _ (by omega) (by omega) (by omega)), zam (m + 3) x a b hx (by omega), z2 (mk_t _ _ (by omega) (by omega) (by omega)), z2 (mk_t _ _ (by omega) (by simp; omega) (by omega))]
  obtain ⟨t, h1, h2⟩ := zas (m + 3) x a b hx (by omega) ha.1 ha.2
  rw [h2, z2 ⟨hb.1, by rw [h1.lt]; exact hb.2⟩]
  rcases h1.bd b hb.1 hb.2 with h3 | ⟨h3, h4⟩
  · rw [if_pos (by simp; omega)]
    exact ⟨0, 80, rfl, by omega, by omega⟩
  · rw [if_neg (by simp; omega)]
    exact ⟨_, 0, rfl, h3, h4⟩
/-- A way along z1k. -/
def Way (x : z6) : List Int → Prop
  | [] => True
  | [a] => 0 ≤ a ∧ a < (x.places.length : Int)
  | a :: b :: l => (0 ≤ a ∧ a < (x.places.length : Int)) ∧ b ∈ gt (zk x) a ∧ Way x (b :: l)
theorem Way.snoc {x : z6} (hG : Gr x.places.length (zk x) (wtN x)) : ∀ {l : List Int} {a b : Int}, Way x (l ++ [a]) → b ∈ gt (zk x) a → Way x (l ++ [a] ++ [b])
  | [], a, b, h, hb => ⟨h, hb, hG.rng a b h.1 h.2 hb⟩
  | [c], a, b, h, hb => ⟨h.1, h.2.1, h.2.2, hb, hG.rng a b h.2.2.1 h.2.2.2 hb⟩
  | c :: d :: l, a, b, h, hb => ⟨h.1, h.2.1, Way.snoc hG (l := d :: l) h.2.2 hb⟩
theorem Way.rng {x : z6} : ∀ {l : List Int}, Way x l → ∀ a ∈ l, 0 ≤ a ∧ a < (x.places.length : Int)
  | [], _, a, ha => by cases ha
  | [b], h, a, ha => by rw [List.mem_singleton.1 ha]; exact h
  | b :: c :: l, h, a, ha => by
    rcases List.mem_cons.1 ha with rfl | ha
    · exact h.1
    · exact Way.rng h.2.2 a ha
theorem Way.step {x : z6} : ∀ {l : List Int}, Way x l → ∀ i : Nat, i + 1 < l.length → gt l ((i + 1 : Nat) : Int) ∈ gt (zk x) (gt l (i : Int))
  | [], _, i, hi => by simp at hi
  | [b], h, i, hi => by simp at hi
  | b :: c :: l, h, 0, hi => h.2.1
  | b :: c :: l, h, i + 1, hi => by
    have := Way.step (l := c :: l) h.2.2 i (by simpa using hi)
    have e : ∀ j : Nat, gt (b :: c :: l) ((j + 1 : Nat) : Int) = gt (c :: l) (j : Int) := fun j => by simp [gt]
    rw [e, e]; exact this
/-- The walk back to the source. -/
theorem zqj (φ : Nat) (hφ : 800000 < φ) {x : z6} (hx : z8x x) {b0 : Int} {t : List Int} (hD : DF x.places.length (zk x) (wtN x) b0 t) :
    ∀ (n : Nat) (a : Int) (l : List Int), 0 ≤ a → a < (x.places.length : Int) → 0 ≤ gt t a → gt t a < (n : Int) → Way x (l ++ [a]) → (l.length : Int) + gt t a ≤ 51200000 →
      ∃ r, zt φ n a b0 x (l ++ [a]) t (zk x) (z1k x) = some (r, 0, ()) ∧ Way x r ∧ r.length ≤ 51200001 := by
  have hG := grN hx
  have hP := hx.places
  intro n
  induction n with
  | zero => intro a l _ _ h1 h2; omega
  | succ n ih =>
    intro a l a0 a1 ta tn hw hln
    rw [zt]
    by_cases he : a = b0
    · rw [if_neg (by simp [he])]
      exact ⟨_, rfl, hw, by simp; omega⟩
    · rw [if_pos (by simpa using he), z2 ⟨a0, by rw [hG.len]; exact a1⟩, z2 ⟨a0, by rw [hG.len]; exact a1⟩, z2 rfl]
      have hsz := hG.size a a0 a1
      obtain ⟨q0, q00, q01, hq, tq, hte⟩ := hD.pre a a0 a1 he ta
      -- the neighbours, one by one
      have key : ∀ (m i : Nat), i ≤ (gt (zk x) a).length → (gt (zk x) a).length - i < m → (∃ j : Nat, i ≤ j ∧ j < (gt (zk x) a).length ∧ gt (gt (zk x) a) (j : Int) = q0) →
          ∃ r, z2l φ (zt φ n) m a b0 ((gt (zk x) a).length : Int) (i : Int) x (l ++ [a]) t (gt (zk x) a) (zk x) a (z1k x) = some (r, 0, ()) ∧ Way x r ∧ r.length ≤ 51200001 := by
        intro m
        induction m with
        | zero => intro i h1 h2; omega
        | succ m ihm =>
          intro i h1 h2 ⟨j, hj1, hj2, hj3⟩
          have hm : gt (gt (zk x) a) (i : Int) ∈ gt (zk x) a := z8e (by omega) (by omega)
          obtain ⟨r0, r1⟩ := hG.rng a _ a0 a1 hm
          obtain ⟨w0, w1⟩ := hG.wt a _ a0 a1 hm
          obtain ⟨li, hli, l0, l1, _⟩ := zc3 hx a0 a1 hm
          have hlt := hD.lt
          have hwt : (gt x.edges ((lget (z1k x) a (gt (gt (zk x) a) (i : Int))).getD default)).minutes = wtN x a (gt (gt (zk x) a) (i : Int)) := rfl
          have htn := hD.nbr a _ a0 a1 ta hm
          have hbd := (hD.bd _ r0 r1).resolve_left (by omega)
          rw [z2l, if_pos (by simp; omega), z2 ⟨by omega, by omega⟩, z2 ⟨r0, by omega⟩, z2 (by
            have : @mget (Nat → Int) Int ⟨beqA 2⟩ (z1k x) (upd (upd (fun _ => (default : Int)) 0 a) 1 (gt (gt (zk x) a) (i : Int))) = some li := hli
            rw [this]; exact ⟨l0, l1⟩), z2 ⟨a0, by omega⟩]
          have hwt' : (gt x.edges ((@mget (Nat → Int) Int ⟨beqA 2⟩ (z1k x) (upd (upd (fun _ => (default : Int)) 0 a) 1 (gt (gt (zk x) a) (i : Int)))).getD default)).minutes = wtN x a (gt (gt (zk x) a) (i : Int)) := rfl
          rw [hwt', W_id (x := gt t _ + _) (by omega) (by omega)]
          by_cases hc : gt t (gt (gt (zk x) a) (i : Int)) + wtN x a (gt (gt (zk x) a) (i : Int)) = gt t a
          · rw [if_pos (by simpa using hc)]
            unfold z3i
            rw [z2 (zbj (by simp; omega) (by omega)), zdw _ a0 (by rw [hG.len]; exact a1)]
            have hle := ih (gt (gt (zk x) a) (i : Int)) (l ++ [a]) r0 r1 htn (by omega) (Way.snoc hG hw hm) (by simp; omega)
            exact hle
          · rw [if_neg (by simpa using hc), W_id (by omega) (by omega)]
            have hne : j ≠ i := by
              intro e
              subst e
              apply hc
              rw [hj3]
              have := (hG.sym a q0 a0 a1 hq).2
              rw [this] at hte
              omega
            exact ihm (i + 1) (by omega) (by omega) ⟨j, by omega, hj2, hj3⟩
      obtain ⟨j, hj1, hj2⟩ := ztw hq
      exact key φ 0 (Nat.zero_le _) (by omega) ⟨j, Nat.zero_le _, hj1, hj2⟩
/-- Route answers: a way, where there is one. -/
theorem zv3 (φ : Nat) (hφ : 60000000 < φ) (x : z6) (a b : Int) : ∃ r e, z1d φ x a b = some (r, e, ()) ∧ (e = 0 → z78 x = 0 ∧ Way x r ∧ r.length ≤ 51200001) := by
  unfold z1d
  rw [z4l _ (by omega), Option.bind_some]
  by_cases hn : z78 x = 0
  case neg =>
    rw [if_pos (by simpa using hn), if_pos (by simpa using hn)]
    exact ⟨[], _, rfl, fun e => absurd e hn⟩
  have hx := zxp hn
  have hP := hx.places
  rw [if_neg (by simp [hn])]
  obtain ⟨m, rfl⟩ : ∃ m, φ = m + 3 := ⟨φ - 3, by omega⟩
  have g0 : gt [a, b] 0 = a := rfl
  have g1 : gt [a, b] 1 = b := rfl
  have L : ((([a, b] : List Int).length : Nat) : Int) = 2 := rfl
  have step : ∀ n i, z1z (m + 3) (n + 1) 2 i a b x [a, b] x [] = (if (decide ((i : Int) < 2)) = true then (ck ((0 : Int) ≤ i ∧ i < (2 : Int)) (if ((decide (((gt [a, b] i) : Int) < 0)) || (decide (((x.places.length : Int) : Int) ≤ (gt [a, b] i)))) = true then (some (([] : List Int), 1, ())) else (z1z (m + 3) n 2 (W (i + 1)) a b x [a, b] x []))) else (ck (z35 (x.places.length : Int) 24) (zj (m + 3) (m + 3) x.edges (x.edges.length : Int) 0 a b x x (List.replicate ((x.places.length : Int) : Int).toNat (default : (List Int))) ([] : List ((Nat → Int) × Int))))) := fun n i => by rw [z1z]; rfl
  rw [L, show m + 3 = (m + 2) + 1 from rfl, step, if_pos (by decide), z2 (by decide), g0]
  by_cases ha : 0 ≤ a ∧ a < (x.places.length : Int)
  case neg =>
    rw [if_pos (by simp; omega)]
    exact ⟨[], 1, rfl, fun e => by cases e⟩
  rw [if_neg (by simp; omega), show W (0 + 1) = 1 by rfl, show m + 2 = (m + 1) + 1 from rfl, step, if_pos (by decide), z2 (by decide), g1]
  by_cases hb : 0 ≤ b ∧ b < (x.places.length : Int)
  case neg =>
    rw [if_pos (by simp; omega)]
    exact ⟨[], 1, rfl, fun e => by cases e⟩
  rw [if_neg (by simp; omega), show W (1 + 1) = 2 by rfl, step, if_neg (by decide), z2 (mk_t _ _ (by omega) (by omega) (by omega)), zc5 (m + 3) x a b hx (by omega), z2 (mk_t _ _ (by omega) (by omega) (by omega)), z2 (mk_t _ _ (by omega) (by simp; omega) (by omega))]
  obtain ⟨t, h1, h2⟩ := zby (m + 3) x a b hx (by omega) hb.1 hb.2
  rw [h2, z2 ⟨ha.1, by rw [h1.lt]; exact ha.2⟩]
  rcases h1.bd a ha.1 ha.2 with h3 | ⟨h3, h4⟩
  · rw [if_pos (by simp; omega)]
    exact ⟨[], 80, rfl, fun e => by cases e⟩
  · rw [if_neg (by simp; omega)]
    obtain ⟨r, hr, hw, hl⟩ := zqj (m + 3) (by omega) hx h1 (m + 3) a [] ha.1 ha.2 h3 (by omega) ha (by simp; omega)
    exact ⟨r, 0, hr, fun _ => ⟨hn, hw, hl⟩⟩
end Px
end
section
namespace Px
open Go
set_option linter.unusedVariables false
set_option linter.unusedSimpArgs false
set_option maxHeartbeats 4000000
def zre (fit : Bool) (x : Part) : Bool := !(((((decide ((x.kind : Int) < 1)) || (decide ((3 : Int) < x.kind))) || (decide ((x.serial : Int) < 0))) || (decide ((1073741824 : Int) < x.serial))) || (x.fitted && (!fit)))
theorem z8o (φ : Nat) (l : List Part) (fit : Bool) (h : l.length ≤ 1000) (hφ : 1000 < φ) : zac φ l fit = some (l.all (zre fit) && decide ((l.length : Int) ≤ 16), ()) := by
  unfold zac
  rw [zj0 (fun n i => z4x φ n l fit l (l.length : Int) i) (some (decide ((l.length : Int) ≤ 16), ())) (some (false, ())) l (fun x => !zre fit x) ?_ ?_ φ (by omega)]
  · simp only [List.any_eq_not_all_not, Bool.not_not]
    cases l.all (zre fit) <;> rfl
  · intro n i hi
    rw [z4x, if_pos (by simp; omega), z2 ⟨by omega, by omega⟩, W_id (by omega) (by omega)]
    show _ = bif !!_ then _ else _
    rw [Bool.not_not]
    cases (((((decide (((gt l i).kind : Int) < 1)) || (decide ((3 : Int) < (gt l i).kind))) || (decide (((gt l i).serial : Int) < 0))) || (decide ((1073741824 : Int) < (gt l i).serial))) || ((gt l i).fitted && (!fit))) <;> rfl
  · intro n; rw [z4x, if_neg (by simp)]
/-- What is known of a valid item. -/
structure zo6 (p : Pool) (it : Item) : Prop where
  kind : 1 ≤ it.kind ∧ it.kind ≤ 15
  wagon : it.kind ≤ 9 → 0 ≤ it.wagon ∧ it.wagon < (p.fleet.wagons.length : Int)
  read : it.kind = 1 → 0 ≤ it.other ∧ it.other < (p.readers.length : Int)
  place : it.kind = 2 ∨ it.kind = 3 ∨ it.kind = 4 ∨ it.kind = 6 ∨ it.kind = 7 ∨ it.kind = 9 → 0 ≤ it.place ∧ it.place < (p.network.places.length : Int)
  from_ : it.kind ≤ 9 → 0 ≤ it.from_ ∧ it.from_ ≤ 1073741824
  to : it.kind = 2 ∨ it.kind = 9 → it.from_ ≤ it.to ∧ it.to ≤ 1073741824
theorem zo5 {ρ : Type} (c q : Bool) (K : Bool → Option ρ) : ((z1c (default, ()) (c = true) (some (q, ()))).bind fun y => K (c && y.1)) = K (c && q) := by
  unfold z1c
  cases c <;> rfl
theorem zt4 (p : Pool) (it : Item) (hparts : it.parts.length ≤ 1000) (hw : p.fleet.wagons.length ≤ 4096) (hr : p.readers.length ≤ 256) (hs : p.shippers.length ≤ 256) (hpl : p.network.places.length ≤ 512) (ht : p.fleet.types.length ≤ 32) :
    ∃ b, (∀ φ, 1000 < φ → z1x φ p it = some (b, ())) ∧ (b = true → zo6 p it) := by
  have w1 : W ((p.fleet.wagons.length : Int) - 1) = (p.fleet.wagons.length : Int) - 1 := W_id (by omega) (by omega)
  have w2 : W ((p.readers.length : Int) - 1) = (p.readers.length : Int) - 1 := W_id (by omega) (by omega)
  have w3 : W ((p.shippers.length : Int) - 1) = (p.shippers.length : Int) - 1 := W_id (by omega) (by omega)
  have w4 : W ((p.network.places.length : Int) - 1) = (p.network.places.length : Int) - 1 := W_id (by omega) (by omega)
  have w5 : W ((p.fleet.types.length : Int) - 1) = (p.fleet.types.length : Int) - 1 := W_id (by omega) (by omega)
  have hm : ∀ x z : Int, max2 x 0 ≤ z ↔ x ≤ z ∧ 0 ≤ z := by intro x z; unfold max2; split <;> omega
  by_cases hk0 : it.kind < 1
  · refine ⟨false, fun φ hφ => ?_, fun h => by cases h⟩
    unfold z1x za
    rw [if_pos (by simp; omega), if_pos (by simpa using hk0)]
    simp
  by_cases hk16 : 15 < it.kind
  · refine ⟨false, fun φ hφ => ?_, fun h => by cases h⟩
    have e : ∀ k : Int, k ≤ 15 → (it.kind == k) = false := fun k hk => by simp; omega
    unfold z1x
    rw [if_neg (by simp; omega)]
    simp [e, z2o, za]
  have hcases : it.kind = 1 ∨ it.kind = 2 ∨ it.kind = 3 ∨ it.kind = 4 ∨ it.kind = 5 ∨ it.kind = 6 ∨ it.kind = 7 ∨ it.kind = 8 ∨ it.kind = 9 ∨ it.kind = 10 ∨ it.kind = 11 ∨ it.kind = 12 ∨ it.kind = 13 ∨ it.kind = 14 ∨ it.kind = 15 := by omega
  by_cases hin : 0 ≤ it.place ∧ it.place < (p.network.places.length : Int)
  · have e1 : (decide ((0 : Int) ≤ it.place) && decide ((it.place : Int) < (p.network.places.length : Int))) = true := by simp [hin]
    rcases hcases with hk | hk | hk | hk | hk | hk | hk | hk | hk | hk | hk | hk | hk | hk | hk
    case inr.inr.inr.inr.inr.inr.inr.inr.inl =>
      refine ⟨_, fun φ hφ => by
        unfold z1x
        simp only [hk, e1, z41, z2 hin, w1, w2, w3, w4, w5, z8o φ _ _ hparts hφ, Option.bind_some, Int.reduceLE, Int.reduceLT, Int.reduceBEq, decide_true, decide_false, if_true, Bool.false_eq_true, if_false]
        refine (zo5 _ _ (fun b => za φ ⟨_, _, b⟩)).trans ?_
        unfold za
        rfl, fun hb => ?_⟩
      simp only [Bool.and_eq_true, decide_eq_true_eq, hm, beq_iff_eq, bne_iff_ne, ne_eq, Bool.or_eq_true] at hb
      constructor <;> omega
    case inr.inr.inr.inr.inr.inr.inr.inr.inr.inl =>
      refine ⟨_, fun φ hφ => by
        unfold z1x
        simp only [hk, e1, z2 hin, w1, w2, w3, w4, w5, z8o φ _ _ hparts hφ, Option.bind_some, Int.reduceLE, Int.reduceLT, Int.reduceBEq, decide_true, decide_false, if_true, Bool.false_eq_true, if_false]
        refine (zo5 _ _ (fun b => za φ ⟨_, _, b⟩)).trans ?_
        unfold za
        rfl, fun hb => ?_⟩
      constructor <;> omega
    all_goals
      refine ⟨_, fun φ hφ => by
        unfold z1x
        simp only [hk, e1, z58, z4a, z4f, z40, z48, z49, z2o, z4d, za, z2 hin, w1, w2, w3, w4, w5, Option.bind_some, Int.reduceLE, Int.reduceLT, Int.reduceBEq, Int.reduceBNe, Int.reduceNe, decide_true, decide_false, if_true, Bool.false_eq_true, if_false]
        rfl, fun hb => ?_⟩
      simp only [Bool.and_eq_true, decide_eq_true_eq, hm, beq_iff_eq, bne_iff_ne, ne_eq, Bool.or_eq_true] at hb
      constructor <;> omega
  · have e1 : (decide ((0 : Int) ≤ it.place) && decide ((it.place : Int) < (p.network.places.length : Int))) = false := by
      rw [← Bool.not_eq_true]; simpa using hin
    rcases hcases with hk | hk | hk | hk | hk | hk | hk | hk | hk | hk | hk | hk | hk | hk | hk
    case inr.inr.inr.inr.inr.inr.inr.inr.inl =>
      refine ⟨_, fun φ hφ => by
        unfold z1x
        simp only [hk, e1, z41, w1, w2, w3, w4, w5, z8o φ _ _ hparts hφ, Option.bind_some, Int.reduceLE, Int.reduceLT, Int.reduceBEq, decide_true, decide_false, if_true, Bool.false_eq_true, if_false]
        refine (zo5 _ _ (fun b => za φ ⟨_, _, b⟩)).trans ?_
        unfold za
        rfl, fun hb => ?_⟩
      simp at hb
    case inr.inr.inr.inr.inr.inr.inr.inr.inr.inl =>
      refine ⟨_, fun φ hφ => by
        unfold z1x
        simp only [hk, e1, w1, w2, w3, w4, w5, z8o φ _ _ hparts hφ, Option.bind_some, Int.reduceLE, Int.reduceLT, Int.reduceBEq, decide_true, decide_false, if_true, Bool.false_eq_true, if_false]
        refine (zo5 _ _ (fun b => za φ ⟨_, _, b⟩)).trans ?_
        unfold za
        rfl, fun hb => ?_⟩
      constructor <;> omega
    all_goals
      refine ⟨_, fun φ hφ => by
        unfold z1x
        simp only [hk, e1, z58, z4a, z4f, z40, z48, z49, z2o, z4d, za, w1, w2, w3, w4, w5, Option.bind_some, Int.reduceLE, Int.reduceLT, Int.reduceBEq, Int.reduceBNe, Int.reduceNe, decide_true, decide_false, if_true, Bool.false_eq_true, if_false]
        rfl, fun hb => ?_⟩
      simp only [Bool.and_eq_true, decide_eq_true_eq, hm, beq_iff_eq, bne_iff_ne, ne_eq, Bool.or_eq_true] at hb
      first | (constructor <;> omega) | (simp at hb; done) | (simp at hb; constructor <;> omega)
def zb1 (p : Pool) (it : Item) : Bool := ((z1x 2000 p it).getD (false, ())).1
def zv8 (it : Item) : Bool := ((z5o 0 it).getD (false, ())).1
theorem zk3 (φ : Nat) (it : Item) : z5o φ it = some (zv8 it, ()) := by
  unfold zv8 z5o
  split <;> rfl
/-- Does an item count? -/
def z9y (p : Pool) (it : Item) : Bool := zv8 it && zb1 p it
theorem zln {p : Pool} (hc : z2d p = 0) {it : Item} (hparts : it.parts.length ≤ 1000) : (∀ φ, 1000 < φ → z1x φ p it = some (zb1 p it, ())) ∧ (zb1 p it = true → zo6 p it) := by
  obtain ⟨hn, hf, h1, h2, h3, hb⟩ := z95 hc
  obtain ⟨n1, n2, _, _⟩ := zg7 hn
  obtain ⟨f1, f2, _⟩ := z5z hf
  obtain ⟨b, hφ, hok⟩ := zt4 p it hparts f2 h1 h2 n1 f1
  have : zb1 p it = b := by unfold zb1; rw [hφ 2000 (by omega)]; rfl
  rw [this]
  exact ⟨hφ, hok⟩
theorem zlg (φ : Nat) (hφ : 800000 < φ) {p : Pool} (hc : z2d p = 0) {it : Item} (hparts : it.parts.length ≤ 1000) : zcz φ p it = some (bif z9y p it then 0 else 110, ()) := by
  unfold zcz z9y
  rw [z3m φ hφ, Option.bind_some, if_neg (by simp [hc]), zk3, Option.bind_some]
  cases zv8 it with
  | false => rfl
  | true =>
    rw [gz_t (by simp), (zln hc hparts).1 φ (by omega), Option.bind_some]
    cases zb1 p it <;> rfl
theorem zl2 {p : Pool} (hc : z2d p = 0) {it : Item} (hparts : it.parts.length ≤ 1000) (h : z9y p it = true) : zo6 p it := by
  simp only [z9y, Bool.and_eq_true] at h
  exact (zln hc hparts).2 h.2
end Px
end
