/- A part of the proof of sightTravels_holds. Conditions: none. -/
import Derived.Test.YtlejlmkoalncgaaGreatZee
import Derived.Test.YtlejlmkoalncgaaGreatProg
import Derived.Ground.SlsfProg
import Derived.Ground.NamesProg
import Derived.KernelRfl
section
namespace Go.Proofs
open Go.Shelf
def Tryz.sortEv_ren : Go.Shelf.Ren := ⟨fun | 6 => 63 | 15 => 98 | 14 => 97 | 28 => 134 | 29 => 125 | 20 => 126 | 21 => 127 | 22 => 128 | 23 => 129 | 24 => 130 | 25 => 131 | 26 => 132 | 27 => 133 | 46 => 154 | 47 => 155 | 48 => 156 | 49 => 157 | 50 => 158 | 57 => 163 | n => n, fun | 22 => 101 | 24 => 103 | 25 => 161 | 3 => 3 | 39 => 201 | 0 => 0 | 53 => 229 | 55 => 68 | 4 => 4 | 46 => 223 | 45 => 222 | 50 => 106 | 5 => 5 | 9 => 9 | 66 => 244 | 70 => 183 | 76 => 253 | 77 => 254 | n => n, fun | n => n⟩
theorem Tryz.sortEv : Go.Proofs.SlLaysF0.n6 Tryz.prog Tryz.sortEv_ren := {
  mixed := by kernel_rfl
  f6 := ⟨Tryz.f63.name, by decide, Tryz.func63.trans (congrArg some (by kernel_rfl))⟩
  f14 := ⟨Tryz.f97.name, by decide, Tryz.func97.trans (congrArg some (by kernel_rfl))⟩
  f15 := Tryz.func98.trans (congrArg some (by kernel_rfl))
  f20 := ⟨Tryz.f126.name, by decide, Tryz.func126.trans (congrArg some (by kernel_rfl))⟩
  f21 := ⟨Tryz.f127.name, by decide, Tryz.func127.trans (congrArg some (by kernel_rfl))⟩
  f22 := ⟨Tryz.f128.name, by decide, Tryz.func128.trans (congrArg some (by kernel_rfl))⟩
  f23 := ⟨Tryz.f129.name, by decide, Tryz.func129.trans (congrArg some (by kernel_rfl))⟩
  f24 := ⟨Tryz.f130.name, by decide, Tryz.func130.trans (congrArg some (by kernel_rfl))⟩
  f25 := ⟨Tryz.f131.name, by decide, Tryz.func131.trans (congrArg some (by kernel_rfl))⟩
  f26 := ⟨Tryz.f132.name, by decide, Tryz.func132.trans (congrArg some (by kernel_rfl))⟩
  f27 := ⟨Tryz.f133.name, by decide, Tryz.func133.trans (congrArg some (by kernel_rfl))⟩
  f28 := Tryz.func134.trans (congrArg some (by kernel_rfl))
  f29 := Tryz.func125.trans (congrArg some (by kernel_rfl))
  f46 := ⟨Tryz.f154.name, by decide, Tryz.func154.trans (congrArg some (by kernel_rfl))⟩
  f47 := Tryz.func155.trans (congrArg some (by kernel_rfl))
  f48 := Tryz.func156.trans (congrArg some (by kernel_rfl))
  f49 := ⟨Tryz.f157.name, by decide, Tryz.func157.trans (congrArg some (by kernel_rfl))⟩
  f50 := ⟨Tryz.f158.name, by decide, Tryz.func158.trans (congrArg some (by kernel_rfl))⟩
  f57 := ⟨Tryz.f163.name, by decide, Tryz.func163.trans (congrArg some (by kernel_rfl))⟩
  t0 := Tryz.underlying0
  a0 := Tryz.isAgg0
  z0 := Tryz.sizeOf0
  v0 := Tryz.zeroValue0
  t3 := Tryz.underlying3
  a3 := Tryz.isAgg3
  z3 := Tryz.sizeOf3
  v3 := Tryz.zeroValue3
  t4 := Tryz.underlying4
  a4 := Tryz.isAgg4
  z4 := Tryz.sizeOf4
  v4 := Tryz.zeroValue4
  t5 := Tryz.underlying5
  a5 := Tryz.isAgg5
  z5 := Tryz.sizeOf5
  v5 := Tryz.zeroValue5
  t9 := Tryz.underlying9
  a9 := Tryz.isAgg9
  z9 := Tryz.sizeOf9
  v9 := Tryz.zeroValue9
  t22 := Tryz.underlying101
  a22 := Tryz.isAgg101
  z22 := Tryz.sizeOf101
  v22 := Tryz.zeroValue101
  t25 := Tryz.underlying161
  a25 := Tryz.isAgg161
  z25 := Tryz.sizeOf161
  v25 := Tryz.zeroValue161
  t39 := Tryz.underlying201
  a39 := Tryz.isAgg201
  z39 := Tryz.sizeOf201
  v39 := Tryz.zeroValue201
  t45 := Tryz.underlying222
  a45 := Tryz.isAgg222
  z45 := Tryz.sizeOf222
  v45 := Tryz.zeroValue222
  t46 := Tryz.underlying223
  a46 := Tryz.isAgg223
  z46 := Tryz.sizeOf223
  v46 := Tryz.zeroValue223
  t50 := Tryz.underlying106
  a50 := Tryz.isAgg106
  z50 := Tryz.sizeOf106
  v50 := Tryz.zeroValue106
  t53 := Tryz.underlying229
  a53 := Tryz.isAgg229
  z53 := Tryz.sizeOf229
  v53 := Tryz.zeroValue229
  t55 := Tryz.underlying68
  a55 := Tryz.isAgg68
  z55 := Tryz.sizeOf68
  v55 := Tryz.zeroValue68
  t66 := Tryz.underlying244
  a66 := Tryz.isAgg244
  z66 := Tryz.sizeOf244
  v66 := Tryz.zeroValue244
  t70 := Tryz.underlying183
  a70 := Tryz.isAgg183
  z70 := Tryz.sizeOf183
  v70 := Tryz.zeroValue183
  t76 := Tryz.underlying253
  a76 := Tryz.isAgg253
  z76 := Tryz.sizeOf253
  v76 := Tryz.zeroValue253
  t77 := Tryz.underlying254
  a77 := Tryz.isAgg254
  z77 := Tryz.sizeOf254
  v77 := Tryz.zeroValue254 }
def Tryz.lays189_ren : Go.Shelf.Ren := ⟨fun | 189 => 92 | 125 => 98 | 257 => 123 | 128 => 134 | 129 => 125 | 294 => 143 | 295 => 144 | 296 => 145 | 297 => 146 | 298 => 147 | 299 => 148 | 216 => 149 | 300 => 150 | 301 => 151 | 328 => 159 | 329 => 155 | 330 => 156 | 331 => 160 | 332 => 161 | 215 => 99 | 343 => 164 | n => n, fun | 28 => 66 | 3 => 3 | 46 => 201 | 0 => 0 | 51 => 229 | 53 => 68 | 4 => 4 | 183 => 223 | 182 => 222 | 131 => 106 | 5 => 5 | 9 => 9 | 218 => 244 | 222 => 183 | 228 => 253 | 229 => 254 | n => n, fun | n => n⟩
theorem Tryz.lays189 : Go.Proofs.Lays.n189 Tryz.prog Tryz.lays189_ren := {
  mixed := by kernel_rfl
  f125 := Tryz.func98.trans (congrArg some (by kernel_rfl))
  f128 := Tryz.func134.trans (congrArg some (by kernel_rfl))
  f129 := Tryz.func125.trans (congrArg some (by kernel_rfl))
  f189 := Tryz.func92.trans (congrArg some (by kernel_rfl))
  f215 := Tryz.func99.trans (congrArg some (by kernel_rfl))
  f216 := Tryz.func149.trans (congrArg some (by kernel_rfl))
  f257 := Tryz.func123.trans (congrArg some (by kernel_rfl))
  f294 := Tryz.func143.trans (congrArg some (by kernel_rfl))
  f295 := Tryz.func144.trans (congrArg some (by kernel_rfl))
  f296 := Tryz.func145.trans (congrArg some (by kernel_rfl))
  f297 := Tryz.func146.trans (congrArg some (by kernel_rfl))
  f298 := Tryz.func147.trans (congrArg some (by kernel_rfl))
  f299 := Tryz.func148.trans (congrArg some (by kernel_rfl))
  f300 := Tryz.func150.trans (congrArg some (by kernel_rfl))
  f301 := Tryz.func151.trans (congrArg some (by kernel_rfl))
  f328 := Tryz.func159.trans (congrArg some (by kernel_rfl))
  f329 := Tryz.func155.trans (congrArg some (by kernel_rfl))
  f330 := Tryz.func156.trans (congrArg some (by kernel_rfl))
  f331 := Tryz.func160.trans (congrArg some (by kernel_rfl))
  f332 := Tryz.func161.trans (congrArg some (by kernel_rfl))
  f343 := Tryz.func164.trans (congrArg some (by kernel_rfl))
  t0 := Tryz.underlying0
  a0 := Tryz.isAgg0
  z0 := Tryz.sizeOf0
  v0 := Tryz.zeroValue0
  t3 := Tryz.underlying3
  a3 := Tryz.isAgg3
  z3 := Tryz.sizeOf3
  v3 := Tryz.zeroValue3
  t4 := Tryz.underlying4
  a4 := Tryz.isAgg4
  z4 := Tryz.sizeOf4
  v4 := Tryz.zeroValue4
  t5 := Tryz.underlying5
  a5 := Tryz.isAgg5
  z5 := Tryz.sizeOf5
  v5 := Tryz.zeroValue5
  t9 := Tryz.underlying9
  a9 := Tryz.isAgg9
  z9 := Tryz.sizeOf9
  v9 := Tryz.zeroValue9
  t28 := Tryz.underlying66
  a28 := Tryz.isAgg66
  z28 := Tryz.sizeOf66
  v28 := Tryz.zeroValue66
  t46 := Tryz.underlying201
  a46 := Tryz.isAgg201
  z46 := Tryz.sizeOf201
  v46 := Tryz.zeroValue201
  t51 := Tryz.underlying229
  a51 := Tryz.isAgg229
  z51 := Tryz.sizeOf229
  v51 := Tryz.zeroValue229
  t53 := Tryz.underlying68
  a53 := Tryz.isAgg68
  z53 := Tryz.sizeOf68
  v53 := Tryz.zeroValue68
  t131 := Tryz.underlying106
  a131 := Tryz.isAgg106
  z131 := Tryz.sizeOf106
  v131 := Tryz.zeroValue106
  t182 := Tryz.underlying222
  a182 := Tryz.isAgg222
  z182 := Tryz.sizeOf222
  v182 := Tryz.zeroValue222
  t183 := Tryz.underlying223
  a183 := Tryz.isAgg223
  z183 := Tryz.sizeOf223
  v183 := Tryz.zeroValue223
  t218 := Tryz.underlying244
  a218 := Tryz.isAgg244
  z218 := Tryz.sizeOf244
  v218 := Tryz.zeroValue244
  t222 := Tryz.underlying183
  a222 := Tryz.isAgg183
  z222 := Tryz.sizeOf183
  v222 := Tryz.zeroValue183
  t228 := Tryz.underlying253
  a228 := Tryz.isAgg253
  z228 := Tryz.sizeOf253
  v228 := Tryz.zeroValue253
  t229 := Tryz.underlying254
  a229 := Tryz.isAgg254
  z229 := Tryz.sizeOf254
  v229 := Tryz.zeroValue254 }
end Go.Proofs
end
section
namespace Px
open Go
set_option linter.unusedVariables false
set_option linter.unusedSimpArgs false
/-- A loop that counts up. -/
theorem zpa {σ ρ : Type} (L : Nat → Int → σ → Option ρ) (len : Nat) (Inv : Nat → σ → Prop) (G : Option ρ → Prop)
    (step : ∀ n i s, i < len → Inv i s → (∀ s', Inv (i + 1) s' → G (L n ((i : Int) + 1) s')) → G (L (n + 1) i s))
    (done : ∀ n s, Inv len s → G (L (n + 1) len s)) : ∀ n i s, i ≤ len → Inv i s → len - i < n → G (L n i s) := by
  intro n
  induction n with
  | zero => intro i s _ _ h; omega
  | succ n ih =>
    intro i s hi hI hn
    by_cases h : i = len
    · subst h; exact done n s hI
    · refine step n i s (by omega) hI fun s' hs' => ?_
      have := ih (i + 1) s' (by omega) hs' (by omega)
      simpa using this
/-- The same from the start. -/
theorem zy {σ ρ : Type} (L : Nat → Int → σ → Option ρ) (len : Nat) (Inv : Nat → σ → Prop) (G : Option ρ → Prop)
    (step : ∀ n i s, i < len → Inv i s → (∀ s', Inv (i + 1) s' → G (L n ((i : Int) + 1) s')) → G (L (n + 1) i s))
    (done : ∀ n s, Inv len s → G (L (n + 1) len s)) (n : Nat) (s : σ) (h : Inv 0 s) (hn : len < n) : G (L n 0 s) := by
  simpa using zpa L len Inv G step done n 0 s (Nat.zero_le _) h (by omega)
theorem y4u (x : Int) : W x = if x % 18446744073709551616 ≥ 9223372036854775808 then x % 18446744073709551616 - 18446744073709551616 else x % 18446744073709551616 := by
  simp [W, IntKind.wrap, IntKind.bits, IntKind.signed]
theorem zvu (x : Int) : U x = x % 18446744073709551616 := by
  simp [U, IntKind.wrap, IntKind.bits, IntKind.signed]
theorem W_id {x : Int} (h : -9223372036854775808 ≤ x) (h' : x ≤ 9223372036854775807) : W x = x := by
  rw [y4u]; split <;> omega
theorem U_id {x : Int} (h : 0 ≤ x) (h' : x ≤ 18446744073709551615) : U x = x := by
  rw [zvu]; omega
theorem zkt {α : Type} [Inhabited α] (ok : α → Bool) (l : List α) (i : Nat) (h : i < l.length) : (l.take (i + 1)).all ok = ((l.take i).all ok && ok (gt l (i : Int))) := by
  rw [List.take_succ_eq_append_getElem h, List.all_append]
  simp [gt, h]
theorem zds {α : Type} [Inhabited α] (ok : α → Bool) (l : List α) (i : Nat) (h : i < l.length) : (l.take (i + 1)).any ok = ((l.take i).any ok || ok (gt l (i : Int))) := by
  rw [List.take_succ_eq_append_getElem h, List.any_append]
  simp [gt, h]
theorem z17 {α : Type} [Inhabited α] (l : List α) (i : Nat) (h : i < l.length) : l.take (i + 1) = l.take i ++ [gt l (i : Int)] := by
  rw [List.take_succ_eq_append_getElem h]
  simp [gt, h]
theorem z6o {α : Type} [Inhabited α] {l : List α} {i : Int} (h0 : 0 ≤ i) (h : i < (l.length : Int)) : gt l i ∈ l := by
  have hlt : i.toNat < l.length := by omega
  simp [gt, hlt]
theorem z7s {α : Type} [Inhabited α] {l : List α} {i : Nat} (h : i < l.length) : gt l (i : Int) = l[i] := by
  simp [gt, h]
theorem zu1 {α : Type} [Inhabited α] (l : List α) (i : Nat) (h : i < l.length) : l.drop i = gt l (i : Int) :: l.drop (i + 1) := by
  rw [z7s h, List.getElem_cons_drop]
theorem zz2 {α : Type} [Inhabited α] {l : List α} {x : α} (h : x ∈ l) : ∃ i : Nat, i < l.length ∧ gt l (i : Int) = x := by
  obtain ⟨i, hi, e⟩ := List.getElem_of_mem h
  exact ⟨i, hi, by rw [z7s hi, e]⟩
theorem z11 {α : Type} [Inhabited α] (l : List α) (i j : Int) (x : α) (hi : 0 ≤ i) (h : i < (l.length : Int)) (hj : 0 ≤ j) : gt (zz l i x) j = if j = i then x else gt l j := by
  unfold gt zz
  by_cases e : j = i
  · subst e
    have : j.toNat < l.length := by omega
    simp [List.getD, List.getElem?_set, this]
  · have : i.toNat ≠ j.toNat := by omega
    simp [List.getD, List.getElem?_set, this, e]
theorem z4j {α : Type} [Inhabited α] (n : Nat) (x : α) (j : Int) (hj : 0 ≤ j) (h : j < n) : gt (List.replicate n x) j = x := by
  have : j.toNat < n := by omega
  simp [gt, List.getD, List.getElem?_replicate, this]
/-- A loop over a list that remembers whether all its elements were in order. -/
theorem zgj {α ρ : Type} [Inhabited α] (L : Nat → Int → Int → Option ρ) (k : Int → Option ρ) (l : List α) (ok : α → Bool)
    (step : ∀ (n i : Nat) (s : Int), i < l.length → L (n + 1) i s = L n ((i : Int) + 1) (bif ok (gt l i) then s else 1)) (done : ∀ n s, L (n + 1) l.length s = k s) :
    ∀ n s, l.length < n → L n 0 s = k (bif l.all ok then s else 1) := by
  intro n s hn
  refine zpa L l.length (fun i t => t = bif (l.take i).all ok then s else 1) (fun o => o = k (bif l.all ok then s else 1)) ?_ ?_ n 0 s (Nat.zero_le _) (by simp) (by omega)
  · intro n i t hi ht hs
    rw [step n i t hi]
    refine hs _ ?_
    rw [zkt ok l i hi, ht]
    cases (l.take i).all ok <;> cases ok (gt l (i : Int)) <;> simp
  · intro n t ht
    rw [done, ht, List.take_length]
/-- A loop over a list that ends at the first element of a kind. -/
theorem zut {α ρ : Type} [Inhabited α] (L : Nat → Int → Option ρ) (k : Option ρ) (l : List α) (p : α → Bool) (g : α → Option ρ)
    (step : ∀ n i : Nat, i < l.length → L (n + 1) i = bif p (gt l i) then g (gt l i) else L n ((i : Int) + 1)) (done : ∀ n, L (n + 1) l.length = k) :
    ∀ n, l.length < n → L n 0 = match l.find? p with | some x => g x | none => k := by
  intro n hn
  refine zy (fun n i (_ : Unit) => L n i) l.length (fun i _ => ∀ x ∈ l.take i, p x = false) (fun o => o = match l.find? p with | some x => g x | none => k) ?_ ?_ n () (by simp) hn
  · intro n i _ hi hI hs
    simp only [step n i hi]
    cases e : p (gt l (i : Int)) with
    | false =>
      refine hs () ?_
      rw [z17 l i hi]
      intro x hx
      rcases List.mem_append.1 hx with h | h
      · exact hI x h
      · simp at h; rw [h]; exact e
    | true =>
      have : l.find? p = some (gt l (i : Int)) := by
        have h1 : l = l.take i ++ (gt l (i : Int) :: l.drop (i + 1)) := by
          rw [z7s hi, List.getElem_cons_drop, List.take_append_drop]
        generalize gt l (i : Int) = y at *
        rw [h1, List.find?_append, List.find?_eq_none.2 (fun x hx => by simp [hI x hx])]
        simp [List.find?_cons, e]
      rw [this]; rfl
  · intro n _ hI
    simp only [done]
    rw [List.take_length] at hI
    rw [List.find?_eq_none.2 (fun x hx => by simp [hI x hx])]
theorem zyc {α ρ : Type} (l : List α) (p : α → Bool) (r k : ρ) : (match l.find? p with | some _ => r | none => k) = bif l.any p then r else k := by
  induction l with
  | nil => rfl
  | cons x l ih =>
    rw [List.find?_cons, List.any_cons]
    cases p x
    · simpa using ih
    · rfl
theorem zgn {α ρ : Type} [Inhabited α] (L : Nat → Int → Option ρ) (k r : Option ρ) (l : List α) (p : α → Bool)
    (step : ∀ n i : Nat, i < l.length → L (n + 1) i = bif p (gt l i) then r else L n ((i : Int) + 1)) (done : ∀ n, L (n + 1) l.length = k)
    (n : Nat) (hn : l.length < n) : L n 0 = bif l.any p then r else k := by
  rw [zut L k l p (fun _ => r) step done n hn, zyc]
def bet (a b c : Int) : Bool := decide (b ≤ a) && decide (a ≤ c)
theorem zpe {a b c : Int} : bet a b c = true ↔ b ≤ a ∧ a ≤ c := by simp [bet]
theorem zty {a b c : Int} (h : bet a b c = true) : b ≤ a ∧ a ≤ c := zpe.1 h
theorem mk_t (n : Int) (b : Nat) (h0 : 0 ≤ n) (h : n ≤ 100000) (hb : b ≤ 1000000) : z35 n b := by
  refine ⟨h0, ?_, by omega⟩
  have : (b : Int) * n ≤ 1000000 * 100000 := Int.mul_le_mul (by omega) h h0 (by omega)
  omega
theorem zw0 {x y z : Int} : min2 x y < z ↔ x < z ∨ y < z := by unfold min2; split <;> omega
theorem y1s {x y z : Int} : z < max2 x y ↔ z < x ∨ z < y := by unfold max2; split <;> omega
end Px
end
section
namespace Px
open Go
set_option linter.unusedVariables false
set_option linter.unusedSimpArgs false
theorem zp7 {a b : Int} : cmpI a b < 0 ↔ a < b := by unfold cmpI; (repeat' split) <;> omega
theorem zow {a b : Int} : cmpI a b = 0 ↔ a = b := by unfold cmpI; (repeat' split) <;> omega
theorem y2w {a b c d e : Int} : or5 a b c d e < 0 ↔ a < 0 ∨ (a = 0 ∧ (b < 0 ∨ (b = 0 ∧ (c < 0 ∨ (c = 0 ∧ (d < 0 ∨ (d = 0 ∧ e < 0))))))) := by
  unfold or5
  by_cases h1 : a = 0
  · by_cases h2 : b = 0
    · by_cases h3 : c = 0
      · by_cases h4 : d = 0
        · simp [h1, h2, h3, h4]
        · simp [h1, h2, h3, h4]
      · simp [h1, h2, h3]
    · simp [h1, h2]
  · simp [h1]
/-- Is an event before another one? -/
theorem zi7 {a b : z1} : cfEv a b < 0 ↔ a.visit.early < b.visit.early ∨ (a.visit.early = b.visit.early ∧ (a.visit.ref.railway < b.visit.ref.railway ∨ (a.visit.ref.railway = b.visit.ref.railway ∧ (a.visit.ref.no < b.visit.ref.no ∨ (a.visit.ref.no = b.visit.ref.no ∧
    (ordB a.second < ordB b.second ∨ (ordB a.second = ordB b.second ∧ a.report < b.report))))))) := by
  unfold cfEv
  rw [y2w, zp7, zp7, zp7, zow, zow, zow]
  have e1 : ∀ x y : Int, (x - y < 0) = (x < y) := fun x y => propext ⟨fun h => by omega, fun h => by omega⟩
  have e2 : ∀ x y : Int, (x - y = 0) = (x = y) := fun x y => propext ⟨fun h => by omega, fun h => by omega⟩
  rw [e1, e1, e2]
theorem zxa : Sort.SWO (Proofs.ltOf fun a b : {y : z1 // okEv y = true} => cfEv a.1 b.1) where
  irrefl := fun x => by
    simp only [Proofs.ltOf, decide_eq_false_iff_not]
    rw [zi7]
    omega
  trans := fun x y z h1 h2 => by
    simp only [Proofs.ltOf, decide_eq_true_eq] at *
    rw [zi7] at *
    omega
  ntrans := fun x y z h1 h2 => by
    simp only [Proofs.ltOf, decide_eq_false_iff_not] at *
    rw [zi7] at *
    omega
theorem zri (φ : Nat) (a b : Int) : z65 φ a b = some (cmpI a b, ()) := by
  unfold z65 cmpI
  simp only [bne_self_eq_false, Bool.false_eq_true, if_false, decide_eq_true_eq]
  split
  · rfl
  · split <;> rfl
theorem zwq (φ : Nat) (b : Bool) : z7o φ b = some (ordB b, ()) := by
  unfold z7o ordB
  split <;> rfl
theorem y4h (φ : Nat) (h : 6 ≤ φ) (a b c d e : Int) : zqa φ [a, b, c, d, e] = some (or5 a b c d e, ()) := by
  obtain ⟨n, rfl⟩ : ∃ n, φ = n + 6 := ⟨φ - 6, by omega⟩
  unfold zqa or5
  simp only [zdv, List.length_cons, List.length_nil]
  have w : ∀ x : Int, 0 ≤ x → x < 100 → W (x + 1) = x + 1 := fun x h1 h2 => W_id (by omega) (by omega)
  have g0 : gt [a, b, c, d, e] 0 = a := rfl
  have g1 : gt [a, b, c, d, e] 1 = b := rfl
  have g2 : gt [a, b, c, d, e] 2 = c := rfl
  have g3 : gt [a, b, c, d, e] 3 = d := rfl
  have g4 : gt [a, b, c, d, e] 4 = e := rfl
  rw [w 0 (by omega) (by omega), show (0 : Int) + 1 = 1 by rfl, w 1 (by omega) (by omega), show (1 : Int) + 1 = 2 by rfl, w 2 (by omega) (by omega), show (2 : Int) + 1 = 3 by rfl, w 3 (by omega) (by omega), show (3 : Int) + 1 = 4 by rfl, w 4 (by omega) (by omega), show (4 : Int) + 1 = 5 by rfl, g0, g1, g2, g3, g4]
  simp [ck]
  repeat' (split; try rfl)
  all_goals simp_all
theorem zmd (φ : Nat) (h : 6 ≤ φ) (a b : z1) (ha : okEv a = true) (hb : okEv b = true) : z6h φ a b = some (cfEv a b, ()) := by
  simp only [okEv, decide_eq_true_eq] at ha hb
  unfold z6h cfEv
  simp only [zri, zwq, Option.bind_some]
  have w1 : W (ordB a.second - ordB b.second) = ordB a.second - ordB b.second := by
    have : ∀ x : Bool, 0 ≤ ordB x ∧ ordB x ≤ 1 := fun x => by cases x <;> decide
    have h1 := this a.second
    have h2 := this b.second
    exact W_id (by omega) (by omega)
  rw [w1, W_id (by omega) (by omega), y4h φ h]
  rfl
theorem zpf (a b : z1) (ha : okEv a = true) (hb : okEv b = true) : z6h 10 a b = some (cfEv a b, ()) := zmd 10 (by omega) a b ha hb
end Px
end
section
set_option linter.unusedVariables false
set_option linter.unusedSimpArgs false
set_option maxHeartbeats 4000000
set_option maxRecDepth 100000
namespace Px
open Go Go.RowKit Go.Proofs
def z7b (φ : Nat) : H TV (RTup TT [.val 0]) := .x
def zaa (P : Program) (φ : Nat) : Env TV := ⟨P, lk [], lk [], lk []⟩
theorem zju (φ : Nat) (a) : (z9v φ).F a = fnX TV (zaa Tryz.prog φ) φ Tryz.f66 [0, 0] [.val 0] (z7b φ) a := by kernel_rfl
theorem zkh (φ : Nat) : fnO TV (zaa Tryz.prog φ) φ Tryz.f66 [.val 0] (z7b φ) := by
  unfold fnO
  show obl _ _ _ _ _ _ _
  unfold z7b
  repeat' (first | exact trivial | (refine ⟨?_, ?_⟩) | (intro _) | kernel_rfl)
theorem zkn (φ : Nat) : z1i TV Tryz.prog 66 (z9v φ) :=
  z1v (N := zaa Tryz.prog φ) (z03 trivial trivial trivial) (z7b φ) Tryz.func66 (by kernel_rfl) (zju φ) (zkh φ)
def zdf : Msp TV := ⟨3, 0, [], zeq⟩
theorem zhr : zvz TV Tryz.prog 92 zdf := fun l l' sv h => zms (ρ := Tryz.lays189_ren) Tryz.lays189 h
def z7d (φ : Nat) : H TV (RTup TT [.val 0]) := .x
def z9j (P : Program) (φ : Nat) : Env TV := ⟨P, lk [], lk [], lk []⟩
theorem zl6 (φ : Nat) (a) : (z9o φ).F a = fnX TV (z9j Tryz.prog φ) φ Tryz.f67 [2] [.val 0] (z7d φ) a := by kernel_rfl
theorem zku (φ : Nat) : fnO TV (z9j Tryz.prog φ) φ Tryz.f67 [.val 0] (z7d φ) := by
  unfold fnO
  show obl _ _ _ _ _ _ _
  unfold z7d
  repeat' (first | exact trivial | (refine ⟨?_, ?_⟩) | (intro _) | kernel_rfl)
theorem zkp (φ : Nat) : z1i TV Tryz.prog 67 (z9o φ) :=
  z1v (N := z9j Tryz.prog φ) (z03 trivial trivial trivial) (z7d φ) Tryz.func67 (by kernel_rfl) (zl6 φ) (zku φ)
def zge (φ : Nat) : H TV (RTup TT [.val 0]) := (.seq .x (.seq .x (.seq (.seq .x (.body (.loop ⟨[(18, [(3, .val 0), (6, .val 5), (7, .val 0), (8, .val 0)])], []⟩ (fun n z => zdv φ n z.1 z.2.1 z.2.2.1 z.2.2.2.1) (fun zk6 => .x)))) .x)))
def zkq (P : Program) (φ : Nat) : Env TV := ⟨P, lk [], lk [], lk []⟩
theorem zxb (φ : Nat) (a) : (zl7 φ).F a = fnX TV (zkq Tryz.prog φ) φ Tryz.f65 [5] [.val 0] (zge φ) a := by kernel_rfl
theorem zwe (φ : Nat) : fnO TV (zkq Tryz.prog φ) φ Tryz.f65 [.val 0] (zge φ) := by
  unfold fnO
  show obl _ _ _ _ _ _ _
  unfold zge
  repeat' (first | exact trivial | (refine ⟨?_, ?_⟩) | (intro _) | kernel_rfl)
theorem zwd (φ : Nat) : z1i TV Tryz.prog 65 (zl7 φ) :=
  z1v (N := zkq Tryz.prog φ) (z03 trivial trivial trivial) (zge φ) Tryz.func65 (by kernel_rfl) (zxb φ) (zwe φ)
def z49 (φ : Nat) : H TV (RTup TT [.val 0]) := .x
def z6z (P : Program) (φ : Nat) : Env TV := ⟨P, lk [(66, z9v φ), (67, z9o φ), (65, zl7 φ)], lk [], lk []⟩
theorem zfv (φ : Nat) (a) : (zaf φ).F a = fnX TV (z6z Tryz.prog φ) φ Tryz.f64 [4, 4] [.val 0] (z49 φ) a := by kernel_rfl
theorem zfw (φ : Nat) : fnO TV (z6z Tryz.prog φ) φ Tryz.f64 [.val 0] (z49 φ) := by
  unfold fnO
  show obl _ _ _ _ _ _ _
  unfold z49
  repeat' (first | exact trivial | (refine ⟨?_, ?_⟩) | (intro _) | kernel_rfl)
theorem zgd (φ : Nat) : z1i TV Tryz.prog 64 (zaf φ) :=
  z1v (N := z6z Tryz.prog φ) (z03 ⟨zkn φ, zkp φ, zwd φ, trivial⟩ trivial trivial) (z49 φ) Tryz.func64 (by kernel_rfl) (zfv φ) (zfw φ)
def zpw : Msp TV := ⟨103, 4, [64], sortEv⟩
theorem zy5 : zvz TV Tryz.prog 63 zpw :=
  ztu (V := TV) (c := 4) (ρ := Tryz.sortEv_ren) Tryz.sortEv Tryz.isAgg103 (by rw [show TV.sz 4 = 11 by kernel_rfl]; exact Tryz.sizeOf103) (by kernel_rfl) (by kernel_rfl) ⟨Tryz.f64, Tryz.func64, by kernel_rfl, by kernel_rfl⟩ zxa fun a b ha hb =>
    (zgd 10 (a, b, ()) (cfEv a b, ()) (zpf a b ha hb)).mono fun x news ⟨B, hB, h1, h2⟩ => by
      cases B with
      | nil => exact ⟨h1, h2⟩
      | cons y B => cases hB
def z5l (φ : Nat) : H TV (RTup TT [.val 30]) := .x
def z83 (P : Program) (φ : Nat) : Env TV := ⟨P, lk [], lk [], lk []⟩
theorem zhv (φ : Nat) (a) : (z8a φ).F a = fnX TV (z83 Tryz.prog φ) φ Tryz.f29 [] [.val 30] (z5l φ) a := by kernel_rfl
theorem zhs (φ : Nat) : fnO TV (z83 Tryz.prog φ) φ Tryz.f29 [.val 30] (z5l φ) := by
  unfold fnO
  show obl _ _ _ _ _ _ _
  unfold z5l
  repeat' (first | exact trivial | (refine ⟨?_, ?_⟩) | (intro _) | kernel_rfl)
theorem zgw (φ : Nat) : z1i TV Tryz.prog 29 (z8a φ) :=
  z1v (N := z83 Tryz.prog φ) (z03 trivial trivial trivial) (z5l φ) Tryz.func29 (by kernel_rfl) (zhv φ) (zhs φ)
def z4l (φ : Nat) : H TV (RTup TT [.val 2]) := .x
def z84 (P : Program) (φ : Nat) : Env TV := ⟨P, lk [], lk [], lk []⟩
theorem zh8 (φ : Nat) (a) : (z7r φ).F a = fnX TV (z84 Tryz.prog φ) φ Tryz.f93 [6] [.val 2] (z4l φ) a := by kernel_rfl
theorem zh3 (φ : Nat) : fnO TV (z84 Tryz.prog φ) φ Tryz.f93 [.val 2] (z4l φ) := by
  unfold fnO
  show obl _ _ _ _ _ _ _
  unfold z4l
  repeat' (first | exact trivial | (refine ⟨?_, ?_⟩) | (intro _) | kernel_rfl)
theorem zhg (φ : Nat) : z1i TV Tryz.prog 93 (z7r φ) :=
  z1v (N := z84 Tryz.prog φ) (z03 trivial trivial trivial) (z4l φ) Tryz.func93 (by kernel_rfl) (zh8 φ) (zh3 φ)
def z4x (φ : Nat) : H TV (RTup TT [.val 0]) := (.seq .x (.seq .x (.seq .x (.seq (.seq .x (.body (.loop ⟨[(84, [(1, .ptr 0 0), (3, .val 0), (20, .val 7), (21, .val 0), (22, .val 0)])], [.box 25 [.val 10]]⟩ (fun n z => z1x φ n z.1 z.2.1 z.2.2.1 z.2.2.2.1 z.2.2.2.2.1) (fun zk7 => .x)))) (.seq (.seq .x (.body (.loop ⟨[(84, [(3, .val 0), (31, .val 9), (32, .val 0), (33, .val 0)])], []⟩ (fun n z => z10 φ n z.1 z.2.1 z.2.2.1 z.2.2.2.1) (fun zk13 => .x)))) .x)))))
def z8d (P : Program) (φ : Nat) : Env TV := ⟨P, lk [(93, z7r φ)], lk [], lk []⟩
theorem zh9 (φ : Nat) (a) : (z2g φ).F a = fnX TV (z8d Tryz.prog φ) φ Tryz.f56 [10] [.val 0] (z4x φ) a := by kernel_rfl
theorem zh1 (φ : Nat) : fnO TV (z8d Tryz.prog φ) φ Tryz.f56 [.val 0] (z4x φ) := by
  unfold fnO
  show obl _ _ _ _ _ _ _
  unfold z4x
  repeat' (first | exact trivial | (refine ⟨?_, ?_⟩) | (intro _) | kernel_rfl)
theorem z4t (φ : Nat) : z1i TV Tryz.prog 56 (z2g φ) :=
  z1v (N := z8d Tryz.prog φ) (z03 ⟨zhg φ, trivial⟩ trivial trivial) (z4x φ) Tryz.func56 (by kernel_rfl) (zh9 φ) (zh1 φ)
def z5n (φ : Nat) : H TV (RTup TT [.val 2]) := .x
def z7w (P : Program) (φ : Nat) : Env TV := ⟨P, lk [], lk [], lk []⟩
theorem zha (φ : Nat) (a) : (z4u φ).F a = fnX TV (z7w Tryz.prog φ) φ Tryz.f58 [0, 0, 0] [.val 2] (z5n φ) a := by kernel_rfl
theorem zh6 (φ : Nat) : fnO TV (z7w Tryz.prog φ) φ Tryz.f58 [.val 2] (z5n φ) := by
  unfold fnO
  show obl _ _ _ _ _ _ _
  unfold z5n
  repeat' (first | exact trivial | (refine ⟨?_, ?_⟩) | (intro _) | kernel_rfl)
theorem zb5 (φ : Nat) : z1i TV Tryz.prog 58 (z4u φ) :=
  z1v (N := z7w Tryz.prog φ) (z03 trivial trivial trivial) (z5n φ) Tryz.func58 (by kernel_rfl) (zha φ) (zh6 φ)
def z7e (φ : Nat) : H TV (RTup TT [.val 0]) := (.seq .x (.seq .x (.seq .x (.seq .x (.seq (.seq .x (.body (.loop ⟨[(206, [(1, .ptr 0 0), (3, .ptr 1 0), (4, .func 94 [.ptr 1 0]), (41, .val 13), (42, .val 0), (43, .val 0)])], [.box 31 [.val 20], .box 47 [.val 0]]⟩ (fun n z => z29 φ n z.1 z.2.1 z.2.2.1 z.2.2.2.1 z.2.2.2.2.1) (fun zk7 => (.seq .x (.seq .x (.seq (.body (.seq .x (.seq (.seq .x (.body (.loop ⟨[(206, [(1, .ptr 0 0), (3, .ptr 1 0), (4, .func 94 [.ptr 1 0]), (6, .ptr 2 0), (41, .val 13), (42, .val 0), (43, .val 0), (55, .own 3), (56, .val 0), (57, .val 0)])], [.box 31 [.val 20], .box 47 [.val 0], .box 152 [.val 12], .row 3 0]⟩ (fun n z => z12 φ (fun a0 a1 a2 a3 a4 => zk7 (a0, a1, a2, a3, a4, ())) n z.1 z.2.1 z.2.2.1 z.2.2.2.1 z.2.2.2.2.1 z.2.2.2.2.2.1 z.2.2.2.2.2.2.1 z.2.2.2.2.2.2.2.1 z.2.2.2.2.2.2.2.2.1) (fun zk17 => .x)))) .x))) .x))))))) (.seq (.seq .x (.body (.loop ⟨[(206, [(1, .ptr 0 0), (3, .ptr 1 0), (4, .func 94 [.ptr 1 0]), (83, .val 15), (84, .val 0), (85, .val 0)])], [.box 31 [.val 20], .box 47 [.val 0]]⟩ (fun n z => zu φ n z.1 z.2.1 z.2.2.1 z.2.2.2.1 z.2.2.2.2.1) (fun zk27 => .x)))) (.seq (.seq .x (.body (.loop ⟨[(206, [(1, .ptr 0 0), (3, .ptr 1 0), (4, .func 94 [.ptr 1 0]), (120, .val 17), (121, .val 0), (122, .val 0)])], [.box 31 [.val 20], .box 47 [.val 0]]⟩ (fun n z => z0c φ n z.1 z.2.1 z.2.2.1 z.2.2.2.1 z.2.2.2.2.1) (fun zk40 => .x)))) (.seq .x (.seq (.seq .x (.body (.loop ⟨[(206, [(3, .ptr 0 0), (4, .func 94 [.ptr 0 0]), (13, .ptr 1 0), (158, .val 19), (159, .val 0), (160, .val 0)])], [.box 47 [.val 0], .box 195 [.val 31]]⟩ (fun n z => zj φ n z.1 z.2.1 z.2.2.1 z.2.2.2.1 z.2.2.2.2.1) (fun zk49 => .x)))) .x)))))))))
def z9n (P : Program) (φ : Nat) : Env TV := ⟨P, lk [(58, z4u φ)], lk [], lk []⟩
theorem zjz (φ : Nat) (a) : (z9l φ).F a = fnX TV (z9n Tryz.prog φ) φ Tryz.f57 [20] [.val 0] (z7e φ) a := by kernel_rfl
theorem zk2 (φ : Nat) : fnO TV (z9n Tryz.prog φ) φ Tryz.f57 [.val 0] (z7e φ) := by
  unfold fnO
  show obl _ _ _ _ _ _ _
  unfold z7e
  repeat' (first | exact trivial | (refine ⟨?_, ?_⟩) | (intro _) | kernel_rfl)
theorem zky (φ : Nat) : z1i TV Tryz.prog 57 (z9l φ) :=
  z1v (N := z9n Tryz.prog φ) (z03 ⟨zb5 φ, trivial⟩ trivial trivial) (z7e φ) Tryz.func57 (by kernel_rfl) (zjz φ) (zk2 φ)
def z44 (φ : Nat) : H TV (RTup TT [.val 0]) := (.seq .x (.seq (.seq .x (.body (.loop ⟨[(45, [(1, .ptr 0 0), (9, .val 26), (10, .val 0)])], [.box 126 [.val 27]]⟩ (fun n z => z1k φ n z.1 z.2.1 z.2.2.1) (fun zk5 => .x)))) (.seq .x (.seq (.seq .x (.body (.loop ⟨[(45, [(5, .val 0), (30, .val 5), (31, .val 0), (32, .val 0)])], []⟩ (fun n z => z18 φ n z.1 z.2.1 z.2.2.1 z.2.2.2.1) (fun zk10 => .x)))) .x))))
def z6w (P : Program) (φ : Nat) : Env TV := ⟨P, lk [], lk [], lk []⟩
theorem zg5 (φ : Nat) (a) : (z75 φ).F a = fnX TV (z6w Tryz.prog φ) φ Tryz.f59 [27] [.val 0] (z44 φ) a := by kernel_rfl
theorem zg8 (φ : Nat) : fnO TV (z6w Tryz.prog φ) φ Tryz.f59 [.val 0] (z44 φ) := by
  unfold fnO
  show obl _ _ _ _ _ _ _
  unfold z44
  repeat' (first | exact trivial | (refine ⟨?_, ?_⟩) | (intro _) | kernel_rfl)
theorem zg7 (φ : Nat) : z1i TV Tryz.prog 59 (z75 φ) :=
  z1v (N := z6w Tryz.prog φ) (z03 trivial trivial trivial) (z44 φ) Tryz.func59 (by kernel_rfl) (zg5 φ) (zg8 φ)
def z8q (φ : Nat) : H TV (RTup TT [.val 11, .val 11]) := .x
def zao (P : Program) (φ : Nat) : Env TV := ⟨P, lk [], lk [], lk []⟩
theorem zn3 (φ : Nat) (a) : (z8v φ).F a = fnX TV (zao Tryz.prog φ) φ Tryz.f142 [11, 11] [.val 11, .val 11] (z8q φ) a := by kernel_rfl
theorem zlw (φ : Nat) : fnO TV (zao Tryz.prog φ) φ Tryz.f142 [.val 11, .val 11] (z8q φ) := by
  unfold fnO
  show obl _ _ _ _ _ _ _
  unfold z8q
  repeat' (first | exact trivial | (refine ⟨?_, ?_⟩) | (intro _) | kernel_rfl)
theorem zfs (φ : Nat) : z1i TV Tryz.prog 142 (z8v φ) :=
  z1v (N := zao Tryz.prog φ) (z03 trivial trivial trivial) (z8q φ) Tryz.func142 (by kernel_rfl) (zn3 φ) (zlw φ)
def z20 (φ : Nat) : H TV (RTup TT [.val 0]) := (.seq .x (.seq (.ins 1 125 (.seq .x (.seq (.join ⟨[(25, [(0, .val 11), (2, .val 0)]), (6, [])], []⟩ (fun z => z0t φ z.1 z.2.1) (.seq .x .x)) (.seq (.join ⟨[(25, [(0, .val 11), (2, .val 0)]), (6, [])], []⟩ (fun z => z0v φ z.1 z.2.1) (.seq .x .x)) (.seq (.join ⟨[(25, [(0, .val 11), (2, .val 0)]), (6, [])], []⟩ (fun z => z0n φ z.1 z.2.1) (.seq .x .x)) .x)))) .x) .x))
def z3b (P : Program) (φ : Nat) : Env TV := ⟨P, lk [], lk [], lk []⟩
theorem zay (φ : Nat) (a) : (z34 φ).F a = fnX TV (z3b Tryz.prog φ) φ Tryz.f162 [11] [.val 0] (z20 φ) a := by kernel_rfl
theorem zbd (φ : Nat) : fnO TV (z3b Tryz.prog φ) φ Tryz.f162 [.val 0] (z20 φ) := by
  unfold fnO
  show obl _ _ _ _ _ _ _
  unfold z20
  repeat' (first | exact trivial | (refine ⟨?_, ?_⟩) | (intro _) | kernel_rfl)
theorem zaz (φ : Nat) : z1i TV Tryz.prog 162 (z34 φ) :=
  z1v (N := z3b Tryz.prog φ) (z03 trivial trivial trivial) (z20 φ) Tryz.func162 (by kernel_rfl) (zay φ) (zbd φ)
def z8u (φ : Nat) : H TV (RTup TT [.val 11, .val 11]) := (.seq .x (.seq .x (.seq .x (.seq .x (.seq .x (.seq .x (.seq .x (.seq .x (.seq .x (.seq .x (.seq .x (.seq .x (.seq .x (.seq .x (.seq (.join ⟨[(135, [(2, .val 11), (8, .val 11), (9, .val 11), (10, .val 11), (11, .val 11), (13, .val 11), (14, .val 11), (15, .val 11)])], []⟩ (fun z => z42 φ z.1 z.2.1 z.2.2.1 z.2.2.2.1 z.2.2.2.2.1 z.2.2.2.2.2.1 z.2.2.2.2.2.2.1 z.2.2.2.2.2.2.2.1) (.body (.loop ⟨[(135, [(2, .val 11), (8, .val 11), (9, .val 11), (10, .val 11), (11, .val 11), (13, .val 11), (14, .val 11), (15, .val 11), (16, .val 11)])], []⟩ (fun n z => z3t φ n z.1 z.2.1 z.2.2.1 z.2.2.2.1 z.2.2.2.2.1 z.2.2.2.2.2.1 z.2.2.2.2.2.2.1 z.2.2.2.2.2.2.2.1 z.2.2.2.2.2.2.2.2.1) (fun zk40 => .x)))) (.seq .x (.seq .x (.seq .x (.seq (.join ⟨[(135, [(2, .val 11), (8, .val 11), (14, .val 11), (15, .val 11), (17, .val 11), (18, .val 11)])], []⟩ (fun z => z43 φ z.1 z.2.1 z.2.2.1 z.2.2.2.1 z.2.2.2.2.1 z.2.2.2.2.2.1) (.body (.loop ⟨[(135, [(2, .val 11), (8, .val 11), (9, .val 11), (10, .val 11), (14, .val 11), (15, .val 11), (16, .val 11), (17, .val 11), (18, .val 11)])], []⟩ (fun n z => z3v φ n z.1 z.2.1 z.2.2.1 z.2.2.2.1 z.2.2.2.2.1 z.2.2.2.2.2.1 z.2.2.2.2.2.2.1 z.2.2.2.2.2.2.2.1 z.2.2.2.2.2.2.2.2.1) (fun zk30 => .x)))) .x)))))))))))))))))))
def zam (P : Program) (φ : Nat) : Env TV := ⟨P, lk [(162, z34 φ)], lk [], lk []⟩
theorem zn6 (φ : Nat) (a) : (zbc φ).F a = fnX TV (zam Tryz.prog φ) φ Tryz.f153 [11, 11, 11] [.val 11, .val 11] (z8u φ) a := by kernel_rfl
theorem zna (φ : Nat) : fnO TV (zam Tryz.prog φ) φ Tryz.f153 [.val 11, .val 11] (z8u φ) := by
  unfold fnO
  show obl _ _ _ _ _ _ _
  unfold z8u
  repeat' (first | exact trivial | (refine ⟨?_, ?_⟩) | (intro _) | kernel_rfl)
theorem zm4 (φ : Nat) : z1i TV Tryz.prog 153 (zbc φ) :=
  z1v (N := zam Tryz.prog φ) (z03 ⟨zaz φ, trivial⟩ trivial trivial) (z8u φ) Tryz.func153 (by kernel_rfl) (zn6 φ) (zna φ)
def zc3 (φ : Nat) : H TV (RTup TT [.val 11]) := (.seq .x (.seq .x (.seq .x (.seq (.seq (.ins 1 125 (.seq .x (.seq (.join ⟨[(25, [(0, .val 11), (2, .val 0)]), (33, [(0, .val 11), (1, .val 11), (5, .func 152 [.ptr 0 0]), (6, .val 11)])], [.box 68 [.val 11]]⟩ (fun z => z8b φ z.1 z.2.1 z.2.2.1 z.2.2.2.1 z.2.2.2.2.1 z.2.2.2.2.2.1) (.seq .x .x)) (.seq (.join ⟨[(25, [(0, .val 11), (2, .val 0)]), (33, [(0, .val 11), (1, .val 11), (5, .func 152 [.ptr 0 0]), (6, .val 11)])], [.box 68 [.val 11]]⟩ (fun z => z6s φ z.1 z.2.1 z.2.2.1 z.2.2.2.1 z.2.2.2.2.1 z.2.2.2.2.2.1) (.seq .x .x)) (.seq (.join ⟨[(25, [(0, .val 11), (2, .val 0)]), (33, [(0, .val 11), (1, .val 11), (5, .func 152 [.ptr 0 0]), (6, .val 11)])], [.box 68 [.val 11]]⟩ (fun z => z6r φ z.1 z.2.1 z.2.2.1 z.2.2.2.1 z.2.2.2.2.1 z.2.2.2.2.2.1) (.seq .x .x)) .x)))) .x) (.body (.loop ⟨[(33, [(0, .val 11), (1, .val 11), (5, .func 152 [.ptr 0 0]), (6, .val 11), (10, .val 0), (11, .val 0)])], [.box 68 [.val 11]]⟩ (fun n z => z02 φ n z.1 z.2.1 z.2.2.1 z.2.2.2.1 z.2.2.2.2.1 z.2.2.2.2.2.1) (fun zk30 => (.seq .x (.seq .x (.seq (.body (.seq .x (.seq .x (.seq (.ins 2 125 (.seq .x (.seq (.join ⟨[(25, [(0, .val 11), (2, .val 0)]), (33, [(0, .val 11), (1, .val 11), (5, .func 152 [.ptr 0 0]), (6, .val 11), (7, .val 0), (10, .val 0), (11, .val 0), (18, .val 11)])], [.box 68 [.val 11]]⟩ (fun z => z27 φ (fun a0 a1 a2 a3 a4 a5 => zk30 (a0, a1, a2, a3, a4, a5, ())) z.1 z.2.1 z.2.2.1 z.2.2.2.1 z.2.2.2.2.1 z.2.2.2.2.2.1 z.2.2.2.2.2.2.1 z.2.2.2.2.2.2.2.1 z.2.2.2.2.2.2.2.2.1 z.2.2.2.2.2.2.2.2.2.1) (.seq .x .x)) (.seq (.join ⟨[(25, [(0, .val 11), (2, .val 0)]), (33, [(0, .val 11), (1, .val 11), (5, .func 152 [.ptr 0 0]), (6, .val 11), (7, .val 0), (10, .val 0), (11, .val 0), (18, .val 11)])], [.box 68 [.val 11]]⟩ (fun z => z6q φ (fun a0 a1 a2 a3 a4 a5 => zk30 (a0, a1, a2, a3, a4, a5, ())) z.1 z.2.1 z.2.2.1 z.2.2.2.1 z.2.2.2.2.1 z.2.2.2.2.2.1 z.2.2.2.2.2.2.1 z.2.2.2.2.2.2.2.1 z.2.2.2.2.2.2.2.2.1 z.2.2.2.2.2.2.2.2.2.1) (.seq .x .x)) (.seq (.join ⟨[(25, [(0, .val 11), (2, .val 0)]), (33, [(0, .val 11), (1, .val 11), (5, .func 152 [.ptr 0 0]), (6, .val 11), (7, .val 0), (10, .val 0), (11, .val 0), (18, .val 11)])], [.box 68 [.val 11]]⟩ (fun z => z6n φ (fun a0 a1 a2 a3 a4 a5 => zk30 (a0, a1, a2, a3, a4, a5, ())) z.1 z.2.1 z.2.2.1 z.2.2.2.1 z.2.2.2.2.1 z.2.2.2.2.2.1 z.2.2.2.2.2.2.1 z.2.2.2.2.2.2.2.1 z.2.2.2.2.2.2.2.2.1 z.2.2.2.2.2.2.2.2.2.1) (.seq .x .x)) .x)))) .x) .x)))) .x))))))) .x))))
def zff (P : Program) (φ : Nat) : Env TV := ⟨P, lk [(142, z8v φ), (153, zbc φ)], lk [], lk []⟩
theorem zrc (φ : Nat) (a) : (zf9 φ).F a = fnX TV (zff Tryz.prog φ) φ Tryz.f95 [11, 11] [.val 11] (zc3 φ) a := by kernel_rfl
theorem zrf (φ : Nat) : fnO TV (zff Tryz.prog φ) φ Tryz.f95 [.val 11] (zc3 φ) := by
  unfold fnO
  show obl _ _ _ _ _ _ _
  unfold zc3
  repeat' (first | exact trivial | (refine ⟨?_, ?_⟩) | (intro _) | kernel_rfl)
theorem zr8 (φ : Nat) : z1i TV Tryz.prog 95 (zf9 φ) :=
  z1v (N := zff Tryz.prog φ) (z03 ⟨zfs φ, zm4 φ, trivial⟩ trivial trivial) (zc3 φ) Tryz.func95 (by kernel_rfl) (zrc φ) (zrf φ)
def z8n (φ : Nat) : H TV (RTup TT [.val 2]) := .x
def zan (P : Program) (φ : Nat) : Env TV := ⟨P, lk [(95, zf9 φ)], lk [], lk []⟩
theorem zm5 (φ : Nat) (a) : (zb1 φ).F a = fnX TV (zan Tryz.prog φ) φ Tryz.f60 [11] [.val 2] (z8n φ) a := by kernel_rfl
theorem zls (φ : Nat) : fnO TV (zan Tryz.prog φ) φ Tryz.f60 [.val 2] (z8n φ) := by
  unfold fnO
  show obl _ _ _ _ _ _ _
  unfold z8n
  repeat' (first | exact trivial | (refine ⟨?_, ?_⟩) | (intro _) | kernel_rfl)
theorem zmk (φ : Nat) : z1i TV Tryz.prog 60 (zb1 φ) :=
  z1v (N := zan Tryz.prog φ) (z03 ⟨zr8 φ, trivial⟩ trivial trivial) (z8n φ) Tryz.func60 (by kernel_rfl) (zm5 φ) (zls φ)
def z3k (φ : Nat) : H TV (RTup TT [.val 0]) := (.seq .x (.seq .x (.seq .x (.seq .x (.seq .x (.seq .x (.seq (.seq .x (.body (.loop ⟨[(193, [(1, .ptr 0 0), (5, .val 7), (6, .val 0), (7, .val 2), (57, .val 22), (58, .val 0), (59, .val 0)])], [.box 36 [.val 30]]⟩ (fun n z => z0x φ n z.1 z.2.1 z.2.2.1 z.2.2.2.1 z.2.2.2.2.1 z.2.2.2.2.2.1 z.2.2.2.2.2.2.1) (fun zk11 => .x)))) (.seq (.seq .x (.body (.loop ⟨[(193, [(1, .ptr 0 0), (5, .val 7), (6, .val 0), (7, .val 2), (92, .val 24), (93, .val 0), (94, .val 0)])], [.box 36 [.val 30]]⟩ (fun n z => z0g φ n z.1 z.2.1 z.2.2.1 z.2.2.2.1 z.2.2.2.2.1 z.2.2.2.2.2.1 z.2.2.2.2.2.2.1) (fun zk20 => .x)))) (.seq (.seq .x (.body (.loop ⟨[(193, [(1, .ptr 0 0), (5, .val 7), (6, .val 0), (7, .val 2), (120, .val 15), (121, .val 0), (122, .val 0)])], [.box 36 [.val 30]]⟩ (fun n z => z0l φ n z.1 z.2.1 z.2.2.1 z.2.2.2.1 z.2.2.2.2.1 z.2.2.2.2.2.1 z.2.2.2.2.2.2.1) (fun zk29 => .x)))) (.seq (.seq .x (.body (.loop ⟨[(193, [(1, .ptr 0 0), (6, .val 0), (7, .val 2), (135, .val 7), (136, .val 0), (137, .val 0)])], [.box 36 [.val 30]]⟩ (fun n z => z0k φ n z.1 z.2.1 z.2.2.1 z.2.2.2.1 z.2.2.2.2.1 z.2.2.2.2.2.1) (fun zk36 => .x)))) (.seq (.seq .x (.body (.loop ⟨[(193, [(1, .ptr 0 0), (6, .val 0), (7, .val 2), (157, .val 9), (158, .val 0), (159, .val 0)])], [.box 36 [.val 30]]⟩ (fun n z => z0j φ n z.1 z.2.1 z.2.2.1 z.2.2.2.1 z.2.2.2.2.1 z.2.2.2.2.2.1) (fun zk43 => .x)))) (.seq (.seq .x (.body (.loop ⟨[(193, [(7, .val 2), (172, .val 29), (173, .val 0), (174, .val 0)])], []⟩ (fun n z => z0m φ n z.1 z.2.1 z.2.2.1 z.2.2.2.1) (fun zk48 => .x)))) .x))))))))))))
def z61 (P : Program) (φ : Nat) : Env TV := ⟨P, lk [(56, z2g φ), (57, z9l φ), (58, z4u φ), (59, z75 φ), (60, zb1 φ)], lk [], lk []⟩
theorem zev (φ : Nat) (a) : (z1j φ).F a = fnX TV (z61 Tryz.prog φ) φ Tryz.f30 [30] [.val 0] (z3k φ) a := by kernel_rfl
theorem zez (φ : Nat) : fnO TV (z61 Tryz.prog φ) φ Tryz.f30 [.val 0] (z3k φ) := by
  unfold fnO
  show obl _ _ _ _ _ _ _
  unfold z3k
  repeat' (first | exact trivial | (refine ⟨?_, ?_⟩) | (intro _) | kernel_rfl)
theorem z3g (φ : Nat) : z1i TV Tryz.prog 30 (z1j φ) :=
  z1v (N := z61 Tryz.prog φ) (z03 ⟨z4t φ, zky φ, zb5 φ, zg7 φ, zmk φ, trivial⟩ trivial trivial) (z3k φ) Tryz.func30 (by kernel_rfl) (zev φ) (zez φ)
def z4z (φ : Nat) : H TV (RTup TT [.val 2]) := .x
def z7p (P : Program) (φ : Nat) : Env TV := ⟨P, lk [], lk [], lk []⟩
theorem zib (φ : Nat) (a) : (z8e φ).F a = fnX TV (z7p Tryz.prog φ) φ Tryz.f48 [35] [.val 2] (z4z φ) a := by kernel_rfl
theorem zhu (φ : Nat) : fnO TV (z7p Tryz.prog φ) φ Tryz.f48 [.val 2] (z4z φ) := by
  unfold fnO
  show obl _ _ _ _ _ _ _
  unfold z4z
  repeat' (first | exact trivial | (refine ⟨?_, ?_⟩) | (intro _) | kernel_rfl)
theorem zie (φ : Nat) : z1i TV Tryz.prog 48 (z8e φ) :=
  z1v (N := z7p Tryz.prog φ) (z03 trivial trivial trivial) (z4z φ) Tryz.func48 (by kernel_rfl) (zib φ) (zhu φ)
def z9x (φ : Nat) : H TV (RTup TT [.val 2]) := (.seq .x (.seq (.seq .x (.body (.loop ⟨[(43, [(0, .val 34), (1, .val 2), (7, .val 34), (8, .val 0), (9, .val 0)])], []⟩ (fun n z => z4i φ n z.1 z.2.1 z.2.2.1 z.2.2.2.1 z.2.2.2.2.1) (fun zk8 => .x)))) .x))
def zcj (P : Program) (φ : Nat) : Env TV := ⟨P, lk [], lk [], lk []⟩
theorem zp1 (φ : Nat) (a) : (zcw φ).F a = fnX TV (zcj Tryz.prog φ) φ Tryz.f121 [34, 2] [.val 2] (z9x φ) a := by kernel_rfl
theorem zof (φ : Nat) : fnO TV (zcj Tryz.prog φ) φ Tryz.f121 [.val 2] (z9x φ) := by
  unfold fnO
  show obl _ _ _ _ _ _ _
  unfold z9x
  repeat' (first | exact trivial | (refine ⟨?_, ?_⟩) | (intro _) | kernel_rfl)
theorem zom (φ : Nat) : z1i TV Tryz.prog 121 (zcw φ) :=
  z1v (N := zcj Tryz.prog φ) (z03 trivial trivial trivial) (z9x φ) Tryz.func121 (by kernel_rfl) (zp1 φ) (zof φ)
def z8z (φ : Nat) : H TV (RTup TT [.val 2]) := (.seq .x (.seq .x (.seq (.join ⟨[(46, [(5, .ptr 0 0)])], [.box 182 [.val 36]]⟩ (fun z => za φ z.1) (.seq .x (.cond (.ins 0 85 (.seq .x (.seq .x (.seq .x (.seq .x (.body (.seq .x (.cond .x (.seq .x (.cond (.seq (.ins 1 117 (.seq .x (.seq (.join ⟨[(66, [(0, .ptr 0 0), (1, .val 0), (4, .ptr 1 0)]), (135, [(0, .ptr 0 0)]), (46, [(5, .ptr 0 0)])], [.box 182 [.val 36], .box 148 [.val 6]]⟩ (fun z => z5m φ z.1 z.2.1 z.2.2.1) (.seq .x .x)) .x)) .x) .x) (.seq (.join ⟨[(135, [(0, .ptr 0 0), (2, .ptr 0 9), (20, .val 0), (43, .val 2)]), (46, [(5, .ptr 0 0)])], [.box 182 [.val 36]]⟩ (fun z => z3x φ z.1 z.2.1 z.2.2.1) (.seq .x .x)) (.cond (.seq (.ins 1 117 (.seq .x (.seq (.join ⟨[(66, [(0, .ptr 0 0), (1, .val 0), (4, .ptr 1 0)]), (135, [(0, .ptr 0 0), (2, .ptr 0 9)]), (46, [(5, .ptr 0 0)])], [.box 182 [.val 36], .box 148 [.val 6]]⟩ (fun z => z40 φ z.1 z.2.1 z.2.2.1) (.seq .x .x)) .x)) .x) .x) (.seq .x (.cond (.seq .x (.seq .x (.seq (.ins 1 117 (.seq .x (.seq (.join ⟨[(66, [(0, .ptr 0 0), (1, .val 0), (4, .ptr 1 0)]), (135, [(0, .ptr 0 0), (2, .ptr 0 9)]), (46, [(5, .ptr 0 0)])], [.box 182 [.val 36], .box 148 [.val 6]]⟩ (fun z => z3w φ z.1 z.2.1 z.2.2.1) (.seq .x .x)) .x)) .x) .x))) (.seq (.join ⟨[(135, [(0, .ptr 0 0), (2, .ptr 0 9), (116, .val 2)]), (46, [(5, .ptr 0 0)])], [.box 182 [.val 36]]⟩ (fun z => z3z φ z.1 z.2.1) (.seq .x .x)) (.cond (.seq (.ins 1 117 (.seq .x (.seq (.join ⟨[(66, [(0, .ptr 0 0), (1, .val 0), (4, .ptr 1 0)]), (135, [(0, .ptr 0 0), (2, .ptr 0 9)]), (46, [(5, .ptr 0 0)])], [.box 182 [.val 36], .box 148 [.val 6]]⟩ (fun z => z3o φ z.1 z.2.1 z.2.2.1) (.seq .x .x)) .x)) .x) .x) .x))))))))))))))) .x) (.ins 0 86 (.seq .x (.seq .x (.body (.seq .x (.cond .x (.seq .x (.cond (.seq .x (.seq (.ins 1 117 (.seq .x (.seq (.join ⟨[(66, [(0, .ptr 0 0), (1, .val 0), (4, .ptr 1 0)]), (168, [(0, .ptr 0 0), (2, .ptr 0 9)]), (46, [(5, .ptr 0 0)])], [.box 182 [.val 36], .box 148 [.val 6]]⟩ (fun z => z3u φ z.1 z.2.1 z.2.2.1) (.seq .x .x)) .x)) .x) .x)) (.seq .x (.cond .x (.seq (.join ⟨[(168, [(0, .ptr 0 0), (2, .ptr 0 9), (9, .val 0), (91, .val 2)]), (46, [(5, .ptr 0 0)])], [.box 182 [.val 36]]⟩ (fun z => z2a φ z.1 z.2.1 z.2.2.1) (.seq .x .x)) (.cond .x (.seq .x (.cond .x (.seq .x (.cond (.seq .x (.seq (.ins 1 117 (.seq .x (.seq (.join ⟨[(66, [(0, .ptr 0 0), (1, .val 0), (4, .ptr 1 0)]), (168, [(0, .ptr 0 0), (2, .ptr 0 9)]), (46, [(5, .ptr 0 0)])], [.box 182 [.val 36], .box 148 [.val 6]]⟩ (fun z => z3q φ z.1 z.2.1 z.2.2.1) (.seq .x .x)) .x)) .x) .x)) .x))))))))))))))) .x)))) (.seq (.seq .x (.body (.unr 12 .x))) .x))))
def zbi (P : Program) (φ : Nat) : Env TV := ⟨P, lk [(121, zcw φ)], lk [], lk []⟩
theorem zlo (φ : Nat) (a) : (zal φ).F a = fnX TV (zbi Tryz.prog φ) φ Tryz.f49 [30, 35] [.val 2] (z8z φ) a := by kernel_rfl
theorem zm8 (φ : Nat) : fnO TV (zbi Tryz.prog φ) φ Tryz.f49 [.val 2] (z8z φ) := by
  unfold fnO
  show obl _ _ _ _ _ _ _
  unfold z8z
  repeat' (first | exact trivial | (refine ⟨?_, ?_⟩) | (intro _) | kernel_rfl)
theorem zn9 (φ : Nat) : z1i TV Tryz.prog 49 (zal φ) :=
  z1v (N := zbi Tryz.prog φ) (z03 ⟨zom φ, trivial⟩ trivial trivial) (z8z φ) Tryz.func49 (by kernel_rfl) (zlo φ) (zm8 φ)
def za1 (φ : Nat) : H TV (RTup TT [.val 0]) := .x
def zcu (P : Program) (φ : Nat) : Env TV := ⟨P, lk [(30, z1j φ), (48, z8e φ), (49, zal φ)], lk [], lk []⟩
theorem zp5 (φ : Nat) (a) : (zcm φ).F a = fnX TV (zcu Tryz.prog φ) φ Tryz.f20 [30, 35] [.val 0] (za1 φ) a := by kernel_rfl
theorem zp9 (φ : Nat) : fnO TV (zcu Tryz.prog φ) φ Tryz.f20 [.val 0] (za1 φ) := by
  unfold fnO
  show obl _ _ _ _ _ _ _
  unfold za1
  repeat' (first | exact trivial | (refine ⟨?_, ?_⟩) | (intro _) | kernel_rfl)
theorem zo7 (φ : Nat) : z1i TV Tryz.prog 20 (zcm φ) :=
  z1v (N := zcu Tryz.prog φ) (z03 ⟨z3g φ, zie φ, zn9 φ, trivial⟩ trivial trivial) (za1 φ) Tryz.func20 (by kernel_rfl) (zp5 φ) (zp9 φ)
def z4w (φ : Nat) : H TV (RTup TT [.val 5]) := (.seq .x (.seq .x (.seq (.seq .x (.body (.loop ⟨[(26, [(2, .ptr 0 0), (5, .own 1), (8, .val 38), (9, .val 0), (10, .val 0)])], [.box 36 [.val 30], .row 3 0]⟩ (fun n z => z1d φ n z.1 z.2.1 z.2.2.1 z.2.2.2.1 z.2.2.2.2.1) (fun zk8 => .x)))) .x)))
def z7y (P : Program) (φ : Nat) : Env TV := ⟨P, lk [(20, zcm φ)], lk [], lk []⟩
theorem zi9 (φ : Nat) (a) : (z88 φ).F a = fnX TV (z7y Tryz.prog φ) φ Tryz.f61 [30, 38] [.val 5] (z4w φ) a := by kernel_rfl
theorem zhy (φ : Nat) : fnO TV (z7y Tryz.prog φ) φ Tryz.f61 [.val 5] (z4w φ) := by
  unfold fnO
  show obl _ _ _ _ _ _ _
  unfold z4w
  repeat' (first | exact trivial | (refine ⟨?_, ?_⟩) | (intro _) | kernel_rfl)
theorem zi8 (φ : Nat) : z1i TV Tryz.prog 61 (z88 φ) :=
  z1v (N := z7y Tryz.prog φ) (z03 ⟨zo7 φ, trivial⟩ trivial trivial) (z4w φ) Tryz.func61 (by kernel_rfl) (zi9 φ) (zhy φ)
def z30 (φ : Nat) : H TV (RTup TT [.val 4]) := .x
def z5b (P : Program) (φ : Nat) : Env TV := ⟨P, lk [], lk [], lk []⟩
theorem zdi (φ : Nat) (a b) : (z56 φ).F a b = fnXc TV (z5b Tryz.prog φ) φ Tryz.f96 [0, 0] [35, 37, 0] [.val 4] (z30 φ) a b := by kernel_rfl
theorem ze0 (φ : Nat) : fnO TV (z5b Tryz.prog φ) φ Tryz.f96 [.val 4] (z30 φ) := by
  unfold fnO
  show obl _ _ _ _ _ _ _
  unfold z30
  repeat' (first | exact trivial | (refine ⟨?_, ?_⟩) | (intro _) | kernel_rfl)
theorem zdt (φ : Nat) : zx5 TV Tryz.prog 96 (z56 φ) :=
  y3e (N := z5b Tryz.prog φ) (z03 trivial trivial trivial) (z30 φ) Tryz.func96 (by kernel_rfl) (zdi φ) (ze0 φ)
theorem zbe (φ : Nat) (x14 : Item) (x15 : zc) (x16 : Int) : z07 (z1b φ x14 x15 x16) (z4c φ x14 x15 x16) := by
  unfold z1b z4c
  repeat' (first | exact z07.one | exact z07.nil | refine z07.cons ?_ ?_ | refine z07.ck ?_ | exact z07.same (n := 2) rfl | exact z07.same (n := 3) rfl | exact z07.same (n := 4) rfl | exact z07.same (n := 6) rfl | refine z07.bind fun _ => ?_)
def z4a (φ : Nat) : H TV (RTup TT [.val 39]) := (.seq .x (.seq .x (.seq .x (.seq (.seq .x (.body (.seq .x (.cond .x (.seq (.join ⟨[(68, [(7, .ptr 0 0), (8, .func 96 [.ptr 0 0, .ptr 1 0, .ptr 2 0]), (16, .val 0), (35, .val 2)])], [.box 61 [.val 35], .box 63 [.val 37], .box 3 [.val 0]]⟩ (fun z => zr φ z.1 z.2.1 z.2.2.1 z.2.2.2.1 z.2.2.2.2.1) (.seq .x .x)) (.cond (.seq (.join ⟨[(68, [(10, .ptr 0 0), (11, .ptr 1 0)])], [.box 103 [.val 4], .box 103 [.val 4]]⟩ (fun z => z1c φ z.1 z.2.1) (.alt ⟨[(68, [(7, .ptr 0 0), (8, .func 96 [.ptr 0 0, .ptr 1 0, .ptr 2 0])])], [.box 61 [.val 35], .box 63 [.val 37], .box 3 [.val 0]]⟩ (fun z => z1b φ z.1 z.2.1 z.2.2.1) (fun z => z4c φ z.1 z.2.1 z.2.2.1))) .x) (.seq (.join ⟨[(68, [(7, .ptr 0 0), (8, .func 96 [.ptr 0 0, .ptr 1 0, .ptr 2 0]), (56, .val 2)])], [.box 61 [.val 35], .box 63 [.val 37], .box 3 [.val 0]]⟩ (fun z => zq φ z.1 z.2.1 z.2.2.1 z.2.2.2.1) (.seq .x .x)) .x))))))) .x))))
def z73 (P : Program) (φ : Nat) : Env TV := ⟨P, lk [], lk [], lk [(96, z56 φ)]⟩
theorem zg6 (φ : Nat) (a) : (z6x φ).F a = fnX TV (z73 Tryz.prog φ) φ Tryz.f62 [30, 37, 0] [.val 39] (z4a φ) a := by kernel_rfl
theorem zg2 (φ : Nat) : fnO TV (z73 Tryz.prog φ) φ Tryz.f62 [.val 39] (z4a φ) := by
  unfold fnO
  show obl _ _ _ _ _ _ _
  unfold z4a
  repeat' (first | exact trivial | (refine ⟨?_, ?_⟩) | (intro _) | kernel_rfl | exact zbe ..)
theorem zfx (φ : Nat) : z1i TV Tryz.prog 62 (z6x φ) :=
  z1v (N := z73 Tryz.prog φ) (z03 trivial trivial ⟨zdt φ, trivial⟩) (z4a φ) Tryz.func62 (by kernel_rfl) (zg6 φ) (zg2 φ)
def z6m (φ : Nat) : H TV (RTup TT [.val 40]) := (.seq .x (.seq .x (.seq (.seq .x (.body (.loop ⟨[(63, [(1, .val 38), (2, .ptr 0 0), (5, .own 1), (19, .val 5), (20, .val 0), (21, .val 0)])], [.box 36 [.val 30], .nst 101 103 39 none]⟩ (fun n z => z1h φ n z.1 z.2.1 z.2.2.1 z.2.2.2.1 z.2.2.2.2.1 z.2.2.2.2.2.1) (fun zk10 => (.seq .x (.seq .x (.seq (.body (.seq .x (.seq .x (.seq .x (.cond (.seq .x (.foc (5, none) (9, none) .x)) .x))))) .x))))))) (.seq (.seq .x (.body (.loop ⟨[(63, [(5, .own 0), (51, .own 0), (52, .val 0), (53, .val 0)])], [.nst 101 103 39 none]⟩ (fun n z => z0s φ n z.1 z.2.1 z.2.2.1) (fun zk15 => (.seq .x (.seq .x (.seq (.body (.seq (.foc (5, none) (53, none) .x) (.seq .x (.ins 1 68 (.seq .x (.seq .x (.body (.loop ⟨[(48, [(0, .own 0), (2, .own 1), (6, .val 0), (7, .val 0)]), (63, [(5, .own 2), (51, .own 2), (52, .val 0), (53, .val 0)])], [.row 103 4, .map 0 2, .nst 101 103 39 (some 0)]⟩ (fun n z => z0e φ (fun a0 a1 a2 => zk15 (a0, a1, a2, ())) n z.1 z.2.1 z.2.2.1 z.2.2.2.1 z.2.2.2.2.1 z.2.2.2.2.2.1 z.2.2.2.2.2.2.1 z.2.2.2.2.2.2.2.1) (fun zk25 => (.seq .x (.seq .x (.seq (.body (.seq .x (.seq (.join ⟨[(48, [(0, .own 0), (2, .own 1), (3, .val 0), (6, .val 0), (7, .val 0)]), (63, [(5, .own 2), (51, .own 2), (52, .val 0), (53, .val 0)])], [.row 103 4, .map 0 2, .nst 101 103 39 (some 0)]⟩ (fun z => z1y φ (fun a0 a1 a2 a3 a4 a5 a6 a7 => zk25 (a0, a1, a2, a3, a4, a5, a6, a7, ())) z.1 z.2.1 z.2.2.1 z.2.2.2.1 z.2.2.2.2.1 z.2.2.2.2.2.1 z.2.2.2.2.2.2.1 z.2.2.2.2.2.2.2.1 z.2.2.2.2.2.2.2.2.1) (.seq .x .x)) .x))) .x)))))))) .x)))) .x))))))) .x))))
def z97 (P : Program) (φ : Nat) : Env TV := ⟨P, lk [(61, z88 φ), (62, z6x φ)], lk [(63, zpw)], lk []⟩
theorem ziy (φ : Nat) (a) : (z3y φ).F a = fnX TV (z97 Tryz.prog φ) φ Tryz.f31 [30, 38] [.val 40] (z6m φ) a := by kernel_rfl
theorem zil (φ : Nat) : fnO TV (z97 Tryz.prog φ) φ Tryz.f31 [.val 40] (z6m φ) := by
  unfold fnO
  show obl _ _ _ _ _ _ _
  unfold z6m
  repeat' (first | exact trivial | (refine ⟨?_, ?_⟩) | (intro _) | kernel_rfl)
theorem z94 (φ : Nat) : z1i TV Tryz.prog 31 (z3y φ) :=
  z1v (N := z97 Tryz.prog φ) (z03 ⟨zi8 φ, zfx φ, trivial⟩ ⟨zy5, trivial⟩ trivial) (z6m φ) Tryz.func31 (by kernel_rfl) (ziy φ) (zil φ)
def z7h (φ : Nat) : H TV (RTup TT [.val 41]) := (.seq .x (.seq .x (.seq .x (.seq (.seq .x (.body (.loop ⟨[(43, [(7, .own 0), (30, .val 39), (31, .val 0), (32, .val 0)])], [.row 91 3]⟩ (fun n z => z81 φ n z.1 z.2.1 z.2.2.1 z.2.2.2.1) (fun zk10 => .x)))) .x))))
def z9m (P : Program) (φ : Nat) : Env TV := ⟨P, lk [(30, z1j φ), (31, z3y φ)], lk [], lk []⟩
theorem zkg (φ : Nat) (a) : (za3 φ).F a = fnX TV (z9m Tryz.prog φ) φ Tryz.f16 [30, 38, 0] [.val 41] (z7h φ) a := by kernel_rfl
theorem zlh (φ : Nat) : fnO TV (z9m Tryz.prog φ) φ Tryz.f16 [.val 41] (z7h φ) := by
  unfold fnO
  show obl _ _ _ _ _ _ _
  unfold z7h
  repeat' (first | exact trivial | (refine ⟨?_, ?_⟩) | (intro _) | kernel_rfl)
theorem zko (φ : Nat) : z1i TV Tryz.prog 16 (za3 φ) :=
  z1v (N := z9m Tryz.prog φ) (z03 ⟨z3g φ, z94 φ, trivial⟩ trivial trivial) (z7h φ) Tryz.func16 (by kernel_rfl) (zkg φ) (zlh φ)
def z3e (φ : Nat) : H TV (RTup TT [.val 0, .val 0]) := (.seq .x (.seq (.ins 4 53 (.seq .x (.seq .x (.seq (.seq .x (.body (.loop ⟨[(77, [(2, .ptr 0 0), (4, .ptr 1 0), (19, .own 2), (20, .val 0), (21, .val 0)]), (30, [(1, .val 0), (2, .val 0), (3, .ptr 3 0)])], [.box 25 [.val 10], .box 142 [.own 4, .raw (.map none)], .row 3 0, .box 25 [.val 10], .row 66 5]⟩ (fun n z => z0z φ n z.1 z.2.1 z.2.2.1 z.2.2.2.1 z.2.2.2.2.1 z.2.2.2.2.2.1 z.2.2.2.2.2.2.1 z.2.2.2.2.2.2.2.1) (fun zk13 => .x)))) (.seq .x (.seq .x (.seq (.seq .x (.body (.loop ⟨[(77, [(4, .ptr 0 0), (8, .func 91 [.ptr 0 0, .ptr 1 0]), (44, .val 9), (45, .val 0), (46, .val 0)]), (30, [(1, .val 0), (2, .val 0), (3, .ptr 2 0)])], [.box 142 [.own 3, .own 4], .box 25 [.val 10], .box 25 [.val 10], .nst 66 3 5 none, .map 42 0]⟩ (fun n z => zg φ n z.1 z.2.1 z.2.2.1 z.2.2.2.1 z.2.2.2.2.1 z.2.2.2.2.2.1 z.2.2.2.2.2.2.1 z.2.2.2.2.2.2.2.1 z.2.2.2.2.2.2.2.2.1) (fun zk23 => (.seq .x (.seq .x (.seq (.body (.seq .x (.seq (.ins 6 91 (.seq .x (.seq .x (.seq (.join ⟨[(56, [(2, .val 0), (3, .ptr 0 0), (4, .ptr 1 0), (8, .ptr 2 0), (9, .val 0), (10, .val 2)]), (77, [(4, .ptr 0 0), (8, .func 91 [.ptr 0 0, .ptr 1 0]), (9, .val 0), (10, .ptr 3 0), (44, .val 9), (45, .val 0), (46, .val 0)]), (30, [(1, .val 0), (2, .val 0), (3, .ptr 4 0)])], [.box 142 [.own 5, .own 6], .box 25 [.val 10], .box 190 [.val 42], .box 150 [.val 8], .box 25 [.val 10], .nst 66 3 5 none, .map 42 0]⟩ (fun z => z1u φ (fun a0 a1 a2 a3 a4 a5 a6 a7 a8 => zk23 (a0, a1, a2, a3, a4, a5, a6, a7, a8, ())) z.1 z.2.1 z.2.2.1 z.2.2.2.1 z.2.2.2.2.1 z.2.2.2.2.2.1 z.2.2.2.2.2.2.1 z.2.2.2.2.2.2.2.1 z.2.2.2.2.2.2.2.2.1 z.2.2.2.2.2.2.2.2.2.1 z.2.2.2.2.2.2.2.2.2.2.1 z.2.2.2.2.2.2.2.2.2.2.2.1 z.2.2.2.2.2.2.2.2.2.2.2.2.1 z.2.2.2.2.2.2.2.2.2.2.2.2.2.1 z.2.2.2.2.2.2.2.2.2.2.2.2.2.2.1) (.seq .x (.cond (.foc (3, some 0) (0, none) .x) .x))) .x))) .x) (.ins 6 91 (.seq .x (.seq .x (.seq (.join ⟨[(56, [(2, .val 0), (3, .ptr 0 0), (4, .ptr 1 0), (8, .ptr 2 0), (9, .val 0), (10, .val 2)]), (77, [(4, .ptr 0 0), (8, .func 91 [.ptr 0 0, .ptr 1 0]), (44, .val 9), (45, .val 0), (46, .val 0)]), (30, [(1, .val 0), (2, .val 0), (3, .ptr 3 0)])], [.box 142 [.own 4, .own 5], .box 25 [.val 10], .box 190 [.val 42], .box 25 [.val 10], .nst 66 3 5 none, .map 42 0]⟩ (fun z => z1s φ (fun a0 a1 a2 a3 a4 a5 a6 a7 a8 => zk23 (a0, a1, a2, a3, a4, a5, a6, a7, a8, ())) z.1 z.2.1 z.2.2.1 z.2.2.2.1 z.2.2.2.2.1 z.2.2.2.2.2.1 z.2.2.2.2.2.2.1 z.2.2.2.2.2.2.2.1 z.2.2.2.2.2.2.2.2.1 z.2.2.2.2.2.2.2.2.2.1 z.2.2.2.2.2.2.2.2.2.2.1 z.2.2.2.2.2.2.2.2.2.2.2.1 z.2.2.2.2.2.2.2.2.2.2.2.2.1) (.seq .x (.cond (.foc (3, some 0) (0, none) .x) .x))) .x))) .x)))) .x))))))) (.seq (.seq .x (.body (.loop ⟨[(77, [(4, .ptr 0 0), (67, .own 1), (68, .val 0), (69, .val 0)]), (30, [(1, .val 0), (2, .val 0), (3, .ptr 2 0)])], [.box 142 [.own 1, .own 3], .nst 66 3 5 none, .box 25 [.val 10], .map 42 0]⟩ (fun n z => z0i φ n z.1 z.2.1 z.2.2.1 z.2.2.2.1 z.2.2.2.2.1 z.2.2.2.2.2.1 z.2.2.2.2.2.2.1) (fun zk75 => (.seq .x (.seq .x (.seq (.body (.seq (.foc (67, none) (69, none) .x) .x)) .x))))))) .x))))))) .x) (.seq .x (.seq (.seq (.ins 3 54 (.seq .x (.seq .x (.seq .x (.seq (.seq .x (.body (.loop ⟨[(118, [(2, .val 0), (3, .ptr 0 0), (4, .ptr 1 0), (7, .own 2), (8, .own 3), (23, .val 0), (24, .val 0)]), (30, [(2, .val 0)])], [.box 25 [.val 10], .box 142 [.own 4, .own 5], .row 3 0, .row 4 2, .nst 66 3 5 none, .map 42 0]⟩ (fun n z => zm φ n z.1 z.2.1 z.2.2.1 z.2.2.2.1 z.2.2.2.2.1 z.2.2.2.2.2.1 z.2.2.2.2.2.2.1 z.2.2.2.2.2.2.2.1 z.2.2.2.2.2.2.2.2.1) (fun zk86 => .x)))) (.seq .x (.body (.loop ⟨[(118, [(3, .ptr 0 0), (4, .ptr 1 0), (7, .own 2), (8, .own 3)]), (30, [(2, .val 0)])], [.box 25 [.val 10], .box 142 [.own 4, .own 5], .row 3 0, .row 4 2, .nst 66 3 5 none, .map 42 0]⟩ (fun n z => zi φ n z.1 z.2.1 z.2.2.1 z.2.2.2.1 z.2.2.2.2.1 z.2.2.2.2.2.1) (fun zk93 => (.body (.seq .x (.seq (.seq .x (.body (.loop ⟨[(118, [(3, .ptr 0 0), (4, .ptr 1 0), (7, .own 2), (8, .own 3), (10, .val 0), (35, .val 0), (36, .val 0)]), (30, [(2, .val 0)])], [.box 25 [.val 10], .box 142 [.own 4, .own 5], .row 3 0, .row 4 2, .nst 66 3 5 none, .map 42 0]⟩ (fun n z => z0a φ (fun a0 a1 a2 a3 a4 a5 => zk93 (a0, a1, a2, a3, a4, a5, ())) n z.1 z.2.1 z.2.2.1 z.2.2.2.1 z.2.2.2.2.1 z.2.2.2.2.2.1 z.2.2.2.2.2.2.1 z.2.2.2.2.2.2.2.1 z.2.2.2.2.2.2.2.2.1) (fun zk103 => .x)))) (.seq .x (.seq .x (.seq (.foc (4, some 0) (10, none) .x) (.body (.loop ⟨[(118, [(3, .ptr 0 0), (4, .ptr 1 0), (7, .own 2), (8, .own 3), (10, .val 0), (78, .own 4), (79, .val 0), (80, .val 0)]), (30, [(2, .val 0)])], [.box 25 [.val 10], .box 142 [.own 5, .own 6], .row 3 0, .row 4 2, .row 3 0, .nst 66 3 5 (some 4), .map 42 0]⟩ (fun n z => z08 φ (fun a0 a1 a2 a3 a4 a5 => zk93 (a0, a1, a2, a3, a4, a5, ())) n z.1 z.2.1 z.2.2.1 z.2.2.2.1 z.2.2.2.2.1 z.2.2.2.2.2.1 z.2.2.2.2.2.2.1 z.2.2.2.2.2.2.2.1 z.2.2.2.2.2.2.2.2.1 z.2.2.2.2.2.2.2.2.2.1 z.2.2.2.2.2.2.2.2.2.2.1) (fun zk115 => .x))))))))))))))))) .x) .x) .x))))
def z5x (P : Program) (φ : Nat) : Env TV := ⟨P, lk [(56, z2g φ)], lk [(92, zdf)], lk []⟩
theorem zeh (φ : Nat) (a) : (z3m φ).F a = fnX TV (z5x Tryz.prog φ) φ Tryz.f27 [10, 0, 0] [.val 0, .val 0] (z3e φ) a := by kernel_rfl
theorem zes (φ : Nat) : fnO TV (z5x Tryz.prog φ) φ Tryz.f27 [.val 0, .val 0] (z3e φ) := by
  unfold fnO
  show obl _ _ _ _ _ _ _
  unfold z3e
  repeat' (first | exact trivial | (refine ⟨?_, ?_⟩) | (intro _) | kernel_rfl)
theorem z9h (φ : Nat) : z1i TV Tryz.prog 27 (z3m φ) :=
  z1v (N := z5x Tryz.prog φ) (z03 ⟨z4t φ, trivial⟩ ⟨zhr, trivial⟩ trivial) (z3e φ) Tryz.func27 (by kernel_rfl) (zeh φ) (zes φ)
def z6l (φ : Nat) : H TV (RTup TT [.val 0]) := .x
def z93 (P : Program) (φ : Nat) : Env TV := ⟨P, lk [(27, z3m φ)], lk [], lk []⟩
theorem zin (φ : Nat) (a) : (z98 φ).F a = fnX TV (z93 Tryz.prog φ) φ Tryz.f33 [10, 3, 3] [.val 0] (z6l φ) a := by kernel_rfl
theorem ziu (φ : Nat) : fnO TV (z93 Tryz.prog φ) φ Tryz.f33 [.val 0] (z6l φ) := by
  unfold fnO
  show obl _ _ _ _ _ _ _
  unfold z6l
  repeat' (first | exact trivial | (refine ⟨?_, ?_⟩) | (intro _) | kernel_rfl)
theorem zir (φ : Nat) : z1i TV Tryz.prog 33 (z98 φ) :=
  z1v (N := z93 Tryz.prog φ) (z03 ⟨z9h φ, trivial⟩ trivial trivial) (z6l φ) Tryz.func33 (by kernel_rfl) (zin φ) (ziu φ)
def z7f (φ : Nat) : H TV (RTup TT [.val 49, .val 0]) := (.seq .x (.seq .x (.seq .x (.seq .x (.seq .x (.seq (.seq .x (.body (.loop ⟨[(257, [(2, .ptr 0 0), (4, .ptr 1 0), (7, .val 40), (8, .ptr 2 0), (9, .own 3), (40, .val 40), (41, .val 0), (42, .val 0)])], [.box 36 [.val 30], .box 46 [.val 0, .own 4, .own 5, .own 6], .box 99 [.val 0, .own 7, .own 8, .own 9], .map 0 0, .row 94 43, .row 108 45, .row 87 47, .row 94 43, .row 108 45, .row 87 47]⟩ (fun n z => z15 φ n z.1 z.2.1 z.2.2.1 z.2.2.2.1 z.2.2.2.2.1 z.2.2.2.2.2.1 z.2.2.2.2.2.2.1 z.2.2.2.2.2.2.2.1 z.2.2.2.2.2.2.2.2.1 z.2.2.2.2.2.2.2.2.2.1 z.2.2.2.2.2.2.2.2.2.2.1 z.2.2.2.2.2.2.2.2.2.2.2.1 z.2.2.2.2.2.2.2.2.2.2.2.2.1 z.2.2.2.2.2.2.2.2.2.2.2.2.2.1) (fun zk19 => (.seq .x (.seq .x (.seq (.body (.seq .x (.seq .x (.body (.loop ⟨[(257, [(2, .ptr 0 0), (4, .ptr 1 0), (7, .val 40), (8, .ptr 2 0), (9, .own 3), (40, .val 40), (41, .val 0), (42, .val 0), (46, .val 39), (47, .val 0), (48, .val 0)])], [.box 36 [.val 30], .box 46 [.val 0, .own 4, .own 5, .own 6], .box 99 [.val 0, .own 7, .own 8, .own 9], .map 0 0, .row 94 43, .row 108 45, .row 87 47, .row 94 43, .row 108 45, .row 87 47]⟩ (fun n z => z14 φ (fun a0 a1 a2 a3 a4 a5 a6 a7 a8 a9 a10 a11 a12 a13 => zk19 (a0, a1, a2, a3, a4, a5, a6, a7, a8, a9, a10, a11, a12, a13, ())) n z.1 z.2.1 z.2.2.1 z.2.2.2.1 z.2.2.2.2.1 z.2.2.2.2.2.1 z.2.2.2.2.2.2.1 z.2.2.2.2.2.2.2.1 z.2.2.2.2.2.2.2.2.1 z.2.2.2.2.2.2.2.2.2.1 z.2.2.2.2.2.2.2.2.2.2.1 z.2.2.2.2.2.2.2.2.2.2.2.1 z.2.2.2.2.2.2.2.2.2.2.2.2.1 z.2.2.2.2.2.2.2.2.2.2.2.2.2.1 z.2.2.2.2.2.2.2.2.2.2.2.2.2.2.1 z.2.2.2.2.2.2.2.2.2.2.2.2.2.2.2.1 z.2.2.2.2.2.2.2.2.2.2.2.2.2.2.2.2.1) (fun zk37 => .x)))))) .x))))))) (.seq (.seq .x (.body (.loop ⟨[(257, [(2, .ptr 0 0), (4, .ptr 1 0), (7, .val 40), (8, .ptr 2 0), (9, .own 3), (61, .val 22), (62, .val 0), (63, .val 0)])], [.box 36 [.val 30], .box 46 [.val 0, .own 4, .own 5, .own 6], .box 99 [.val 0, .own 7, .own 8, .own 9], .map 0 0, .row 94 43, .row 108 45, .row 87 47, .row 94 43, .row 108 45, .row 87 47]⟩ (fun n z => z0q φ n z.1 z.2.1 z.2.2.1 z.2.2.2.1 z.2.2.2.2.1 z.2.2.2.2.2.1 z.2.2.2.2.2.2.1 z.2.2.2.2.2.2.2.1 z.2.2.2.2.2.2.2.2.1 z.2.2.2.2.2.2.2.2.2.1 z.2.2.2.2.2.2.2.2.2.2.1 z.2.2.2.2.2.2.2.2.2.2.2.1 z.2.2.2.2.2.2.2.2.2.2.2.2.1 z.2.2.2.2.2.2.2.2.2.2.2.2.2.1) (fun zk52 => (.seq .x (.seq .x (.seq (.body (.seq .x (.seq .x (.seq .x (.cond (.seq .x (.seq (.ins 20 32 (.seq .x (.seq .x (.body (.loop ⟨[(39, [(0, .ptr 0 0), (4, .ptr 1 0), (8, .own 2), (9, .val 0), (10, .val 0)]), (257, [(2, .ptr 3 0), (4, .ptr 4 0), (7, .val 40), (8, .ptr 0 0), (9, .own 5), (61, .val 22), (62, .val 0), (63, .val 0), (82, .ptr 0 0), (83, .val 45), (84, .ptr 0 0), (85, .ptr 0 0), (86, .ptr 0 0), (87, .ptr 0 0), (88, .val 0), (89, .ptr 6 1), (90, .val 0), (91, .val 0), (92, .val 43), (93, .ptr 0 0), (94, .ptr 0 0), (95, .ptr 0 0), (96, .ptr 0 0), (97, .val 0), (98, .ptr 6 2), (99, .val 0), (100, .val 43), (101, .own 2)])], [.box 99 [.val 0, .own 7, .own 8, .own 9], .box 108 [.val 45], .row 94 43, .box 36 [.val 30], .box 46 [.val 0, .own 10, .own 11, .own 12], .map 0 0, .box 105 [.val 21], .row 94 43, .row 108 45, .row 87 47, .row 94 43, .row 108 45, .row 87 47]⟩ (fun n z => z1r φ (fun a0 a1 a2 a3 a4 a5 a6 a7 a8 a9 a10 a11 a12 a13 => zk52 (a0, a1, a2, a3, a4, a5, a6, a7, a8, a9, a10, a11, a12, a13, ())) n z.1 z.2.1 z.2.2.1 z.2.2.2.1 z.2.2.2.2.1 z.2.2.2.2.2.1 z.2.2.2.2.2.2.1 z.2.2.2.2.2.2.2.1 z.2.2.2.2.2.2.2.2.1 z.2.2.2.2.2.2.2.2.2.1 z.2.2.2.2.2.2.2.2.2.2.1 z.2.2.2.2.2.2.2.2.2.2.2.1 z.2.2.2.2.2.2.2.2.2.2.2.2.1 z.2.2.2.2.2.2.2.2.2.2.2.2.2.1 z.2.2.2.2.2.2.2.2.2.2.2.2.2.2.1 z.2.2.2.2.2.2.2.2.2.2.2.2.2.2.2.1 z.2.2.2.2.2.2.2.2.2.2.2.2.2.2.2.2.1 z.2.2.2.2.2.2.2.2.2.2.2.2.2.2.2.2.2.1 z.2.2.2.2.2.2.2.2.2.2.2.2.2.2.2.2.2.2.1 z.2.2.2.2.2.2.2.2.2.2.2.2.2.2.2.2.2.2.2.1 z.2.2.2.2.2.2.2.2.2.2.2.2.2.2.2.2.2.2.2.2.1 z.2.2.2.2.2.2.2.2.2.2.2.2.2.2.2.2.2.2.2.2.2.1 z.2.2.2.2.2.2.2.2.2.2.2.2.2.2.2.2.2.2.2.2.2.2.1 z.2.2.2.2.2.2.2.2.2.2.2.2.2.2.2.2.2.2.2.2.2.2.2.1 z.2.2.2.2.2.2.2.2.2.2.2.2.2.2.2.2.2.2.2.2.2.2.2.2.1 z.2.2.2.2.2.2.2.2.2.2.2.2.2.2.2.2.2.2.2.2.2.2.2.2.2.1 z.2.2.2.2.2.2.2.2.2.2.2.2.2.2.2.2.2.2.2.2.2.2.2.2.2.2.1) (fun zk80 => .x))))) .x) .x)) .x))))) .x))))))) (.seq (.seq .x (.body (.loop ⟨[(257, [(2, .ptr 0 0), (4, .ptr 1 0), (8, .ptr 2 0), (9, .own 3), (113, .val 40), (114, .val 0), (115, .val 0)])], [.box 36 [.val 30], .box 46 [.val 0, .own 4, .own 5, .own 6], .box 99 [.val 0, .own 7, .own 8, .own 9], .map 0 0, .row 94 43, .row 108 45, .row 87 47, .row 94 43, .row 108 45, .row 87 47]⟩ (fun n z => z13 φ n z.1 z.2.1 z.2.2.1 z.2.2.2.1 z.2.2.2.2.1 z.2.2.2.2.2.1 z.2.2.2.2.2.2.1 z.2.2.2.2.2.2.2.1 z.2.2.2.2.2.2.2.2.1 z.2.2.2.2.2.2.2.2.2.1 z.2.2.2.2.2.2.2.2.2.2.1 z.2.2.2.2.2.2.2.2.2.2.2.1 z.2.2.2.2.2.2.2.2.2.2.2.2.1) (fun zk94 => (.seq .x (.seq .x (.seq (.body (.seq .x (.seq .x (.body (.loop ⟨[(257, [(2, .ptr 0 0), (4, .ptr 1 0), (8, .ptr 2 0), (9, .own 3), (19, .val 39), (113, .val 40), (114, .val 0), (115, .val 0), (119, .val 39), (120, .val 0), (121, .val 0)])], [.box 36 [.val 30], .box 46 [.val 0, .own 4, .own 5, .own 6], .box 99 [.val 0, .own 7, .own 8, .own 9], .map 0 0, .row 94 43, .row 108 45, .row 87 47, .row 94 43, .row 108 45, .row 87 47]⟩ (fun n z => zw φ (fun a0 a1 a2 a3 a4 a5 a6 a7 a8 a9 a10 a11 a12 => zk94 (a0, a1, a2, a3, a4, a5, a6, a7, a8, a9, a10, a11, a12, ())) n z.1 z.2.1 z.2.2.1 z.2.2.2.1 z.2.2.2.2.1 z.2.2.2.2.2.1 z.2.2.2.2.2.2.1 z.2.2.2.2.2.2.2.1 z.2.2.2.2.2.2.2.2.1 z.2.2.2.2.2.2.2.2.2.1 z.2.2.2.2.2.2.2.2.2.2.1 z.2.2.2.2.2.2.2.2.2.2.2.1 z.2.2.2.2.2.2.2.2.2.2.2.2.1 z.2.2.2.2.2.2.2.2.2.2.2.2.2.1 z.2.2.2.2.2.2.2.2.2.2.2.2.2.2.1 z.2.2.2.2.2.2.2.2.2.2.2.2.2.2.2.1 z.2.2.2.2.2.2.2.2.2.2.2.2.2.2.2.2.1) (fun zk112 => (.seq .x (.seq .x (.seq (.body (.seq .x (.seq .x (.seq .x (.seq .x (.seq (.join ⟨[(257, [(2, .ptr 0 0), (4, .ptr 1 0), (8, .ptr 2 0), (9, .own 3), (19, .val 39), (20, .val 0), (21, .ptr 4 0), (22, .val 0), (113, .val 40), (114, .val 0), (115, .val 0), (119, .val 39), (120, .val 0), (121, .val 0)])], [.box 36 [.val 30], .box 46 [.val 0, .own 5, .own 6, .own 7], .box 99 [.val 0, .own 8, .own 9, .own 10], .map 0 0, .box 103 [.val 4], .row 94 43, .row 108 45, .row 87 47, .row 94 43, .row 108 45, .row 87 47]⟩ (fun z => z0f φ (fun a0 a1 a2 a3 a4 a5 a6 a7 a8 a9 a10 a11 a12 a13 a14 a15 a16 => zk112 (a0, a1, a2, a3, a4, a5, a6, a7, a8, a9, a10, a11, a12, a13, a14, a15, a16, ())) z.1 z.2.1 z.2.2.1 z.2.2.2.1 z.2.2.2.2.1 z.2.2.2.2.2.1 z.2.2.2.2.2.2.1 z.2.2.2.2.2.2.2.1 z.2.2.2.2.2.2.2.2.1 z.2.2.2.2.2.2.2.2.2.1 z.2.2.2.2.2.2.2.2.2.2.1 z.2.2.2.2.2.2.2.2.2.2.2.1 z.2.2.2.2.2.2.2.2.2.2.2.2.1 z.2.2.2.2.2.2.2.2.2.2.2.2.2.1 z.2.2.2.2.2.2.2.2.2.2.2.2.2.2.1 z.2.2.2.2.2.2.2.2.2.2.2.2.2.2.2.1 z.2.2.2.2.2.2.2.2.2.2.2.2.2.2.2.2.1 z.2.2.2.2.2.2.2.2.2.2.2.2.2.2.2.2.2.1 z.2.2.2.2.2.2.2.2.2.2.2.2.2.2.2.2.2.2.1 z.2.2.2.2.2.2.2.2.2.2.2.2.2.2.2.2.2.2.2.1) (.seq .x (.cond (.ins 10 32 (.seq .x (.seq .x (.body (.loop ⟨[(39, [(0, .ptr 0 0), (4, .ptr 1 0), (8, .own 2), (9, .val 0), (10, .val 0)]), (257, [(2, .ptr 3 0), (4, .ptr 4 0), (8, .ptr 0 0), (9, .own 5), (19, .val 39), (20, .val 0), (21, .ptr 6 0), (22, .val 0), (113, .val 40), (114, .val 0), (115, .val 0), (119, .val 39), (120, .val 0), (121, .val 0)])], [.box 99 [.val 0, .own 7, .own 8, .own 9], .box 108 [.val 45], .row 94 43, .box 36 [.val 30], .box 46 [.val 0, .own 10, .own 11, .own 12], .map 0 0, .box 103 [.val 4], .row 94 43, .row 108 45, .row 87 47, .row 94 43, .row 108 45, .row 87 47]⟩ (fun n z => z1e φ (fun a0 a1 a2 a3 a4 a5 a6 a7 a8 a9 a10 a11 a12 a13 a14 a15 a16 => zk112 (a0, a1, a2, a3, a4, a5, a6, a7, a8, a9, a10, a11, a12, a13, a14, a15, a16, ())) n z.1 z.2.1 z.2.2.1 z.2.2.2.1 z.2.2.2.2.1 z.2.2.2.2.2.1 z.2.2.2.2.2.2.1 z.2.2.2.2.2.2.2.1 z.2.2.2.2.2.2.2.2.1 z.2.2.2.2.2.2.2.2.2.1 z.2.2.2.2.2.2.2.2.2.2.1 z.2.2.2.2.2.2.2.2.2.2.2.1 z.2.2.2.2.2.2.2.2.2.2.2.2.1 z.2.2.2.2.2.2.2.2.2.2.2.2.2.1 z.2.2.2.2.2.2.2.2.2.2.2.2.2.2.1 z.2.2.2.2.2.2.2.2.2.2.2.2.2.2.2.1 z.2.2.2.2.2.2.2.2.2.2.2.2.2.2.2.2.1 z.2.2.2.2.2.2.2.2.2.2.2.2.2.2.2.2.2.1 z.2.2.2.2.2.2.2.2.2.2.2.2.2.2.2.2.2.2.1 z.2.2.2.2.2.2.2.2.2.2.2.2.2.2.2.2.2.2.2.1 z.2.2.2.2.2.2.2.2.2.2.2.2.2.2.2.2.2.2.2.2.1 z.2.2.2.2.2.2.2.2.2.2.2.2.2.2.2.2.2.2.2.2.2.1 z.2.2.2.2.2.2.2.2.2.2.2.2.2.2.2.2.2.2.2.2.2.2.1 z.2.2.2.2.2.2.2.2.2.2.2.2.2.2.2.2.2.2.2.2.2.2.2.1) (fun zk195 => .x))))) .x) (.seq .x (.ins 16 32 (.seq .x (.seq .x (.body (.loop ⟨[(39, [(0, .ptr 0 0), (4, .ptr 1 0), (8, .own 2), (9, .val 0), (10, .val 0)]), (257, [(2, .ptr 3 0), (4, .ptr 4 0), (8, .ptr 0 0), (9, .own 5), (19, .val 39), (20, .val 0), (21, .ptr 6 0), (22, .val 0), (113, .val 40), (114, .val 0), (115, .val 0), (119, .val 39), (120, .val 0), (121, .val 0)])], [.box 99 [.val 0, .own 7, .own 8, .own 9], .box 108 [.val 45], .row 94 43, .box 36 [.val 30], .box 46 [.val 0, .own 10, .own 11, .own 12], .map 0 0, .box 103 [.val 4], .row 94 43, .row 108 45, .row 87 47, .row 94 43, .row 108 45, .row 87 47]⟩ (fun n z => z1g φ (fun a0 a1 a2 a3 a4 a5 a6 a7 a8 a9 a10 a11 a12 a13 a14 a15 a16 => zk112 (a0, a1, a2, a3, a4, a5, a6, a7, a8, a9, a10, a11, a12, a13, a14, a15, a16, ())) n z.1 z.2.1 z.2.2.1 z.2.2.2.1 z.2.2.2.2.1 z.2.2.2.2.2.1 z.2.2.2.2.2.2.1 z.2.2.2.2.2.2.2.1 z.2.2.2.2.2.2.2.2.1 z.2.2.2.2.2.2.2.2.2.1 z.2.2.2.2.2.2.2.2.2.2.1 z.2.2.2.2.2.2.2.2.2.2.2.1 z.2.2.2.2.2.2.2.2.2.2.2.2.1 z.2.2.2.2.2.2.2.2.2.2.2.2.2.1 z.2.2.2.2.2.2.2.2.2.2.2.2.2.2.1 z.2.2.2.2.2.2.2.2.2.2.2.2.2.2.2.1 z.2.2.2.2.2.2.2.2.2.2.2.2.2.2.2.2.1 z.2.2.2.2.2.2.2.2.2.2.2.2.2.2.2.2.2.1 z.2.2.2.2.2.2.2.2.2.2.2.2.2.2.2.2.2.2.1 z.2.2.2.2.2.2.2.2.2.2.2.2.2.2.2.2.2.2.2.1 z.2.2.2.2.2.2.2.2.2.2.2.2.2.2.2.2.2.2.2.2.1 z.2.2.2.2.2.2.2.2.2.2.2.2.2.2.2.2.2.2.2.2.2.1 z.2.2.2.2.2.2.2.2.2.2.2.2.2.2.2.2.2.2.2.2.2.2.1 z.2.2.2.2.2.2.2.2.2.2.2.2.2.2.2.2.2.2.2.2.2.2.2.1) (fun zk220 => .x))))) .x))))) (.seq .x (.cond (.seq .x (.ins 19 32 (.seq .x (.seq .x (.body (.loop ⟨[(39, [(0, .ptr 0 0), (4, .ptr 1 0), (8, .own 2), (9, .val 0), (10, .val 0)]), (257, [(2, .ptr 3 0), (4, .ptr 4 0), (8, .ptr 0 0), (9, .own 5), (19, .val 39), (113, .val 40), (114, .val 0), (115, .val 0), (119, .val 39), (120, .val 0), (121, .val 0), (215, .ptr 0 0), (216, .ptr 6 2), (217, .val 1), (218, .ptr 7 0), (219, .ptr 7 2), (220, .val 1), (221, .val 45), (222, .val 0), (223, .val 0), (224, .val 0), (225, .ptr 3 0), (226, .val 10), (227, .val 3), (228, .ptr 7 0), (229, .val 3), (230, .val 0), (231, .val 0), (232, .val 43), (233, .own 2)])], [.box 99 [.val 0, .own 8, .own 9, .own 10], .box 108 [.val 45], .row 94 43, .box 36 [.val 30], .box 46 [.val 0, .own 11, .own 12, .own 13], .map 0 0, .box 91 [.val 3], .box 103 [.val 4], .row 94 43, .row 108 45, .row 87 47, .row 94 43, .row 108 45, .row 87 47]⟩ (fun n z => z1f φ (fun a0 a1 a2 a3 a4 a5 a6 a7 a8 a9 a10 a11 a12 a13 a14 a15 a16 => zk112 (a0, a1, a2, a3, a4, a5, a6, a7, a8, a9, a10, a11, a12, a13, a14, a15, a16, ())) n z.1 z.2.1 z.2.2.1 z.2.2.2.1 z.2.2.2.2.1 z.2.2.2.2.2.1 z.2.2.2.2.2.2.1 z.2.2.2.2.2.2.2.1 z.2.2.2.2.2.2.2.2.1 z.2.2.2.2.2.2.2.2.2.1 z.2.2.2.2.2.2.2.2.2.2.1 z.2.2.2.2.2.2.2.2.2.2.2.1 z.2.2.2.2.2.2.2.2.2.2.2.2.1 z.2.2.2.2.2.2.2.2.2.2.2.2.2.1 z.2.2.2.2.2.2.2.2.2.2.2.2.2.2.1 z.2.2.2.2.2.2.2.2.2.2.2.2.2.2.2.1 z.2.2.2.2.2.2.2.2.2.2.2.2.2.2.2.2.1 z.2.2.2.2.2.2.2.2.2.2.2.2.2.2.2.2.2.1 z.2.2.2.2.2.2.2.2.2.2.2.2.2.2.2.2.2.2.1 z.2.2.2.2.2.2.2.2.2.2.2.2.2.2.2.2.2.2.2.1 z.2.2.2.2.2.2.2.2.2.2.2.2.2.2.2.2.2.2.2.2.1 z.2.2.2.2.2.2.2.2.2.2.2.2.2.2.2.2.2.2.2.2.2.1 z.2.2.2.2.2.2.2.2.2.2.2.2.2.2.2.2.2.2.2.2.2.2.1 z.2.2.2.2.2.2.2.2.2.2.2.2.2.2.2.2.2.2.2.2.2.2.2.1 z.2.2.2.2.2.2.2.2.2.2.2.2.2.2.2.2.2.2.2.2.2.2.2.2.1 z.2.2.2.2.2.2.2.2.2.2.2.2.2.2.2.2.2.2.2.2.2.2.2.2.2.1 z.2.2.2.2.2.2.2.2.2.2.2.2.2.2.2.2.2.2.2.2.2.2.2.2.2.2.1 z.2.2.2.2.2.2.2.2.2.2.2.2.2.2.2.2.2.2.2.2.2.2.2.2.2.2.2.1 z.2.2.2.2.2.2.2.2.2.2.2.2.2.2.2.2.2.2.2.2.2.2.2.2.2.2.2.2.1 z.2.2.2.2.2.2.2.2.2.2.2.2.2.2.2.2.2.2.2.2.2.2.2.2.2.2.2.2.2.1 z.2.2.2.2.2.2.2.2.2.2.2.2.2.2.2.2.2.2.2.2.2.2.2.2.2.2.2.2.2.2.1 z.2.2.2.2.2.2.2.2.2.2.2.2.2.2.2.2.2.2.2.2.2.2.2.2.2.2.2.2.2.2.2.1 z.2.2.2.2.2.2.2.2.2.2.2.2.2.2.2.2.2.2.2.2.2.2.2.2.2.2.2.2.2.2.2.2.1 z.2.2.2.2.2.2.2.2.2.2.2.2.2.2.2.2.2.2.2.2.2.2.2.2.2.2.2.2.2.2.2.2.2.1 z.2.2.2.2.2.2.2.2.2.2.2.2.2.2.2.2.2.2.2.2.2.2.2.2.2.2.2.2.2.2.2.2.2.2.1) (fun zk170 => .x))))) .x)) .x)))))))) .x))))))))) .x))))))) .x))))))))
def z9p (P : Program) (φ : Nat) : Env TV := ⟨P, lk [(30, z1j φ), (31, z3y φ), (33, z98 φ)], lk [], lk []⟩
theorem zjq (φ : Nat) (a) : (z7k φ).F a = fnX TV (z9p Tryz.prog φ) φ Tryz.f10 [30, 38] [.val 49, .val 0] (z7f φ) a := by kernel_rfl
theorem zl1 (φ : Nat) : fnO TV (z9p Tryz.prog φ) φ Tryz.f10 [.val 49, .val 0] (z7f φ) := by
  unfold fnO
  show obl _ _ _ _ _ _ _
  unfold z7f
  repeat' (first | exact trivial | (refine ⟨?_, ?_⟩) | (intro _) | kernel_rfl)
theorem zdp (φ : Nat) : z1i TV Tryz.prog 10 (z7k φ) :=
  z1v (N := z9p Tryz.prog φ) (z03 ⟨z3g φ, z94 φ, zir φ, trivial⟩ trivial trivial) (z7f φ) Tryz.func10 (by kernel_rfl) (zjq φ) (zl1 φ)
end Px
end
section
set_option linter.unusedVariables false
set_option linter.unusedSimpArgs false
set_option maxHeartbeats 4000000
set_option maxRecDepth 100000
namespace Px
open Go Go.RowKit Go.Proofs
def z5k (φ : Nat) : H TV (RTup TT [.val 5, .val 0]) := (.seq .x (.seq (.ins 4 53 (.seq .x (.seq .x (.seq (.seq .x (.body (.loop ⟨[(77, [(2, .ptr 0 0), (4, .ptr 1 0), (19, .own 2), (20, .val 0), (21, .val 0)]), (75, [(1, .val 0), (2, .val 0), (3, .ptr 3 0)])], [.box 25 [.val 10], .box 142 [.own 4, .raw (.map none)], .row 3 0, .box 25 [.val 10], .row 66 5]⟩ (fun n z => z6b φ n z.1 z.2.1 z.2.2.1 z.2.2.2.1 z.2.2.2.2.1 z.2.2.2.2.2.1 z.2.2.2.2.2.2.1 z.2.2.2.2.2.2.2.1) (fun zk13 => .x)))) (.seq .x (.seq .x (.seq (.seq .x (.body (.loop ⟨[(77, [(4, .ptr 0 0), (8, .func 91 [.ptr 0 0, .ptr 1 0]), (44, .val 9), (45, .val 0), (46, .val 0)]), (75, [(1, .val 0), (2, .val 0), (3, .ptr 2 0)])], [.box 142 [.own 3, .own 4], .box 25 [.val 10], .box 25 [.val 10], .nst 66 3 5 none, .map 42 0]⟩ (fun n z => z3f φ n z.1 z.2.1 z.2.2.1 z.2.2.2.1 z.2.2.2.2.1 z.2.2.2.2.2.1 z.2.2.2.2.2.2.1 z.2.2.2.2.2.2.2.1 z.2.2.2.2.2.2.2.2.1) (fun zk23 => (.seq .x (.seq .x (.seq (.body (.seq .x (.seq (.ins 6 91 (.seq .x (.seq .x (.seq (.join ⟨[(56, [(2, .val 0), (3, .ptr 0 0), (4, .ptr 1 0), (8, .ptr 2 0), (9, .val 0), (10, .val 2)]), (77, [(4, .ptr 0 0), (8, .func 91 [.ptr 0 0, .ptr 1 0]), (9, .val 0), (10, .ptr 3 0), (44, .val 9), (45, .val 0), (46, .val 0)]), (75, [(1, .val 0), (2, .val 0), (3, .ptr 4 0)])], [.box 142 [.own 5, .own 6], .box 25 [.val 10], .box 190 [.val 42], .box 150 [.val 8], .box 25 [.val 10], .nst 66 3 5 none, .map 42 0]⟩ (fun z => z6e φ (fun a0 a1 a2 a3 a4 a5 a6 a7 a8 => zk23 (a0, a1, a2, a3, a4, a5, a6, a7, a8, ())) z.1 z.2.1 z.2.2.1 z.2.2.2.1 z.2.2.2.2.1 z.2.2.2.2.2.1 z.2.2.2.2.2.2.1 z.2.2.2.2.2.2.2.1 z.2.2.2.2.2.2.2.2.1 z.2.2.2.2.2.2.2.2.2.1 z.2.2.2.2.2.2.2.2.2.2.1 z.2.2.2.2.2.2.2.2.2.2.2.1 z.2.2.2.2.2.2.2.2.2.2.2.2.1 z.2.2.2.2.2.2.2.2.2.2.2.2.2.1 z.2.2.2.2.2.2.2.2.2.2.2.2.2.2.1) (.seq .x (.cond (.foc (3, some 0) (0, none) .x) .x))) .x))) .x) (.ins 6 91 (.seq .x (.seq .x (.seq (.join ⟨[(56, [(2, .val 0), (3, .ptr 0 0), (4, .ptr 1 0), (8, .ptr 2 0), (9, .val 0), (10, .val 2)]), (77, [(4, .ptr 0 0), (8, .func 91 [.ptr 0 0, .ptr 1 0]), (44, .val 9), (45, .val 0), (46, .val 0)]), (75, [(1, .val 0), (2, .val 0), (3, .ptr 3 0)])], [.box 142 [.own 4, .own 5], .box 25 [.val 10], .box 190 [.val 42], .box 25 [.val 10], .nst 66 3 5 none, .map 42 0]⟩ (fun z => z63 φ (fun a0 a1 a2 a3 a4 a5 a6 a7 a8 => zk23 (a0, a1, a2, a3, a4, a5, a6, a7, a8, ())) z.1 z.2.1 z.2.2.1 z.2.2.2.1 z.2.2.2.2.1 z.2.2.2.2.2.1 z.2.2.2.2.2.2.1 z.2.2.2.2.2.2.2.1 z.2.2.2.2.2.2.2.2.1 z.2.2.2.2.2.2.2.2.2.1 z.2.2.2.2.2.2.2.2.2.2.1 z.2.2.2.2.2.2.2.2.2.2.2.1 z.2.2.2.2.2.2.2.2.2.2.2.2.1) (.seq .x (.cond (.foc (3, some 0) (0, none) .x) .x))) .x))) .x)))) .x))))))) (.seq (.seq .x (.body (.loop ⟨[(77, [(4, .ptr 0 0), (67, .own 1), (68, .val 0), (69, .val 0)]), (75, [(1, .val 0), (2, .val 0), (3, .ptr 2 0)])], [.box 142 [.own 1, .own 3], .nst 66 3 5 none, .box 25 [.val 10], .map 42 0]⟩ (fun n z => z6a φ n z.1 z.2.1 z.2.2.1 z.2.2.2.1 z.2.2.2.2.1 z.2.2.2.2.2.1 z.2.2.2.2.2.2.1) (fun zk75 => (.seq .x (.seq .x (.seq (.body (.seq (.foc (67, none) (69, none) .x) .x)) .x))))))) .x))))))) .x) (.seq .x (.seq (.ins 3 54 (.seq .x (.seq .x (.seq .x (.seq (.seq .x (.body (.loop ⟨[(118, [(2, .val 0), (3, .ptr 0 0), (4, .ptr 1 0), (7, .own 2), (8, .own 3), (23, .val 0), (24, .val 0)]), (75, [(1, .val 0), (2, .val 0), (3, .ptr 4 0), (8, .ptr 5 0)])], [.box 25 [.val 10], .box 142 [.own 6, .own 7], .row 3 0, .row 4 2, .box 25 [.val 10], .box 142 [.own 6, .own 7], .nst 66 3 5 none, .map 42 0]⟩ (fun n z => z69 φ n z.1 z.2.1 z.2.2.1 z.2.2.2.1 z.2.2.2.2.1 z.2.2.2.2.2.1 z.2.2.2.2.2.2.1 z.2.2.2.2.2.2.2.1 z.2.2.2.2.2.2.2.2.1 z.2.2.2.2.2.2.2.2.2.1 z.2.2.2.2.2.2.2.2.2.2.1) (fun zk88 => .x)))) (.seq .x (.body (.loop ⟨[(118, [(3, .ptr 0 0), (4, .ptr 1 0), (7, .own 2), (8, .own 3)]), (75, [(1, .val 0), (2, .val 0), (3, .ptr 4 0), (8, .ptr 5 0)])], [.box 25 [.val 10], .box 142 [.own 6, .own 7], .row 3 0, .row 4 2, .box 25 [.val 10], .box 142 [.own 6, .own 7], .nst 66 3 5 none, .map 42 0]⟩ (fun n z => z5z φ n z.1 z.2.1 z.2.2.1 z.2.2.2.1 z.2.2.2.2.1 z.2.2.2.2.2.1 z.2.2.2.2.2.2.1 z.2.2.2.2.2.2.2.1) (fun zk97 => (.body (.seq .x (.seq (.seq .x (.body (.loop ⟨[(118, [(3, .ptr 0 0), (4, .ptr 1 0), (7, .own 2), (8, .own 3), (10, .val 0), (35, .val 0), (36, .val 0)]), (75, [(1, .val 0), (2, .val 0), (3, .ptr 4 0), (8, .ptr 5 0)])], [.box 25 [.val 10], .box 142 [.own 6, .own 7], .row 3 0, .row 4 2, .box 25 [.val 10], .box 142 [.own 6, .own 7], .nst 66 3 5 none, .map 42 0]⟩ (fun n z => z2x φ (fun a0 a1 a2 a3 a4 a5 a6 a7 => zk97 (a0, a1, a2, a3, a4, a5, a6, a7, ())) n z.1 z.2.1 z.2.2.1 z.2.2.2.1 z.2.2.2.2.1 z.2.2.2.2.2.1 z.2.2.2.2.2.2.1 z.2.2.2.2.2.2.2.1 z.2.2.2.2.2.2.2.2.1 z.2.2.2.2.2.2.2.2.2.1 z.2.2.2.2.2.2.2.2.2.2.1) (fun zk109 => .x)))) (.seq .x (.seq .x (.seq (.foc (4, some 0) (10, none) .x) (.body (.loop ⟨[(118, [(3, .ptr 0 0), (4, .ptr 1 0), (7, .own 2), (8, .own 3), (10, .val 0), (78, .own 4), (79, .val 0), (80, .val 0)]), (75, [(1, .val 0), (2, .val 0), (3, .ptr 5 0), (8, .ptr 6 0)])], [.box 25 [.val 10], .box 142 [.own 7, .own 8], .row 3 0, .row 4 2, .row 3 0, .box 25 [.val 10], .box 142 [.own 7, .own 8], .nst 66 3 5 (some 4), .map 42 0]⟩ (fun n z => z32 φ (fun a0 a1 a2 a3 a4 a5 a6 a7 => zk97 (a0, a1, a2, a3, a4, a5, a6, a7, ())) n z.1 z.2.1 z.2.2.1 z.2.2.2.1 z.2.2.2.2.1 z.2.2.2.2.2.1 z.2.2.2.2.2.2.1 z.2.2.2.2.2.2.2.1 z.2.2.2.2.2.2.2.2.1 z.2.2.2.2.2.2.2.2.2.1 z.2.2.2.2.2.2.2.2.2.2.1 z.2.2.2.2.2.2.2.2.2.2.2.1 z.2.2.2.2.2.2.2.2.2.2.2.2.1) (fun zk151 => .x))))))))))))))))) .x) (.seq .x (.seq .x (.seq (.body (.loop ⟨[(75, [(1, .val 0), (2, .val 0), (3, .ptr 0 0), (6, .own 1), (8, .ptr 2 0), (9, .own 3)])], [.box 25 [.val 10], .row 3 0, .box 142 [.own 4, .own 5], .row 3 0, .nst 66 3 5 none, .map 42 0]⟩ (fun n z => z4q φ n z.1 z.2.1 z.2.2.1 z.2.2.2.1 z.2.2.2.2.1 z.2.2.2.2.2.1 z.2.2.2.2.2.2.1) (fun zk117 => (.seq .x (.body (.seq (.join ⟨[(75, [(1, .val 0), (2, .val 0), (3, .ptr 0 0), (6, .own 1), (8, .ptr 2 0), (9, .own 3)])], [.box 25 [.val 10], .row 3 0, .box 142 [.own 4, .own 5], .row 3 0, .nst 66 3 5 none, .map 42 0]⟩ (fun z => z5h φ (fun a0 a1 a2 a3 a4 a5 a6 => zk117 (a0, a1, a2, a3, a4, a5, a6, ())) z.1 z.2.1 z.2.2.1 z.2.2.2.1 z.2.2.2.2.1 z.2.2.2.2.2.1 z.2.2.2.2.2.2.1) (.seq (.foc (8, some 0) (1, none) .x) (.body (.loop ⟨[(75, [(1, .val 0), (2, .val 0), (3, .ptr 0 0), (6, .own 1), (8, .ptr 2 0), (9, .own 3), (41, .own 4), (42, .val 0), (43, .val 0)])], [.box 25 [.val 10], .row 3 0, .box 142 [.own 5, .own 6], .row 3 0, .row 3 0, .nst 66 3 5 (some 4), .map 42 0]⟩ (fun n z => z5f φ (fun a0 a1 a2 a3 a4 a5 a6 => zk117 (a0, a1, a2, a3, a4, a5, a6, ())) n z.1 z.2.1 z.2.2.1 z.2.2.2.1 z.2.2.2.2.1 z.2.2.2.2.2.1 z.2.2.2.2.2.2.1 z.2.2.2.2.2.2.2.1 z.2.2.2.2.2.2.2.2.1 z.2.2.2.2.2.2.2.2.2.1 z.2.2.2.2.2.2.2.2.2.2.1) (fun zk137 => .x))))) .x)))))) .x)))))))
def z8c (P : Program) (φ : Nat) : Env TV := ⟨P, lk [(56, z2g φ)], lk [(92, zdf)], lk []⟩
theorem zhe (φ : Nat) (a) : (z7v φ).F a = fnX TV (z8c Tryz.prog φ) φ Tryz.f74 [10, 0, 0] [.val 5, .val 0] (z5k φ) a := by kernel_rfl
theorem zh4 (φ : Nat) : fnO TV (z8c Tryz.prog φ) φ Tryz.f74 [.val 5, .val 0] (z5k φ) := by
  unfold fnO
  show obl _ _ _ _ _ _ _
  unfold z5k
  repeat' (first | exact trivial | (refine ⟨?_, ?_⟩) | (intro _) | kernel_rfl)
theorem zht (φ : Nat) : z1i TV Tryz.prog 74 (z7v φ) :=
  z1v (N := z8c Tryz.prog φ) (z03 ⟨z4t φ, trivial⟩ ⟨zhr, trivial⟩ trivial) (z5k φ) Tryz.func74 (by kernel_rfl) (zhe φ) (zh4 φ)
def z47 (φ : Nat) : H TV (RTup TT [.val 52, .val 0]) := (.seq .x (.seq (.ins 2 53 (.seq .x (.seq .x (.seq (.seq .x (.body (.loop ⟨[(77, [(2, .ptr 0 0), (4, .ptr 1 0), (19, .val 5), (20, .val 0), (21, .val 0)]), (81, [(1, .val 5), (2, .ptr 2 0), (4, .own 3)])], [.box 25 [.val 10], .box 142 [.own 4, .raw (.map none)], .box 25 [.val 10], .row 172 51, .row 66 5]⟩ (fun n z => z58 φ n z.1 z.2.1 z.2.2.1 z.2.2.2.1 z.2.2.2.2.1 z.2.2.2.2.2.1 z.2.2.2.2.2.2.1 z.2.2.2.2.2.2.2.1) (fun zk12 => .x)))) (.seq .x (.seq .x (.seq (.seq .x (.body (.loop ⟨[(77, [(4, .ptr 0 0), (8, .func 91 [.ptr 0 0, .ptr 1 0]), (44, .val 9), (45, .val 0), (46, .val 0)]), (81, [(1, .val 5), (2, .ptr 2 0), (4, .own 3)])], [.box 142 [.own 4, .own 5], .box 25 [.val 10], .box 25 [.val 10], .row 172 51, .nst 66 3 5 none, .map 42 0]⟩ (fun n z => z2w φ n z.1 z.2.1 z.2.2.1 z.2.2.2.1 z.2.2.2.2.1 z.2.2.2.2.2.1 z.2.2.2.2.2.2.1 z.2.2.2.2.2.2.2.1 z.2.2.2.2.2.2.2.2.1) (fun zk22 => (.seq .x (.seq .x (.seq (.body (.seq .x (.seq (.ins 6 91 (.seq .x (.seq .x (.seq (.join ⟨[(56, [(2, .val 0), (3, .ptr 0 0), (4, .ptr 1 0), (8, .ptr 2 0), (9, .val 0), (10, .val 2)]), (77, [(4, .ptr 0 0), (8, .func 91 [.ptr 0 0, .ptr 1 0]), (9, .val 0), (10, .ptr 3 0), (44, .val 9), (45, .val 0), (46, .val 0)]), (81, [(1, .val 5), (2, .ptr 4 0), (4, .own 5)])], [.box 142 [.own 6, .own 7], .box 25 [.val 10], .box 190 [.val 42], .box 150 [.val 8], .box 25 [.val 10], .row 172 51, .nst 66 3 5 none, .map 42 0]⟩ (fun z => z4n φ (fun a0 a1 a2 a3 a4 a5 a6 a7 a8 => zk22 (a0, a1, a2, a3, a4, a5, a6, a7, a8, ())) z.1 z.2.1 z.2.2.1 z.2.2.2.1 z.2.2.2.2.1 z.2.2.2.2.2.1 z.2.2.2.2.2.2.1 z.2.2.2.2.2.2.2.1 z.2.2.2.2.2.2.2.2.1 z.2.2.2.2.2.2.2.2.2.1 z.2.2.2.2.2.2.2.2.2.2.1 z.2.2.2.2.2.2.2.2.2.2.2.1 z.2.2.2.2.2.2.2.2.2.2.2.2.1 z.2.2.2.2.2.2.2.2.2.2.2.2.2.1 z.2.2.2.2.2.2.2.2.2.2.2.2.2.2.1) (.seq .x (.cond (.foc (3, some 0) (0, none) .x) .x))) .x))) .x) (.ins 6 91 (.seq .x (.seq .x (.seq (.join ⟨[(56, [(2, .val 0), (3, .ptr 0 0), (4, .ptr 1 0), (8, .ptr 2 0), (9, .val 0), (10, .val 2)]), (77, [(4, .ptr 0 0), (8, .func 91 [.ptr 0 0, .ptr 1 0]), (44, .val 9), (45, .val 0), (46, .val 0)]), (81, [(1, .val 5), (2, .ptr 3 0), (4, .own 4)])], [.box 142 [.own 5, .own 6], .box 25 [.val 10], .box 190 [.val 42], .box 25 [.val 10], .row 172 51, .nst 66 3 5 none, .map 42 0]⟩ (fun z => z4s φ (fun a0 a1 a2 a3 a4 a5 a6 a7 a8 => zk22 (a0, a1, a2, a3, a4, a5, a6, a7, a8, ())) z.1 z.2.1 z.2.2.1 z.2.2.2.1 z.2.2.2.2.1 z.2.2.2.2.2.1 z.2.2.2.2.2.2.1 z.2.2.2.2.2.2.2.1 z.2.2.2.2.2.2.2.2.1 z.2.2.2.2.2.2.2.2.2.1 z.2.2.2.2.2.2.2.2.2.2.1 z.2.2.2.2.2.2.2.2.2.2.2.1 z.2.2.2.2.2.2.2.2.2.2.2.2.1) (.seq .x (.cond (.foc (3, some 0) (0, none) .x) .x))) .x))) .x)))) .x))))))) (.seq (.seq .x (.body (.loop ⟨[(77, [(4, .ptr 0 0), (67, .own 1), (68, .val 0), (69, .val 0)]), (81, [(1, .val 5), (2, .ptr 2 0), (4, .own 3)])], [.box 142 [.own 1, .own 4], .nst 66 3 5 none, .box 25 [.val 10], .row 172 51, .map 42 0]⟩ (fun n z => z5o φ n z.1 z.2.1 z.2.2.1 z.2.2.2.1 z.2.2.2.2.1 z.2.2.2.2.2.1 z.2.2.2.2.2.2.1) (fun zk74 => (.seq .x (.seq .x (.seq (.body (.seq (.foc (67, none) (69, none) .x) .x)) .x))))))) .x))))))) .x) (.seq .x (.seq .x (.seq (.seq .x (.body (.loop ⟨[(81, [(1, .val 5), (2, .ptr 0 0), (4, .own 1), (6, .ptr 2 0), (7, .own 3), (8, .val 0)])], [.box 25 [.val 10], .row 172 51, .box 142 [.own 4, .own 5], .map 0 0, .nst 66 3 5 none, .map 42 0]⟩ (fun n z => z5e φ n z.1 z.2.1 z.2.2.1 z.2.2.2.1 z.2.2.2.2.1 z.2.2.2.2.2.1 z.2.2.2.2.2.2.1) (fun zk83 => .x)))) (.seq (.seq .x (.body (.loop ⟨[(81, [(4, .own 0), (7, .own 1), (63, .val 0)])], [.row 172 51, .map 0 0]⟩ (fun n z => z2y φ n z.1 z.2.1 z.2.2.1) (fun zk87 => .x)))) .x))))))
def z7a (P : Program) (φ : Nat) : Env TV := ⟨P, lk [(56, z2g φ)], lk [(92, zdf)], lk []⟩
theorem zgc (φ : Nat) (a) : (z6t φ).F a = fnX TV (z7a Tryz.prog φ) φ Tryz.f75 [10, 5] [.val 52, .val 0] (z47 φ) a := by kernel_rfl
theorem zg0 (φ : Nat) : fnO TV (z7a Tryz.prog φ) φ Tryz.f75 [.val 52, .val 0] (z47 φ) := by
  unfold fnO
  show obl _ _ _ _ _ _ _
  unfold z47
  repeat' (first | exact trivial | (refine ⟨?_, ?_⟩) | (intro _) | kernel_rfl)
theorem zgb (φ : Nat) : z1i TV Tryz.prog 75 (z6t φ) :=
  z1v (N := z7a Tryz.prog φ) (z03 ⟨z4t φ, trivial⟩ ⟨zhr, trivial⟩ trivial) (z47 φ) Tryz.func75 (by kernel_rfl) (zgc φ) (zg0 φ)
def z6j (φ : Nat) : H TV (RTup TT [.val 0]) := (.seq .x (.seq .x (.seq .x (.seq .x (.seq .x (.seq (.seq .x (.body (.loop ⟨[(41, [(11, .val 0), (29, .val 52), (30, .val 0), (31, .val 0)])], []⟩ (fun n z => z74 φ n z.1 z.2.1 z.2.2.1 z.2.2.2.1) (fun zk10 => .x)))) .x))))))
def z96 (P : Program) (φ : Nat) : Env TV := ⟨P, lk [(74, z7v φ), (75, z6t φ)], lk [], lk []⟩
theorem zip (φ : Nat) (a) : (z95 φ).F a = fnX TV (z96 Tryz.prog φ) φ Tryz.f39 [10, 0, 0] [.val 0] (z6j φ) a := by kernel_rfl
theorem zj0 (φ : Nat) : fnO TV (z96 Tryz.prog φ) φ Tryz.f39 [.val 0] (z6j φ) := by
  unfold fnO
  show obl _ _ _ _ _ _ _
  unfold z6j
  repeat' (first | exact trivial | (refine ⟨?_, ?_⟩) | (intro _) | kernel_rfl)
theorem zim (φ : Nat) : z1i TV Tryz.prog 39 (z95 φ) :=
  z1v (N := z96 Tryz.prog φ) (z03 ⟨zht φ, zgb φ, trivial⟩ trivial trivial) (z6j φ) Tryz.func39 (by kernel_rfl) (zip φ) (zj0 φ)
theorem zif (φ : Nat) (k12 : (Int → (List z1) → Int → Pool → Span → Option (Int × Int × Unit))) (x22 : Int) (x23 : (List z1)) (x24 : Int) (x25 : Pool) (x26 : Span) : z07 (z8s φ k12 x22 x23 x24 x25 x26) (z9k φ k12 x22 x23 x24 x25 x26) := by
  unfold z8s z9k
  repeat' (first | exact z07.one | exact z07.nil | refine z07.cons ?_ ?_ | refine z07.ck ?_ | exact z07.same (n := 2) rfl | exact z07.same (n := 3) rfl | exact z07.same (n := 4) rfl | exact z07.same (n := 6) rfl | refine z07.bind fun _ => ?_)
def zbs (φ : Nat) : H TV (RTup TT [.val 0, .val 0]) := (.seq .x (.seq .x (.seq .x (.seq .x (.seq .x (.seq (.seq .x (.body (.loop ⟨[(93, [(4, .ptr 0 0), (7, .ptr 1 0), (11, .val 0), (12, .val 39), (13, .val 0)])], [.box 36 [.val 30], .box 39 [.val 25]]⟩ (fun n z => zav φ n z.1 z.2.1 z.2.2.1 z.2.2.2.1 z.2.2.2.2.1) (fun zk12 => (.seq .x (.seq (.body (.seq (.join ⟨[(93, [(4, .ptr 0 0), (7, .ptr 1 0), (11, .val 0), (12, .val 39), (13, .val 0), (14, .ptr 2 0), (15, .ptr 3 0)])], [.box 36 [.val 30], .box 39 [.val 25], .box 91 [.val 3], .box 91 [.val 3]]⟩ (fun z => z8p φ (fun a0 a1 a2 a3 a4 => zk12 (a0, a1, a2, a3, a4, ())) z.1 z.2.1 z.2.2.1 z.2.2.2.1 z.2.2.2.2.1 z.2.2.2.2.2.1 z.2.2.2.2.2.2.1) (.alt ⟨[(93, [(4, .ptr 0 0), (7, .ptr 1 0), (11, .val 0), (12, .val 39), (13, .val 0)])], [.box 36 [.val 30], .box 39 [.val 25]]⟩ (fun z => z8s φ (fun a0 a1 a2 a3 a4 => zk12 (a0, a1, a2, a3, a4, ())) z.1 z.2.1 z.2.2.1 z.2.2.2.1 z.2.2.2.2.1) (fun z => z9k φ (fun a0 a1 a2 a3 a4 => zk12 (a0, a1, a2, a3, a4, ())) z.1 z.2.1 z.2.2.1 z.2.2.2.1 z.2.2.2.2.1))) .x)) .x)))))) .x))))))
def zf4 (P : Program) (φ : Nat) : Env TV := ⟨P, lk [(30, z1j φ), (31, z3y φ), (39, z95 φ)], lk [], lk []⟩
theorem zs9 (φ : Nat) (a) : (zfe φ).F a = fnX TV (zf4 Tryz.prog φ) φ Tryz.f12 [30, 38, 0, 25] [.val 0, .val 0] (zbs φ) a := by kernel_rfl
theorem zrs (φ : Nat) : fnO TV (zf4 Tryz.prog φ) φ Tryz.f12 [.val 0, .val 0] (zbs φ) := by
  unfold fnO
  show obl _ _ _ _ _ _ _
  unfold zbs
  repeat' (first | exact trivial | (refine ⟨?_, ?_⟩) | (intro _) | kernel_rfl | exact zif ..)
theorem zrz (φ : Nat) : z1i TV Tryz.prog 12 (zfe φ) :=
  z1v (N := zf4 Tryz.prog φ) (z03 ⟨z3g φ, z94 φ, zim φ, trivial⟩ trivial trivial) (zbs φ) Tryz.func12 (by kernel_rfl) (zs9 φ) (zrs φ)
def z33 (φ : Nat) : H TV (RTup TT [.val 2]) := (.seq .x (.seq .x (.seq (.seq .x (.body (.loop ⟨[(26, [(0, .val 41), (1, .val 41), (5, .val 0)])], []⟩ (fun n z => z4b φ n z.1 z.2.1 z.2.2.1) (fun zk6 => .x)))) .x)))
def z54 (P : Program) (φ : Nat) : Env TV := ⟨P, lk [], lk [], lk []⟩
theorem ze7 (φ : Nat) (a) : (z52 φ).F a = fnX TV (z54 Tryz.prog φ) φ Tryz.f15 [41, 41] [.val 2] (z33 φ) a := by kernel_rfl
theorem ze5 (φ : Nat) : fnO TV (z54 Tryz.prog φ) φ Tryz.f15 [.val 2] (z33 φ) := by
  unfold fnO
  show obl _ _ _ _ _ _ _
  unfold z33
  repeat' (first | exact trivial | (refine ⟨?_, ?_⟩) | (intro _) | kernel_rfl)
theorem zda (φ : Nat) : z1i TV Tryz.prog 15 (z52 φ) :=
  z1v (N := z54 Tryz.prog φ) (z03 trivial trivial trivial) (z33 φ) Tryz.func15 (by kernel_rfl) (ze7 φ) (ze5 φ)
def z8y (φ : Nat) : H TV (RTup TT [.val 2]) := .x
def zau (P : Program) (φ : Nat) : Env TV := ⟨P, lk [(29, z8a φ), (16, za3 φ), (10, z7k φ), (12, zfe φ), (15, z52 φ)], lk [], lk []⟩
theorem zmp (φ : Nat) (a) : (zbo φ).F a = fnX TV (zau Tryz.prog φ) φ Tryz.f8 [] [.val 2] (z8y φ) a := by kernel_rfl
theorem zmx (φ : Nat) : fnO TV (zau Tryz.prog φ) φ Tryz.f8 [.val 2] (z8y φ) := by
  unfold fnO
  show obl _ _ _ _ _ _ _
  unfold z8y
  repeat' (first | exact trivial | (refine ⟨?_, ?_⟩) | (intro _) | kernel_rfl)
theorem zmz (φ : Nat) : z1i TV Tryz.prog 8 (zbo φ) :=
  z1v (N := zau Tryz.prog φ) (z03 ⟨zgw φ, zko φ, zdp φ, zrz φ, zda φ, trivial⟩ trivial trivial) (z8y φ) Tryz.func8 (by kernel_rfl) (zmp φ) (zmx φ)
def z3d (φ : Nat) : H TV (RTup TT [.val 2]) := (.seq .x (.seq .x (.seq (.seq .x (.body (.loop ⟨[(65, [(1, .ptr 0 0), (3, .val 0)])], [.box 36 [.val 30]]⟩ (fun n z => z0p φ n z.1 z.2.1) (fun zk4 => .x)))) .x)))
def z5y (P : Program) (φ : Nat) : Env TV := ⟨P, lk [], lk [], lk []⟩
theorem zem (φ : Nat) (a) : (z5v φ).F a = fnX TV (z5y Tryz.prog φ) φ Tryz.f21 [30] [.val 2] (z3d φ) a := by kernel_rfl
theorem zf7 (φ : Nat) : fnO TV (z5y Tryz.prog φ) φ Tryz.f21 [.val 2] (z3d φ) := by
  unfold fnO
  show obl _ _ _ _ _ _ _
  unfold z3d
  repeat' (first | exact trivial | (refine ⟨?_, ?_⟩) | (intro _) | kernel_rfl)
theorem zej (φ : Nat) : z1i TV Tryz.prog 21 (z5v φ) :=
  z1v (N := z5y Tryz.prog φ) (z03 trivial trivial trivial) (z3d φ) Tryz.func21 (by kernel_rfl) (zem φ) (zf7 φ)
def z31 (φ : Nat) : H TV (RTup TT [.val 2]) := (.seq .x (.seq .x (.seq (.seq .x (.body (.loop ⟨[(34, [(0, .val 38), (5, .val 0)])], []⟩ (fun n z => z0w φ n z.1 z.2.1) (fun zk5 => .x)))) .x)))
def z4r (P : Program) (φ : Nat) : Env TV := ⟨P, lk [], lk [], lk []⟩
theorem zdw (φ : Nat) (a) : (z4o φ).F a = fnX TV (z4r Tryz.prog φ) φ Tryz.f18 [38, 0] [.val 2] (z31 φ) a := by kernel_rfl
theorem zdl (φ : Nat) : fnO TV (z4r Tryz.prog φ) φ Tryz.f18 [.val 2] (z31 φ) := by
  unfold fnO
  show obl _ _ _ _ _ _ _
  unfold z31
  repeat' (first | exact trivial | (refine ⟨?_, ?_⟩) | (intro _) | kernel_rfl)
theorem zdz (φ : Nat) : z1i TV Tryz.prog 18 (z4o φ) :=
  z1v (N := z4r Tryz.prog φ) (z03 trivial trivial trivial) (z31 φ) Tryz.func18 (by kernel_rfl) (zdw φ) (zdl φ)
def za0 (φ : Nat) : H TV (RTup TT [.val 2]) := .x
def zcv (P : Program) (φ : Nat) : Env TV := ⟨P, lk [(21, z5v φ), (18, z4o φ)], lk [], lk []⟩
theorem zp6 (φ : Nat) (a) : (zcl φ).F a = fnX TV (zcv Tryz.prog φ) φ Tryz.f9 [30, 38] [.val 2] (za0 φ) a := by kernel_rfl
theorem zok (φ : Nat) : fnO TV (zcv Tryz.prog φ) φ Tryz.f9 [.val 2] (za0 φ) := by
  unfold fnO
  show obl _ _ _ _ _ _ _
  unfold za0
  repeat' (first | exact trivial | (refine ⟨?_, ?_⟩) | (intro _) | kernel_rfl)
theorem zov (φ : Nat) : z1i TV Tryz.prog 9 (zcl φ) :=
  z1v (N := zcv Tryz.prog φ) (z03 ⟨zej φ, zdz φ, trivial⟩ trivial trivial) (za0 φ) Tryz.func9 (by kernel_rfl) (zp6 φ) (zok φ)
end Px
end
section
set_option linter.unusedVariables false
set_option linter.unusedSimpArgs false
set_option maxHeartbeats 4000000
set_option maxRecDepth 100000
namespace Px
open Go Go.RowKit Go.Proofs
def z8o (φ : Nat) : H TV (RTup TT [.val 0]) := (.seq .x (.seq .x (.seq .x (.seq (.seq .x (.body (.loop ⟨[(48, [(0, .val 0), (16, .val 44), (17, .val 0), (18, .val 0)])], []⟩ (fun n z => z3h φ n z.1 z.2.1 z.2.2.1 z.2.2.2.1) (fun zk7 => .x)))) .x))))
def zbn (P : Program) (φ : Nat) : Env TV := ⟨P, lk [], lk [], lk []⟩
theorem zo0 (φ : Nat) (a) : (zb2 φ).F a = fnX TV (zbn Tryz.prog φ) φ Tryz.f51 [0, 44] [.val 0] (z8o φ) a := by kernel_rfl
theorem znl (φ : Nat) : fnO TV (zbn Tryz.prog φ) φ Tryz.f51 [.val 0] (z8o φ) := by
  unfold fnO
  show obl _ _ _ _ _ _ _
  unfold z8o
  repeat' (first | exact trivial | (refine ⟨?_, ?_⟩) | (intro _) | kernel_rfl)
theorem zmv (φ : Nat) : z1i TV Tryz.prog 51 (zb2 φ) :=
  z1v (N := zbn Tryz.prog φ) (z03 trivial trivial trivial) (z8o φ) Tryz.func51 (by kernel_rfl) (zo0 φ) (znl φ)
def z8r (φ : Nat) : H TV (RTup TT [.val 58, .val 58]) := .x
def zb6 (P : Program) (φ : Nat) : Env TV := ⟨P, lk [], lk [], lk []⟩
theorem znb (φ : Nat) (a) : (zap φ).F a = fnX TV (zb6 Tryz.prog φ) φ Tryz.f141 [58, 58] [.val 58, .val 58] (z8r φ) a := by kernel_rfl
theorem zmh (φ : Nat) : fnO TV (zb6 Tryz.prog φ) φ Tryz.f141 [.val 58, .val 58] (z8r φ) := by
  unfold fnO
  show obl _ _ _ _ _ _ _
  unfold z8r
  repeat' (first | exact trivial | (refine ⟨?_, ?_⟩) | (intro _) | kernel_rfl)
theorem zmi (φ : Nat) : z1i TV Tryz.prog 141 (zap φ) :=
  z1v (N := zb6 Tryz.prog φ) (z03 trivial trivial trivial) (z8r φ) Tryz.func141 (by kernel_rfl) (znb φ) (zmh φ)
def zbx (φ : Nat) : H TV (RTup TT [.val 11, .val 11]) := .x
def zfd (P : Program) (φ : Nat) : Env TV := ⟨P, lk [(141, zap φ), (142, z8v φ)], lk [], lk []⟩
theorem zre (φ : Nat) (a) : (ze8 φ).F a = fnX TV (zfd Tryz.prog φ) φ Tryz.f122 [11, 11] [.val 11, .val 11] (zbx φ) a := by kernel_rfl
theorem zrl (φ : Nat) : fnO TV (zfd Tryz.prog φ) φ Tryz.f122 [.val 11, .val 11] (zbx φ) := by
  unfold fnO
  show obl _ _ _ _ _ _ _
  unfold zbx
  repeat' (first | exact trivial | (refine ⟨?_, ?_⟩) | (intro _) | kernel_rfl)
theorem zs0 (φ : Nat) : z1i TV Tryz.prog 122 (ze8 φ) :=
  z1v (N := zfd Tryz.prog φ) (z03 ⟨zmi φ, zfs φ, trivial⟩ trivial trivial) (zbx φ) Tryz.func122 (by kernel_rfl) (zre φ) (zrl φ)
def z59 (φ : Nat) : H TV (RTup TT [.row 3 0]) := (.seq .x (.seq .x (.seq .x (.seq .x (.seq .x (.seq .x (.seq (.body (.loop ⟨[(48, [(7, .own 0), (8, .val 0)])], [.row 3 0]⟩ (fun n z => z2r φ n z.1 z.2.1) (fun zk6 => .x))) .x)))))))
def z7u (P : Program) (φ : Nat) : Env TV := ⟨P, lk [(122, ze8 φ)], lk [], lk []⟩
theorem zii (φ : Nat) (a) : (z7l φ).F a = fnX TV (z7u Tryz.prog φ) φ Tryz.f88 [5, 0] [.row 3 0] (z59 φ) a := by kernel_rfl
theorem zi1 (φ : Nat) : fnO TV (z7u Tryz.prog φ) φ Tryz.f88 [.row 3 0] (z59 φ) := by
  unfold fnO
  show obl _ _ _ _ _ _ _
  unfold z59
  repeat' (first | exact trivial | (refine ⟨?_, ?_⟩) | (intro _) | kernel_rfl)
theorem zi6 (φ : Nat) : z1i TV Tryz.prog 88 (z7l φ) :=
  z1v (N := z7u Tryz.prog φ) (z03 ⟨zs0 φ, trivial⟩ trivial trivial) (z59 φ) Tryz.func88 (by kernel_rfl) (zii φ) (zi1 φ)
theorem ze4 (φ : Nat) (k24 : ((List z8) → Int → Int → Int → (List z8) → Int → Int → (List Int) → (List Int) → Option ((List Int) × (List Int) × Int × Unit))) (x25 : Int) (x26 : Int) (x27 : (List z8)) (x28 : Int) (x29 : Int) (x30 : Int) (x31 : Int) (x32 : (List z8)) (x33 : Int) (x34 : Int) (x35 : z8) (x36 : (List Int)) (x37 : (List Int)) : z07 (z37 φ k24 x25 x26 x27 x28 x29 x30 x31 x32 x33 x34 x35 x36 x37) (z71 φ k24 x25 x26 x27 x28 x29 x30 x31 x32 x33 x34 x35 x36 x37) := by
  unfold z37 z71
  repeat' (first | exact z07.one | exact z07.nil | refine z07.cons ?_ ?_ | refine z07.ck ?_ | exact z07.same (n := 2) rfl | exact z07.same (n := 3) rfl | exact z07.same (n := 4) rfl | exact z07.same (n := 6) rfl | refine z07.bind fun _ => ?_)
theorem zdr (φ : Nat) (x39 : Int) (x40 : (List Int)) (x41 : (List Int)) : z07 (z86 φ x39 x40 x41) (zab φ x39 x40 x41) := by
  unfold z86 zab
  repeat' (first | exact z07.one | exact z07.nil | refine z07.cons ?_ ?_ | refine z07.ck ?_ | exact z07.same (n := 2) rfl | exact z07.same (n := 3) rfl | exact z07.same (n := 4) rfl | exact z07.same (n := 6) rfl | refine z07.bind fun _ => ?_)
theorem zd2 (φ : Nat) (x43 : Int) (x44 : (List Int)) (x45 : (List Int)) : z07 (z5a φ x43 x44 x45) (z6u φ x43 x44 x45) := by
  unfold z5a z6u
  repeat' (first | exact z07.one | exact z07.nil | refine z07.cons ?_ ?_ | refine z07.ck ?_ | exact z07.same (n := 2) rfl | exact z07.same (n := 3) rfl | exact z07.same (n := 4) rfl | exact z07.same (n := 6) rfl | refine z07.bind fun _ => ?_)
theorem zd4 (φ : Nat) (x47 : Int) (x48 : (List z8)) (x49 : (List Int)) (x50 : (List Int)) : z07 (z36 φ x47 x48 x49 x50) (z79 φ x47 x48 x49 x50) := by
  unfold z36 z79
  constructor
  intro r h
  obtain ⟨hp, h⟩ := zas h
  obtain ⟨y, hy, hk⟩ := bind_some h
  exact ⟨[some r, some r, some r], by simp [z6 hp, hy, catL, cat2]; exact hk, by simp⟩
def z7c (φ : Nat) : H TV (RTup TT [.val 5, .val 5, .val 0]) := (.seq .x (.seq (.join ⟨[(19, [(0, .val 0), (1, .val 44), (4, .ptr 0 0), (5, .ptr 1 0)])], [.box 66 [.own 2], .box 66 [.own 3], .row 3 0, .row 3 0]⟩ (fun z => z2v φ z.1 z.2.1 z.2.2.1 z.2.2.2.1) (.alt ⟨[(19, [(0, .val 0), (1, .val 44), (4, .ptr 0 0), (5, .ptr 1 0)])], [.box 66 [.own 2], .box 66 [.own 3], .row 3 0, .row 3 0]⟩ (fun z => z36 φ z.1 z.2.1 z.2.2.1 z.2.2.2.1) (fun z => z79 φ z.1 z.2.1 z.2.2.1 z.2.2.2.1))) (.seq (.ins 3 89 (.seq .x (.body (.seq .x (.seq .x (.seq (.seq .x (.body (.loop ⟨[(30, [(1, .val 44), (2, .func 90 [.ptr 0 0, .ptr 1 0]), (7, .val 0), (10, .val 0), (11, .val 0)]), (19, [(4, .ptr 0 0), (5, .ptr 1 0)])], [.box 66 [.own 2], .box 66 [.own 3], .row 3 0, .row 3 0]⟩ (fun n z => z2i φ n z.1 z.2.1 z.2.2.1 z.2.2.2.1 z.2.2.2.2.1 z.2.2.2.2.2.1) (fun zk14 => (.seq .x (.seq .x (.seq (.body (.seq .x (.seq (.seq .x (.body (.loop ⟨[(30, [(1, .val 44), (2, .func 90 [.ptr 0 0, .ptr 1 0]), (7, .val 0), (10, .val 0), (11, .val 0), (13, .val 44), (14, .val 0), (15, .val 0)]), (19, [(4, .ptr 0 0), (5, .ptr 1 0)])], [.box 66 [.own 2], .box 66 [.own 3], .row 3 0, .row 3 0]⟩ (fun n z => z16 φ (fun a0 a1 a2 a3 a4 a5 => zk14 (a0, a1, a2, a3, a4, a5, ())) n z.1 z.2.1 z.2.2.1 z.2.2.2.1 z.2.2.2.2.1 z.2.2.2.2.2.1 z.2.2.2.2.2.2.1 z.2.2.2.2.2.2.2.1 z.2.2.2.2.2.2.2.2.1) (fun zk24 => (.seq .x (.seq .x (.seq (.body (.seq .x (.seq (.ins 3 90 (.seq .x (.seq (.seq .x (.seq .x (.cond (.seq (.alt ⟨[(33, [(0, .val 0), (2, .ptr 0 0), (3, .ptr 1 0), (5, .ptr 2 0), (7, .val 0)]), (30, [(1, .val 44), (2, .func 90 [.ptr 0 0, .ptr 1 0]), (7, .val 0), (8, .val 0), (10, .val 0), (11, .val 0), (13, .val 44), (14, .val 0), (15, .val 0)]), (19, [(4, .ptr 0 0), (5, .ptr 1 0)])], [.box 66 [.own 3], .box 66 [.own 4], .box 94 [.val 43], .row 3 0, .row 3 0]⟩ (fun z => z37 φ (fun a0 a1 a2 a3 a4 a5 a6 a7 a8 => zk24 (a0, a1, a2, a3, a4, a5, a6, a7, a8, ())) z.1 z.2.1 z.2.2.1 z.2.2.2.1 z.2.2.2.2.1 z.2.2.2.2.2.1 z.2.2.2.2.2.2.1 z.2.2.2.2.2.2.2.1 z.2.2.2.2.2.2.2.2.1 z.2.2.2.2.2.2.2.2.2.1 z.2.2.2.2.2.2.2.2.2.2.1 z.2.2.2.2.2.2.2.2.2.2.2.1 z.2.2.2.2.2.2.2.2.2.2.2.2.1) (fun z => z71 φ (fun a0 a1 a2 a3 a4 a5 a6 a7 a8 => zk24 (a0, a1, a2, a3, a4, a5, a6, a7, a8, ())) z.1 z.2.1 z.2.2.1 z.2.2.2.1 z.2.2.2.2.1 z.2.2.2.2.2.1 z.2.2.2.2.2.2.1 z.2.2.2.2.2.2.2.1 z.2.2.2.2.2.2.2.2.1 z.2.2.2.2.2.2.2.2.2.1 z.2.2.2.2.2.2.2.2.2.2.1 z.2.2.2.2.2.2.2.2.2.2.2.1 z.2.2.2.2.2.2.2.2.2.2.2.2.1)) .x) .x))) .x)) .x) .x))) .x))))))) .x))) .x))))))) .x))))) .x) (.seq (.alt ⟨[(19, [(4, .ptr 0 0), (5, .ptr 1 0), (6, .val 0)])], [.box 66 [.own 2], .box 66 [.own 3], .row 3 0, .row 3 0]⟩ (fun z => z5a φ z.1 z.2.1 z.2.2.1) (fun z => z6u φ z.1 z.2.1 z.2.2.1)) .x))))
def z9u (P : Program) (φ : Nat) : Env TV := ⟨P, lk [(88, z7l φ)], lk [], lk []⟩
theorem zk1 (φ : Nat) (a) : (z9z φ).F a = fnX TV (z9u Tryz.prog φ) φ Tryz.f52 [0, 44] [.val 5, .val 5, .val 0] (z7c φ) a := by kernel_rfl
theorem zli (φ : Nat) : fnO TV (z9u Tryz.prog φ) φ Tryz.f52 [.val 5, .val 5, .val 0] (z7c φ) := by
  unfold fnO
  show obl _ _ _ _ _ _ _
  unfold z7c
  repeat' (first | exact trivial | (refine ⟨?_, ?_⟩) | (intro _) | kernel_rfl | exact ze4 .. | exact zdr .. | exact zd2 .. | exact zd4 ..)
theorem zkw (φ : Nat) : z1i TV Tryz.prog 52 (z9z φ) :=
  z1v (N := z9u Tryz.prog φ) (z03 ⟨zi6 φ, trivial⟩ trivial trivial) (z7c φ) Tryz.func52 (by kernel_rfl) (zk1 φ) (zli φ)
def z8t (φ : Nat) : H TV (RTup TT [.val 5, .val 0]) := .x
def zaw (P : Program) (φ : Nat) : Env TV := ⟨P, lk [(51, zb2 φ), (52, z9z φ)], lk [], lk []⟩
theorem zn7 (φ : Nat) (a) : (zb7 φ).F a = fnX TV (zaw Tryz.prog φ) φ Tryz.f24 [0, 44] [.val 5, .val 0] (z8t φ) a := by kernel_rfl
theorem znj (φ : Nat) : fnO TV (zaw Tryz.prog φ) φ Tryz.f24 [.val 5, .val 0] (z8t φ) := by
  unfold fnO
  show obl _ _ _ _ _ _ _
  unfold z8t
  repeat' (first | exact trivial | (refine ⟨?_, ?_⟩) | (intro _) | kernel_rfl)
theorem zns (φ : Nat) : z1i TV Tryz.prog 24 (zb7 φ) :=
  z1v (N := zaw Tryz.prog φ) (z03 ⟨zmv φ, zkw φ, trivial⟩ trivial trivial) (z8t φ) Tryz.func24 (by kernel_rfl) (zn7 φ) (znj φ)
def z3l (φ : Nat) : H TV (RTup TT [.val 2]) := (.seq .x (.seq (.seq .x (.body (.loop ⟨[(27, [(0, .val 38), (3, .val 0)])], []⟩ (fun n z => z0r φ n z.1 z.2.1) (fun zk4 => (.seq .x (.seq (.body (.seq .x (.body (.loop ⟨[(27, [(0, .val 38), (3, .val 0), (4, .val 0)])], []⟩ (fun n z => z19 φ (fun a0 a1 => zk4 (a0, a1, ())) n z.1 z.2.1 z.2.2.1) (fun zk8 => .x))))) .x)))))) .x))
def z6c (P : Program) (φ : Nat) : Env TV := ⟨P, lk [], lk [], lk []⟩
theorem zee (φ : Nat) (a) : (z60 φ).F a = fnX TV (z6c Tryz.prog φ) φ Tryz.f26 [38] [.val 2] (z3l φ) a := by kernel_rfl
theorem zea (φ : Nat) : fnO TV (z6c Tryz.prog φ) φ Tryz.f26 [.val 2] (z3l φ) := by
  unfold fnO
  show obl _ _ _ _ _ _ _
  unfold z3l
  repeat' (first | exact trivial | (refine ⟨?_, ?_⟩) | (intro _) | kernel_rfl)
theorem zfb (φ : Nat) : z1i TV Tryz.prog 26 (z60 φ) :=
  z1v (N := z6c Tryz.prog φ) (z03 trivial trivial trivial) (z3l φ) Tryz.func26 (by kernel_rfl) (zee φ) (zea φ)
def z8l (φ : Nat) : H TV (RTup TT [.val 0]) := (.seq .x (.seq (.seq .x (.body (.loop ⟨[(27, [(2, .ptr 0 0), (3, .ptr 1 0), (5, .val 0)])], [.box 46 [.val 49], .box 58 [.val 1]]⟩ (fun n z => z3j φ n z.1 z.2.1 z.2.2.1) (fun zk6 => .x)))) .x))
def zar (P : Program) (φ : Nat) : Env TV := ⟨P, lk [], lk [], lk []⟩
theorem zn5 (φ : Nat) (a) : (zbk φ).F a = fnX TV (zar Tryz.prog φ) φ Tryz.f55 [49, 1] [.val 0] (z8l φ) a := by kernel_rfl
theorem zmr (φ : Nat) : fnO TV (zar Tryz.prog φ) φ Tryz.f55 [.val 0] (z8l φ) := by
  unfold fnO
  show obl _ _ _ _ _ _ _
  unfold z8l
  repeat' (first | exact trivial | (refine ⟨?_, ?_⟩) | (intro _) | kernel_rfl)
theorem zni (φ : Nat) : z1i TV Tryz.prog 55 (zbk φ) :=
  z1v (N := zar Tryz.prog φ) (z03 trivial trivial trivial) (z8l φ) Tryz.func55 (by kernel_rfl) (zn5 φ) (zmr φ)
def z3i (φ : Nat) : H TV (RTup TT [.val 2]) := (.seq .x (.seq (.seq .x (.body (.loop ⟨[(96, [(0, .val 38), (2, .val 5), (4, .ptr 0 0), (7, .val 0)])], [.box 46 [.val 49]]⟩ (fun n z => z0o φ n z.1 z.2.1 z.2.2.1 z.2.2.2.1) (fun zk8 => (.seq .x (.seq (.body (.seq .x (.body (.loop ⟨[(96, [(0, .val 38), (2, .val 5), (4, .ptr 0 0), (7, .val 0), (8, .val 0)])], [.box 46 [.val 49]]⟩ (fun n z => z0h φ (fun a0 a1 a2 a3 => zk8 (a0, a1, a2, a3, ())) n z.1 z.2.1 z.2.2.1 z.2.2.2.1 z.2.2.2.2.1) (fun zk14 => .x))))) .x)))))) .x))
def z68 (P : Program) (φ : Nat) : Env TV := ⟨P, lk [(55, zbk φ)], lk [], lk []⟩
theorem zf2 (φ : Nat) (a) : (z5w φ).F a = fnX TV (z68 Tryz.prog φ) φ Tryz.f28 [38, 49, 5] [.val 2] (z3i φ) a := by kernel_rfl
theorem zf5 (φ : Nat) : fnO TV (z68 Tryz.prog φ) φ Tryz.f28 [.val 2] (z3i φ) := by
  unfold fnO
  show obl _ _ _ _ _ _ _
  unfold z3i
  repeat' (first | exact trivial | (refine ⟨?_, ?_⟩) | (intro _) | kernel_rfl)
theorem zfa (φ : Nat) : z1i TV Tryz.prog 28 (z5w φ) :=
  z1v (N := z68 Tryz.prog φ) (z03 ⟨zni φ, trivial⟩ trivial trivial) (z3i φ) Tryz.func28 (by kernel_rfl) (zf2 φ) (zf5 φ)
def z2d (φ : Nat) : H TV (RTup TT [.val 2]) := (.seq .x (.seq .x (.seq .x (.seq .x (.seq .x (.seq .x (.seq .x (.seq (.seq .x (.body (.loop ⟨[(134, [(1, .val 38), (2, .ptr 0 0), (5, .ptr 1 0), (7, .val 5), (9, .val 0)])], [.box 36 [.val 30], .box 46 [.val 49]]⟩ (fun n z => zx φ n z.1 z.2.1 z.2.2.1 z.2.2.2.1 z.2.2.2.2.1) (fun zk13 => .x)))) .x))))))))
def z3n (P : Program) (φ : Nat) : Env TV := ⟨P, lk [(8, zbo φ), (9, zcl φ), (26, z60 φ), (10, z7k φ), (24, zb7 φ), (27, z3m φ), (28, z5w φ)], lk [], lk []⟩
theorem zcc (φ : Nat) (a) : (z2e φ).F a = fnX TV (z3n Tryz.prog φ) φ Tryz.f6 [30, 38] [.val 2] (z2d φ) a := by kernel_rfl
theorem zc8 (φ : Nat) : fnO TV (z3n Tryz.prog φ) φ Tryz.f6 [.val 2] (z2d φ) := by
  unfold fnO
  show obl _ _ _ _ _ _ _
  unfold z2d
  repeat' (first | exact trivial | (refine ⟨?_, ?_⟩) | (intro _) | kernel_rfl)
theorem zc7 (φ : Nat) : z1i TV Tryz.prog 6 (z2e φ) :=
  z1v (N := z3n Tryz.prog φ) (z03 ⟨zmz φ, zov φ, zfb φ, zdp φ, zns φ, z9h φ, zfa φ, trivial⟩ trivial trivial) (z2d φ) Tryz.func6 (by kernel_rfl) (zcc φ) (zc8 φ)
end Px
end
section
namespace Px
open Go
set_option linter.unusedVariables false
set_option linter.unusedSimpArgs false
theorem z1z (φ : Nat) (a b c : Int) : zh φ a b c = some (bet a b c, ()) := rfl
def zgu (t : z1o) : Bool :=
  bet t.load 0 1000000 && bet t.tare 0 1000000 && bet t.length 0 1000000 && bet t.brake 0 1000000 && bet t.gauge 0 7 && bet t.life 1 1073741824 && bet t.floor 0 100
def zcy (n : Int) (w : ziv) : Bool :=
  bet w.type_ 0 (n - 1) && bet w.owner 0 63 && bet w.home 0 511 && bet w.built 0 1073741824 && bet w.worth 0 1099511627776
def zj7 (n : Int) (s : Swap) : Bool := bet s.wanted 0 (n - 1) && bet s.given 0 (n - 1) && (s.wanted != s.given) && bet s.cost 0 1000000000
def zse (w : Wash) : Bool := bet w.from_ 0 63 && bet w.to 0 63 && (w.from_ != w.to) && bet w.minutes 0 100000
def keyW (w : Wash) : Int := 64 * w.from_ + w.to
def z4p (l : List Wash) (i : Nat) : Bool := zse (gt l (i : Int)) && !(l.take i).any fun v => keyW v == keyW (gt l (i : Int))
def z8i (l : List Wash) : Bool := (List.range l.length).all (z4p l)
/-- What Check answers. -/
def z4y (x : z9e) : Int :=
  bif decide (32 < x.types.length) || decide (4096 < x.wagons.length) || decide (1024 < x.swaps.length) || decide (4096 < x.washes.length) then 2 else
  bif x.types.all zgu && x.wagons.all (zcy x.types.length) && x.swaps.all (zj7 x.types.length) && z8i x.washes then 0 else 1
theorem zcg (p : Nat → Bool) (i : Nat) : (List.range (i + 1)).all p = ((List.range i).all p && p i) := by
  rw [List.range_succ, List.all_append]; simp
theorem zew (φ : Nat) (x : z9e) (hl : x.swaps.length ≤ 1024) (ht : x.types.length ≤ 32) :
    ∀ n s, x.swaps.length < n → z0c φ n x.swaps (x.swaps.length : Int) 0 x s = zj φ φ x.washes (x.washes.length : Int) 0 (bif x.swaps.all (zj7 (x.types.length : Int)) then s else 1) (fun _ => default) := by
  have hp : W ((x.types.length : Int) - 1) = (x.types.length : Int) - 1 := W_id (by omega) (by omega)
  refine zgj (fun n i s => z0c φ n x.swaps (x.swaps.length : Int) i x s) (fun s => zj φ φ x.washes (x.washes.length : Int) 0 s (fun _ => default)) _ _ ?_ ?_
  · intro n i s hi
    have hW : W ((i : Int) + 1) = (i : Int) + 1 := W_id (by omega) (by omega)
    rw [z0c, if_pos (by simp; omega), z6 ⟨by omega, by omega⟩]
    simp only [z1z, Option.bind_some, zj7, z1p, hW, hp]
    cases bet (gt x.swaps i).wanted 0 ((x.types.length : Int) - 1) <;> cases bet (gt x.swaps i).given 0 ((x.types.length : Int) - 1) <;> cases ((gt x.swaps i).wanted != (gt x.swaps i).given) <;>
      cases bet (gt x.swaps i).cost 0 1000000000 <;> rfl
  · intro n s
    rw [z0c, if_neg (by simp)]
theorem zdd (φ : Nat) (x : z9e) (hl : x.wagons.length ≤ 4096) (ht : x.types.length ≤ 32) :
    ∀ n s, x.wagons.length < n → zu φ n x.wagons (x.wagons.length : Int) 0 x s = z0c φ φ x.swaps (x.swaps.length : Int) 0 x (bif x.wagons.all (zcy (x.types.length : Int)) then s else 1) := by
  have hp : W ((x.types.length : Int) - 1) = (x.types.length : Int) - 1 := W_id (by omega) (by omega)
  refine zgj (fun n i s => zu φ n x.wagons (x.wagons.length : Int) i x s) (fun s => z0c φ φ x.swaps (x.swaps.length : Int) 0 x s) _ _ ?_ ?_
  · intro n i s hi
    have hW : W ((i : Int) + 1) = (i : Int) + 1 := W_id (by omega) (by omega)
    rw [zu, if_pos (by simp; omega), z6 ⟨by omega, by omega⟩]
    simp only [z1z, Option.bind_some, zcy, z1p, hW, hp]
    cases bet (gt x.wagons i).type_ 0 ((x.types.length : Int) - 1) <;> cases bet (gt x.wagons i).owner 0 63 <;> cases bet (gt x.wagons i).home 0 511 <;>
      cases bet (gt x.wagons i).built 0 1073741824 <;> cases bet (gt x.wagons i).worth 0 1099511627776 <;> rfl
  · intro n s
    rw [zu, if_neg (by simp)]
theorem zg3 (φ : Nat) (k : List z1o → Int → Int → z9e → Int → Option (Int × Unit)) (ts : List z1o) (len i : Int) (x : z9e) (t : z1o) (n : Nat) (s : Int) (hn : 4 < n) :
    z12 φ k n ts len i 4 0 x s t [t.load, t.tare, t.length, t.brake] = k ts len (W (i + 1)) x (bif zgu t then s else 1) := by
  have h := zgj (fun n j s => z12 φ k n ts len i 4 j x s t [t.load, t.tare, t.length, t.brake]) (fun s => k ts len (W (i + 1)) x (bif (bet t.gauge 0 7 && bet t.life 1 1073741824 && bet t.floor 0 100) then s else 1))
    [t.load, t.tare, t.length, t.brake] (fun a => bet a 0 1000000) (fun n j s hi => by
      rw [z12, if_pos (by simp at hi ⊢; omega), z6 ⟨by omega, by omega⟩]
      simp at hi
      have hW : W ((j : Int) + 1) = (j : Int) + 1 := W_id (by omega) (by omega)
      simp only [z1z, Option.bind_some, hW]
      cases bet (gt [t.load, t.tare, t.length, t.brake] (j : Int)) 0 1000000 <;> rfl) (fun n s => by
      rw [z12, if_neg (by simp)]
      simp only [z1z, Option.bind_some, z1p]
      cases bet t.gauge 0 7 <;> cases bet t.life 1 1073741824 <;> cases bet t.floor 0 100 <;> rfl) n s hn
  rw [h]
  simp only [zgu, List.all_cons, List.all_nil]
  cases bet t.load 0 1000000 <;> cases bet t.tare 0 1000000 <;> cases bet t.length 0 1000000 <;> cases bet t.brake 0 1000000 <;>
      cases bet t.gauge 0 7 <;> cases bet t.life 1 1073741824 <;> cases bet t.floor 0 100 <;> rfl
theorem zf1 (φ : Nat) (hφ : 4 < φ) (x : z9e) (hl : x.types.length ≤ 32) :
    ∀ n s, x.types.length < n → z29 φ n x.types (x.types.length : Int) 0 x s = zu φ φ x.wagons (x.wagons.length : Int) 0 x (bif x.types.all zgu then s else 1) := by
  refine zgj (fun n i s => z29 φ n x.types (x.types.length : Int) i x s) (fun s => zu φ φ x.wagons (x.wagons.length : Int) 0 x s) _ _ ?_ ?_
  · intro n i s hi
    rw [z29, if_pos (by simp; omega), z6 ⟨by omega, by omega⟩]
    have hW : W ((i : Int) + 1) = (i : Int) + 1 := W_id (by omega) (by omega)
    refine (zg3 φ _ x.types (x.types.length : Int) (i : Int) x (gt x.types i) φ s hφ).trans ?_
    rw [hW]
  · intro n s
    rw [z29, if_neg (by simp)]
theorem zdn (φ : Nat) (x : z9e) (hl : x.washes.length ≤ 4096) (n : Nat) (s : Int) (hn : x.washes.length < n) :
    zj φ n x.washes (x.washes.length : Int) 0 s (fun _ => default) = some (bif z8i x.washes then s else 1, ()) := by
  refine zy (fun n i (t : Int × (Nat → Bool)) => zj φ n x.washes (x.washes.length : Int) i t.1 t.2) x.washes.length
    (fun i t => t.1 = (bif (List.range i).all (z4p x.washes) then s else 1) ∧ ((List.range i).all (z4p x.washes) = true → ∀ j : Nat, t.2 j = (x.washes.take i).any fun v => keyW v == (j : Int)))
    (fun o => o = some (bif z8i x.washes then s else 1, ())) ?_ ?_ n (s, fun _ => false) ⟨by simp, by simp⟩ hn
  · intro n i t hi ⟨h1, h2⟩ hs
    have hW : W ((i : Int) + 1) = (i : Int) + 1 := W_id (by omega) (by omega)
    rw [zj, if_pos (by simp; omega), z6 ⟨by omega, by omega⟩]
    simp only [z1z, Option.bind_some, z1p, hW]
    have hok : zse (gt x.washes i) = (bet (gt x.washes i).from_ 0 63 && bet (gt x.washes i).to 0 63 && ((gt x.washes i).from_ != (gt x.washes i).to) && bet (gt x.washes i).minutes 0 100000) := rfl
    have hsucc := zcg (z4p x.washes) i
    cases hw : zse (gt x.washes i) with
    | false =>
      have hf : (List.range (i + 1)).all (z4p x.washes) = false := by rw [hsucc]; simp [z4p, hw]
      have h3 : zj φ n x.washes (x.washes.length : Int) ((i : Int) + 1) 1 t.2 = some (bif z8i x.washes then s else 1, ()) := hs (1, t.2) ⟨by rw [hf]; rfl, by rw [hf]; intro h; cases h⟩
      rw [hw] at hok
      rw [← h3]
      generalize bet (gt x.washes i).from_ 0 63 = a at *; generalize bet (gt x.washes i).to 0 63 = b at *; generalize ((gt x.washes i).from_ != (gt x.washes i).to) = c at *; generalize bet (gt x.washes i).minutes 0 100000 = d at *
      cases a <;> cases b <;> cases c <;> cases d <;> first | (exact absurd hok (by decide)) | rfl
    | true =>
      rw [hw] at hok
      have hb := hok.symm
      simp only [Bool.and_eq_true] at hb
      obtain ⟨⟨⟨b1, b2⟩, b3⟩, b4⟩ := hb
      have c1 := zty b1; have c2 := zty b2
      simp only [b1, b2, b3, b4, Bool.and_self, if_true, Option.bind_some, Bool.not_true, Bool.false_eq_true, if_false]
      rw [z6 ⟨by omega, by omega⟩, z6 ⟨by omega, by omega⟩]
      have hkey : ((gt x.washes i).from_.toNat * 64 + (gt x.washes i).to.toNat : Nat) = (keyW (gt x.washes i)).toNat := by unfold keyW; omega
      have hk0 : ((keyW (gt x.washes i)).toNat : Int) = keyW (gt x.washes i) := by unfold keyW; omega
      have key : ∀ e, (e = bif (List.range (i + 1)).all (z4p x.washes) then s else 1) →
          zj φ n x.washes (x.washes.length : Int) ((i : Int) + 1) e (upd t.2 (keyW (gt x.washes i)).toNat true) = some (bif z8i x.washes then s else 1, ()) := by
        intro e he
        refine hs (e, _) ⟨he, fun hall j => ?_⟩
        rw [hsucc, Bool.and_eq_true] at hall
        rw [zds _ _ _ hi, ← h2 hall.1 j]
        show (if j = (keyW (gt x.washes i)).toNat then true else t.2 j) = _
        by_cases hj : j = (keyW (gt x.washes i)).toNat
        · simp [hj, hk0]
        · have : (keyW (gt x.washes i) == (j : Int)) = false := by
            simp; intro h; exact hj (by omega)
          simp [hj, this]
      have e64 : ∀ (p : Prop) [Decidable p] (y : Option (Int × Unit)), p → ck p y = y := fun p _ y hp => z6 hp
      rw [hkey]
      simp only [e64 _ _ (show (0 : Int) ≤ (gt x.washes i).from_ ∧ (gt x.washes i).from_ < 64 by omega), e64 _ _ (show (0 : Int) ≤ (gt x.washes i).to ∧ (gt x.washes i).to < 64 by omega)]
      cases hall : (List.range i).all (z4p x.washes) with
      | true =>
        have hat : z4p x.washes i = !(t.2 (keyW (gt x.washes i)).toNat) := by
          rw [h2 hall]; simp only [z4p, hw, Bool.true_and, hk0]
        cases ht2 : t.2 (keyW (gt x.washes i)).toNat with
        | true =>
          simp only [Bool.not_true, Bool.not_false, if_true]
          refine key 1 ?_
          rw [hsucc, hat, ht2]; simp
        | false =>
          simp only [Bool.not_true, Bool.not_false, Bool.false_eq_true, if_false]
          refine key t.1 ?_
          rw [hsucc, hat, ht2, h1, hall]; simp
      | false =>
        have hf : (List.range (i + 1)).all (z4p x.washes) = false := by rw [hsucc, hall]; rfl
        have ht1 : t.1 = 1 := by rw [h1, hall]; rfl
        rw [ht1]
        split <;> exact key 1 (by rw [hf]; rfl)
  · intro n t ⟨h1, _⟩
    rw [zj, if_neg (by simp), h1]; rfl
theorem zix (φ : Nat) (hφ : 5000 < φ) (x : z9e) : z9q φ x = some (z4y x, ()) := by
  have e : (((decide (32 < (x.types.length : Int)) || decide (4096 < (x.wagons.length : Int))) || decide (1024 < (x.swaps.length : Int))) || decide (4096 < (x.washes.length : Int))) =
      (decide (32 < x.types.length) || decide (4096 < x.wagons.length) || decide (1024 < x.swaps.length) || decide (4096 < x.washes.length)) := by
    congr 1
    · congr 1
      · congr 1 <;> (apply decide_eq_decide.2; omega)
      · apply decide_eq_decide.2; omega
    · apply decide_eq_decide.2; omega
  unfold z9q z4y
  rw [e]
  cases h : (decide (32 < x.types.length) || decide (4096 < x.wagons.length) || decide (1024 < x.swaps.length) || decide (4096 < x.washes.length)) with
  | true => rfl
  | false =>
    simp only [Bool.or_eq_false_iff, decide_eq_false_iff_not, Nat.not_lt] at h
    obtain ⟨⟨⟨h1, h2⟩, h3⟩, h4⟩ := h
    rw [if_neg (by simp), zf1 φ (by omega) x h1 _ _ (by omega), zdd _ _ h2 h1 _ _ (by omega), zew _ _ h3 h1 _ _ (by omega), zdn _ _ h4 _ _ (by omega)]
    cases x.types.all zgu <;> cases x.wagons.all (zcy x.types.length) <;> cases x.swaps.all (zj7 x.types.length) <;> cases z8i x.washes <;> rfl
theorem z82 {x : z9e} (h : z4y x = 0) : x.types.length ≤ 32 ∧ x.wagons.length ≤ 4096 ∧ x.swaps.length ≤ 1024 ∧ x.washes.length ≤ 4096 ∧
    (∀ t ∈ x.types, zgu t = true) ∧ (∀ t ∈ x.wagons, zcy x.types.length t = true) ∧ (∀ t ∈ x.swaps, zj7 x.types.length t = true) ∧ z8i x.washes = true := by
  unfold z4y at h
  cases h1 : (decide (32 < x.types.length) || decide (4096 < x.wagons.length) || decide (1024 < x.swaps.length) || decide (4096 < x.washes.length)) with
  | true => rw [h1] at h; cases h
  | false =>
    rw [h1] at h
    simp only [Bool.or_eq_false_iff, decide_eq_false_iff_not, Nat.not_lt] at h1
    obtain ⟨⟨⟨a1, a2⟩, a3⟩, a4⟩ := h1
    cases h2 : (x.types.all zgu && x.wagons.all (zcy x.types.length) && x.swaps.all (zj7 x.types.length) && z8i x.washes) with
    | false => rw [h2] at h; cases h
    | true =>
      simp only [Bool.and_eq_true, List.all_eq_true] at h2
      exact ⟨a1, a2, a3, a4, h2.1.1.1, h2.1.1.2, h2.1.2, h2.2⟩
end Px
end
section
namespace Px
open Go
set_option linter.unusedVariables false
set_option linter.unusedSimpArgs false
theorem z6d {c : Int} (h : 0 ≤ c) (h' : c < 18446744073709551616) : (BitVec.ofInt 64 c).toNat = c.toNat := by
  rw [BitVec.toNat_ofInt]; omega
theorem y1a {n : Nat} (h : n < 18446744073709551616) : U (n : Int) = n := U_id (by omega) (by omega)
theorem zyy {a b : Nat} (h : a < 18446744073709551616) : a &&& b < 18446744073709551616 := Nat.lt_of_le_of_lt Nat.and_le_left h
theorem zxr {k : Nat} (h : k ≤ 63) : (2 ^ k : Nat) < 18446744073709551616 := Nat.lt_of_lt_of_le (Nat.pow_lt_pow_right (by decide) (by omega : k < 64)) (by decide)
theorem y40 {c k : Int} (h : 0 ≤ c) (hk : 0 ≤ k) (hk' : k ≤ 63) : c.fdiv (2 ^ (min (k : Int).toNat (IntKind.bits .u64))) = ((c.toNat / 2 ^ k.toNat : Nat) : Int) := by
  have e : min (k : Int).toNat (IntKind.bits .u64) = k.toNat := by simp [IntKind.bits]; omega
  rw [e]
  have e2 : ((2 : Int) ^ k.toNat) = ((2 ^ k.toNat : Nat) : Int) := by simp
  rw [e2, Int.fdiv_eq_ediv_of_nonneg _ (Int.natCast_nonneg _)]
  have : c = (c.toNat : Int) := by omega
  rw [this]; simp
end Px
end
section
namespace Px
open Go
set_option linter.unusedVariables false
set_option linter.unusedSimpArgs false
set_option maxRecDepth 100000
theorem zs8 : ((List.range 256).all fun i => decide (0 ≤ z87 zl i ∧ z87 zl i ≤ 8 ∧ i < 2 ^ (z87 zl i).toNat ∧ (0 < i → 0 < z87 zl i ∧ 2 ^ ((z87 zl i).toNat - 1) ≤ i))) = true := by decide +kernel
theorem zi4 {i : Int} (h : 0 ≤ i) (h' : i < 256) : ∃ n : Nat, z87 zl i = n ∧ n ≤ 8 ∧ i.toNat < 2 ^ n ∧ (0 < i → 0 < n ∧ 2 ^ (n - 1) ≤ i.toNat) := by
  have := List.all_eq_true.1 zs8 i.toNat (by simp; omega)
  rw [decide_eq_true_eq, show ((i.toNat : Nat) : Int) = i by omega] at this
  obtain ⟨a, b, c, d⟩ := this
  exact ⟨(z87 zl i).toNat, by omega, by omega, c, fun hi => ⟨by have := (d (by omega)).1; omega, (d (by omega)).2⟩⟩
/-- How many bits. -/
def z5q (v : Nat) (n : Nat) : Prop := v < 2 ^ n ∧ (0 < v → 0 < n ∧ 2 ^ (n - 1) ≤ v)
theorem z5q.up {v : Nat} (k : Nat) {n : Nat} (h : z5q (v / 2 ^ k) n) (hv : 2 ^ k ≤ v) : z5q v (n + k) := by
  have hp := Nat.two_pow_pos k
  have hpos : 0 < v / 2 ^ k := Nat.div_pos hv hp
  obtain ⟨h1, h2⟩ := h
  obtain ⟨h3, h4⟩ := h2 hpos
  refine ⟨?_, fun _ => ⟨by omega, ?_⟩⟩
  · rw [Nat.pow_add]; exact (Nat.div_lt_iff_lt_mul hp).1 h1
  · have : n + k - 1 = (n - 1) + k := by omega
    rw [this, Nat.pow_add]; exact (Nat.le_div_iff_mul_le hp).1 h4
theorem zu9 (φ : Nat) (v w : Int) (h : 0 ≤ v) (h' : v < 256) (hw : 0 ≤ w) (hw' : w ≤ 64) : ∃ n : Nat, z0n φ v w = some (64 - (w + n), ()) ∧ n ≤ 8 ∧ z5q v.toNat n := by
  obtain ⟨n, e, hn, a, b⟩ := zi4 h h'
  have e8 : IntKind.wrap .u8 v = v := by simp [IntKind.wrap, IntKind.bits, IntKind.signed]; omega
  refine ⟨n, ?_, hn, a, fun hv => b (by omega)⟩
  unfold z0n
  rw [e8, z6 ⟨h, h'⟩, e, W_id (x := (n : Int)) (by omega) (by omega), W_id (x := w + n) (by omega) (by omega), W_id (by omega) (by omega)]
theorem sh8 (v : Int) : v.fdiv (2 ^ (min (8 : Int).toNat 64)) = v / 256 := by rw [show ((2 : Int) ^ (min (8 : Int).toNat 64)) = 256 by decide]; exact Int.fdiv_eq_ediv_of_nonneg _ (by omega)
theorem sh16 (v : Int) : v.fdiv (2 ^ (min (16 : Int).toNat 64)) = v / 65536 := by rw [show ((2 : Int) ^ (min (16 : Int).toNat 64)) = 65536 by decide]; exact Int.fdiv_eq_ediv_of_nonneg _ (by omega)
theorem sh32 (v : Int) : v.fdiv (2 ^ (min (32 : Int).toNat 64)) = v / 4294967296 := by rw [show ((2 : Int) ^ (min (32 : Int).toNat 64)) = 4294967296 by decide]; exact Int.fdiv_eq_ediv_of_nonneg _ (by omega)
theorem zzi (φ : Nat) (v w : Int) (h : 0 ≤ v) (h' : v < 65536) (hw : 0 ≤ w) (hw' : w ≤ 48) : ∃ n : Nat, z0v φ v w = some (64 - (w + n), ()) ∧ n ≤ 16 ∧ z5q v.toNat n := by
  unfold z0v
  by_cases c : 256 ≤ v
  · rw [if_pos (by simpa using c), if_pos (by decide), sh8, W_id (by omega) (by omega)]
    obtain ⟨n, e, hn, hl⟩ := zu9 φ (v / 256) (w + 8) (by omega) (by omega) (by omega) (by omega)
    refine ⟨n + 8, by rw [e]; congr 2; omega, by omega, ?_⟩
    refine z5q.up 8 ?_ (by omega)
    rwa [show v.toNat / 2 ^ 8 = (v / 256).toNat by omega]
  · rw [if_neg (by simpa using c)]
    obtain ⟨n, e, hn, hl⟩ := zu9 φ v w h (by omega) (by omega) (by omega)
    exact ⟨n, e, by omega, hl⟩
theorem zzh (φ : Nat) (v w : Int) (h : 0 ≤ v) (h' : v < 4294967296) (hw : 0 ≤ w) (hw' : w ≤ 32) : ∃ n : Nat, z0t φ v w = some (64 - (w + n), ()) ∧ n ≤ 32 ∧ z5q v.toNat n := by
  unfold z0t
  by_cases c : 65536 ≤ v
  · rw [if_pos (by simpa using c), if_pos (by decide), sh16, W_id (by omega) (by omega)]
    obtain ⟨n, e, hn, hl⟩ := zzi φ (v / 65536) (w + 16) (by omega) (by omega) (by omega) (by omega)
    refine ⟨n + 16, by rw [e]; congr 2; omega, by omega, ?_⟩
    refine z5q.up 16 ?_ (by omega)
    rwa [show v.toNat / 2 ^ 16 = (v / 65536).toNat by omega]
  · rw [if_neg (by simpa using c)]
    obtain ⟨n, e, hn, hl⟩ := zzi φ v w h (by omega) (by omega) (by omega)
    exact ⟨n, e, by omega, hl⟩
theorem y4k (φ : Nat) (v : Int) (h : 0 ≤ v) (h' : v < 18446744073709551616) : ∃ n : Nat, z1n φ v = some (64 - (n : Int), ()) ∧ n ≤ 64 ∧ z5q v.toNat n := by
  unfold z1n
  by_cases c : 4294967296 ≤ v
  · rw [if_pos (by simpa using c), if_pos (by decide), sh32]
    obtain ⟨n, e, hn, hl⟩ := zzh φ (v / 4294967296) 32 (by omega) (by omega) (by omega) (by omega)
    refine ⟨n + 32, by rw [e]; congr 2; omega, by omega, ?_⟩
    refine z5q.up 32 ?_ (by omega)
    rwa [show v.toNat / 2 ^ 32 = (v / 4294967296).toNat by omega]
  · rw [if_neg (by simpa using c)]
    obtain ⟨n, e, hn, hl⟩ := zzh φ v 0 h (by omega) (by omega) (by omega)
    exact ⟨n, by rw [e]; simp, by omega, hl⟩
theorem zho {v : Int} (h : 0 ≤ v) (h' : v < 18446744073709551616) : U ((BitVec.ofInt 64 v &&& BitVec.ofInt 64 4294967295).toNat) = v % 4294967296 := by
  show U ((BitVec.ofInt 64 v &&& BitVec.ofInt 64 4294967295).toNat : Int) = _
  rw [BitVec.toNat_and, z6d h h', z6d (by omega) (by omega), y1a (zyy (by omega))]
  have : (4294967295 : Int).toNat = 2 ^ 32 - 1 := by decide
  rw [this, Nat.and_two_pow_sub_one_eq_mod]
  omega
theorem zh7 {a b m n : Int} (ha : 0 ≤ a) (hb : 0 ≤ b) (h : a ≤ m) (h' : b ≤ n) : 0 ≤ a * b ∧ a * b ≤ m * n :=
  ⟨Int.mul_nonneg ha hb, Int.mul_le_mul h h' hb (by omega)⟩
theorem zpn (φ : Nat) (x y : Int) (hx : 0 ≤ x) (hx' : x < 18446744073709551616) (hy : 0 ≤ y) (hy' : y < 18446744073709551616) :
    z4h φ x y = some (x * y / 18446744073709551616, x * y % 18446744073709551616, ()) := by
  unfold z4h
  simp only [show (0 : Int) ≤ 32 by decide, if_true]
  rw [zho hx hx', zho hy hy']
  simp only [sh32]
  have ex : x = x / 4294967296 * 4294967296 + x % 4294967296 := by omega
  have ey : y = y / 4294967296 * 4294967296 + y % 4294967296 := by omega
  have a1 : 0 ≤ x / 4294967296 ∧ x / 4294967296 ≤ 4294967295 := by omega
  have a0 : 0 ≤ x % 4294967296 ∧ x % 4294967296 ≤ 4294967295 := by omega
  have b1 : 0 ≤ y / 4294967296 ∧ y / 4294967296 ≤ 4294967295 := by omega
  have b0 : 0 ≤ y % 4294967296 ∧ y % 4294967296 ≤ 4294967295 := by omega
  have hxy : x * y = (x / 4294967296) * (y / 4294967296) * 18446744073709551616 + ((x / 4294967296) * (y % 4294967296) + (x % 4294967296) * (y / 4294967296)) * 4294967296 + (x % 4294967296) * (y % 4294967296) := by
    conv => lhs; rw [ex, ey]
    generalize x / 4294967296 = a; generalize x % 4294967296 = b; generalize y / 4294967296 = c; generalize y % 4294967296 = d
    rw [Int.add_mul, Int.mul_add, Int.mul_add, Int.add_mul]
    have e1 : a * 4294967296 * (c * 4294967296) = a * c * 18446744073709551616 := by
      rw [Int.mul_assoc, Int.mul_left_comm 4294967296 c, ← Int.mul_assoc]; rfl
    have e2 : a * 4294967296 * d = a * d * 4294967296 := by rw [Int.mul_right_comm]
    have e3 : b * (c * 4294967296) = b * c * 4294967296 := by rw [Int.mul_assoc]
    rw [e1, e2, e3]; omega
  have p11 := zh7 a1.1 b1.1 a1.2 b1.2
  have p10 := zh7 a1.1 b0.1 a1.2 b0.2
  have p01 := zh7 a0.1 b1.1 a0.2 b1.2
  have p00 := zh7 a0.1 b0.1 a0.2 b0.2
  rw [zvu (x * y), hxy]
  generalize (x / 4294967296) * (y / 4294967296) = p at *; generalize (x / 4294967296) * (y % 4294967296) = q at *
  generalize (x % 4294967296) * (y / 4294967296) = r at *; generalize (x % 4294967296) * (y % 4294967296) = s at *
  clear hxy ex ey a1 a0 b1 b0
  rw [U_id (x := p) (by omega) (by omega), U_id (x := q) (by omega) (by omega), U_id (x := r) (by omega) (by omega), U_id (x := s) (by omega) (by omega)]
  rw [U_id (x := q + s / 4294967296) (by omega) (by omega), zho (by omega) (by omega),
    U_id (x := (q + s / 4294967296) % 4294967296 + r) (by omega) (by omega), U_id (x := p + (q + s / 4294967296) / 4294967296) (by omega) (by omega), U_id (by omega) (by omega)]
  refine congrArg some (Prod.ext ?_ rfl)
  show _ = _
  omega
/-- One y2l of the quotient: what the two loops find. -/
theorem y2l {yn1 yn0 u d q r : Int} (h1 : 2147483648 ≤ yn1) (h1' : yn1 < 4294967296) (h0 : 0 ≤ yn0) (h0' : yn0 < 4294967296) (hd : 0 ≤ d) (hd' : d < 4294967296) (hu : 0 ≤ u)
    (hu' : u < yn1 * 4294967296 + yn0) (hqr : q * yn1 + r = u) (hr : 0 ≤ r) (hr' : r < 4294967296) (hq : (u * 4294967296 + d) / (yn1 * 4294967296 + yn0) ≤ q) :
    0 ≤ q ∧ q ≤ 4294967297 ∧ 0 ≤ (u * 4294967296 + d) / (yn1 * 4294967296 + yn0) ∧ (u * 4294967296 + d) / (yn1 * 4294967296 + yn0) < 4294967296 ∧
    (4294967296 ≤ q ∨ 4294967296 * r + d < q * yn0 → (u * 4294967296 + d) / (yn1 * 4294967296 + yn0) ≤ q - 1) ∧
    (¬ (4294967296 ≤ q ∨ 4294967296 * r + d < q * yn0) → q = (u * 4294967296 + d) / (yn1 * 4294967296 + yn0)) ∧
    (4294967296 ≤ q ∨ 4294967296 * r + d < q * yn0 → 4294967296 ≤ r + yn1 → q - 1 = (u * 4294967296 + d) / (yn1 * 4294967296 + yn0)) := by
  have hY : 0 < yn1 * 4294967296 + yn0 := by omega
  have hQ0 : 0 ≤ (u * 4294967296 + d) / (yn1 * 4294967296 + yn0) := Int.ediv_nonneg (by omega) (by omega)
  have hQ1 : (u * 4294967296 + d) / (yn1 * 4294967296 + yn0) < 4294967296 := Int.ediv_lt_of_lt_mul hY (by omega)
  have hq0 : 0 ≤ q := by omega
  have key : q * (yn1 * 4294967296 + yn0) = (u - r) * 4294967296 + q * yn0 := by
    rw [Int.mul_add, ← Int.mul_assoc, ← hqr]; omega
  have hq2 : q ≤ 4294967297 := by
    rcases Int.lt_or_le 4294967297 q with h | h
    · have : 4294967298 * yn1 ≤ q * yn1 := Int.mul_le_mul_of_nonneg_right (by omega) (by omega)
      omega
    · exact h
  have lt_of : ∀ {z : Int}, (u * 4294967296 + d) / (yn1 * 4294967296 + yn0) < z ↔ u * 4294967296 + d < z * (yn1 * 4294967296 + yn0) := fun {z} => Int.ediv_lt_iff_lt_mul hY
  refine ⟨hq0, hq2, hQ0, hQ1, fun h => ?_, fun h => ?_, fun h hr2 => ?_⟩
  · have : (u * 4294967296 + d) / (yn1 * 4294967296 + yn0) < q := by
      rcases h with h | h
      · omega
      · rw [lt_of, key]; omega
    omega
  · have : ¬ (u * 4294967296 + d) / (yn1 * 4294967296 + yn0) < q := by rw [lt_of, key]; omega
    omega
  · have hq1 : (u * 4294967296 + d) / (yn1 * 4294967296 + yn0) < q := by
      rcases h with h | h
      · omega
      · rw [lt_of, key]; omega
    have h2 : ¬ (u * 4294967296 + d) / (yn1 * 4294967296 + yn0) < q - 1 := by
      rw [lt_of]
      have e : (q - 1) * (yn1 * 4294967296 + yn0) = (u - (r + yn1)) * 4294967296 + (q - 1) * yn0 := by
        have : (q - 1) * yn1 + (r + yn1) = u := by rw [Int.sub_mul]; omega
        rw [Int.mul_add, ← Int.mul_assoc, ← this]; omega
      have b := (zh7 (by omega : 0 ≤ q - 1) h0 (by omega : q - 1 ≤ 4294967296) (by omega : yn0 ≤ 4294967295)).2
      rw [e]; omega
    omega
theorem mulB {a b : Int} (h : 0 ≤ a) (h' : a < 4294967296) (g : 0 ≤ b) (g' : b < 4294967296) : 0 ≤ a * b ∧ a * b ≤ 18446744065119617025 :=
  zh7 h g (by omega : a ≤ 4294967295) (by omega : b ≤ 4294967295)
theorem zjb {ρ : Type} (L : Nat → Int → Int → Option ρ) (k : Int → Option ρ) {yn1 yn0 u d : Int} (h1 : 2147483648 ≤ yn1) (h1' : yn1 < 4294967296) (h0 : 0 ≤ yn0) (h0' : yn0 < 4294967296) (hd : 0 ≤ d) (hd' : d < 4294967296) (hu : 0 ≤ u)
    (hu' : u < yn1 * 4294967296 + yn0)
    (step : ∀ n q r, L (n + 1) q r = if (decide (4294967296 ≤ q) || decide (U (U (4294967296 * r) + d) < U (q * yn0))) = true then (if decide (4294967296 ≤ U (r + yn1)) = true then k (U (q - 1)) else L n (U (q - 1)) (U (r + yn1))) else k q) :
    ∀ (n : Nat) q r, q * yn1 + r = u → 0 ≤ r → r < 4294967296 → (u * 4294967296 + d) / (yn1 * 4294967296 + yn0) ≤ q → 4294967296 - r ≤ 2147483648 * n → L (n + 1) q r = k ((u * 4294967296 + d) / (yn1 * 4294967296 + yn0)) := by
  intro n
  induction n with
  | zero => intro q r _ _ _ _ h; omega
  | succ n ih =>
    intro q r hqr hr hr' hq hn
    obtain ⟨g0, g1, g2, g3, g4, g5, g6⟩ := y2l h1 h1' h0 h0' hd hd' hu hu' hqr hr hr' hq
    have hc : (decide (4294967296 ≤ q) || decide (U (U (4294967296 * r) + d) < U (q * yn0))) = true ↔ (4294967296 ≤ q ∨ 4294967296 * r + d < q * yn0) := by
      rw [Bool.or_eq_true, decide_eq_true_eq, decide_eq_true_eq]
      by_cases hqB : 4294967296 ≤ q
      · simp [hqB]
      · have := mulB g0 (by omega : q < 4294967296) h0 h0'
        rw [U_id (x := 4294967296 * r) (by omega) (by omega), U_id (by omega) (by omega), U_id (by omega) (by omega)]
    rw [step]
    by_cases c : 4294967296 ≤ q ∨ 4294967296 * r + d < q * yn0
    · have a4 := g4 c
      rw [if_pos (hc.2 c), U_id (x := r + yn1) (by omega) (by omega), U_id (x := q - 1) (by omega) (by omega)]
      by_cases e : 4294967296 ≤ r + yn1
      · rw [if_pos (by simpa using e), g6 c e]
      · rw [if_neg (by simpa using e)]
        exact ih _ _ (by rw [Int.sub_mul]; omega) (by omega) (by omega) a4 (by omega)
    · rw [if_neg (fun h => c (hc.1 h)), ← g5 c]
/-- The first guess. -/
theorem zhc {yn1 yn0 u d : Int} (h1 : 2147483648 ≤ yn1) (h1' : yn1 < 4294967296) (h0 : 0 ≤ yn0) (h0' : yn0 < 4294967296) (hd : 0 ≤ d) (hd' : d < 4294967296) (hu : 0 ≤ u)
    (hu' : u < yn1 * 4294967296 + yn0) : U (u.tdiv yn1) = u / yn1 ∧ U (u - U (U (u.tdiv yn1) * yn1)) = u % yn1 ∧ u / yn1 * yn1 + u % yn1 = u ∧ 0 ≤ u % yn1 ∧ u % yn1 < 4294967296 ∧
    (u * 4294967296 + d) / (yn1 * 4294967296 + yn0) ≤ u / yn1 := by
  have e1 : u.tdiv yn1 = u / yn1 := Int.tdiv_eq_ediv_of_nonneg hu
  have hdm : u / yn1 * yn1 + u % yn1 = u := by have := Int.ediv_mul_add_emod u yn1; exact this
  have hm0 := Int.emod_nonneg u (by omega : yn1 ≠ 0)
  have hm1 := Int.emod_lt_of_pos u (by omega : 0 < yn1)
  have hq0 : 0 ≤ u / yn1 := Int.ediv_nonneg hu (by omega)
  have hq1 : u / yn1 ≤ u := Int.ediv_le_self _ hu
  have hqm : 0 ≤ u / yn1 * yn1 := Int.mul_nonneg hq0 (by omega)
  rw [e1, U_id hq0 (by omega), U_id (x := u / yn1 * yn1) (by omega) (by omega), U_id (by omega) (by omega)]
  refine ⟨rfl, by omega, hdm, hm0, by omega, ?_⟩
  have hY : 0 < yn1 * 4294967296 + yn0 := by omega
  have hQ0 : 0 ≤ (u * 4294967296 + d) / (yn1 * 4294967296 + yn0) := Int.ediv_nonneg (by omega) (by omega)
  have hQ := Int.ediv_mul_le (u * 4294967296 + d) (b := yn1 * 4294967296 + yn0) (by omega)
  generalize (u * 4294967296 + d) / (yn1 * 4294967296 + yn0) = z at *
  rw [Int.mul_add, ← Int.mul_assoc] at hQ
  have := Int.mul_nonneg hQ0 h0
  exact (Int.le_ediv_iff_mul_le (by omega)).2 (by omega)
theorem zzc (a b c : Int) : U (U (U a + b) - U c) = U (a + b - c) := by
  simp only [zvu]; omega
theorem y3p {a b : Int} {s : Nat} (hs : s ≤ 63) (ha : 0 ≤ a) (h : a * 2 ^ s < 18446744073709551616) (hb : 0 ≤ b) (hb' : b < 2 ^ s) :
    U ((BitVec.ofInt 64 (U (a * 2 ^ s)) ||| BitVec.ofInt 64 b).toNat) = a * 2 ^ s + b := by
  have hp : (0 : Int) < 2 ^ s := Int.pow_pos (by decide)
  have hn := Int.mul_nonneg ha (Int.le_of_lt hp)
  have hp2 : (2 : Int) ^ s = ((2 ^ s : Nat) : Int) := by simp
  have hlt : (2 ^ s : Nat) < 18446744073709551616 := zxr hs
  rw [U_id hn (by omega)]
  show U ((BitVec.ofInt 64 (a * 2 ^ s) ||| BitVec.ofInt 64 b).toNat : Int) = _
  have hlt2 := (BitVec.ofInt 64 (a * 2 ^ s) ||| BitVec.ofInt 64 b).isLt
  rw [y1a (by omega), BitVec.toNat_or, z6d hn h, z6d hb (by omega)]
  obtain ⟨n, rfl⟩ := Int.eq_ofNat_of_zero_le ha
  obtain ⟨m, rfl⟩ := Int.eq_ofNat_of_zero_le hb
  have e : ((n : Int) * 2 ^ s).toNat = 2 ^ s * n := by rw [hp2, ← Int.natCast_mul, Int.toNat_natCast, Nat.mul_comm]
  rw [e, Int.toNat_natCast, ← Nat.two_pow_add_eq_or_of_lt (by rw [hp2] at hb'; omega)]
  simp [Int.mul_comm]
theorem zfh (φ : Nat) (v : Int) (h : 0 < v) (h' : v < 18446744073709551616) : ∃ s : Nat, z1n φ v = some ((s : Int), ()) ∧ s ≤ 63 ∧
    9223372036854775808 ≤ v * 2 ^ s ∧ v * 2 ^ s < 18446744073709551616 ∧ v ≤ 2 ^ (64 - s) := by
  obtain ⟨n, e, hn, h1, h2⟩ := y4k φ v (by omega) h'
  obtain ⟨h3, h4⟩ := h2 (by omega)
  refine ⟨64 - n, ?_, by omega, ?_, ?_, ?_⟩
  · rw [e]; congr 2; omega
  · have : 2 ^ (n - 1) * 2 ^ (64 - n) ≤ v.toNat * 2 ^ (64 - n) := Nat.mul_le_mul_right _ h4
    rw [← Nat.pow_add, show n - 1 + (64 - n) = 63 by omega] at this
    have e2 : ((v.toNat * 2 ^ (64 - n) : Nat) : Int) = v * 2 ^ (64 - n) := by
      rw [Int.natCast_mul, Int.natCast_pow]; congr 1; omega
    omega
  · have : v.toNat * 2 ^ (64 - n) < 2 ^ n * 2 ^ (64 - n) := Nat.mul_lt_mul_of_pos_right h1 (Nat.two_pow_pos _)
    rw [← Nat.pow_add, show n + (64 - n) = 64 by omega] at this
    have e2 : ((v.toNat * 2 ^ (64 - n) : Nat) : Int) = v * 2 ^ (64 - n) := by
      rw [Int.natCast_mul, Int.natCast_pow]; congr 1; omega
    omega
  · rw [show 64 - (64 - n) = n by omega]
    have e2 : ((2 ^ n : Nat) : Int) = (2 : Int) ^ n := by simp
    omega
theorem zy6 (φ : Nat) (hφ : 5 < φ) (hi lo y : Int) (h0 : 0 ≤ hi) (hy : hi < y) (hy' : y < 18446744073709551616) (hl : 0 ≤ lo) (hl' : lo < 18446744073709551616) :
    z4k φ hi lo y = some ((hi * 18446744073709551616 + lo) / y, (hi * 18446744073709551616 + lo) % y, ()) := by
  unfold z4k
  rw [if_neg (by simp; omega), if_neg (by simp; omega)]
  by_cases hz : hi = 0
  · subst hz
    rw [if_pos (by simp), z6 (by omega), z6 (by omega), Int.tdiv_eq_ediv_of_nonneg hl, Int.tmod_eq_emod_of_nonneg hl, U_id (Int.ediv_nonneg hl (by omega)) (by have := Int.ediv_le_self y hl; omega)]
    simp
  rw [if_neg (by simpa using hz)]
  obtain ⟨s, es, hs, hY1, hY2, hyP⟩ := zfh φ y (by omega) hy'
  have em1 : min (s : Int).toNat 64 = s := by omega
  have em2 : min (64 - (s : Int)).toNat 64 = 64 - s := by omega
  have hp : (0 : Int) < 2 ^ s := Int.pow_pos (by decide)
  have hP : (0 : Int) < 2 ^ (64 - s) := Int.pow_pos (by decide)
  have hpP : (2 : Int) ^ s * 2 ^ (64 - s) = 18446744073709551616 := by rw [← Int.pow_add, show s + (64 - s) = 64 by omega]; rfl
  have hhp : hi * 2 ^ s < y * 2 ^ s := Int.mul_lt_mul_of_pos_right hy hp
  have hlP0 : 0 ≤ lo / 2 ^ (64 - s) := Int.ediv_nonneg hl (by omega)
  have hlP1 : lo / 2 ^ (64 - s) < 2 ^ s := Int.ediv_lt_of_lt_mul hP (by omega)
  have hh0 : 0 ≤ hi * 2 ^ s := Int.mul_nonneg h0 (by omega)
  -- the low word
  have hlo10 : U (lo * 2 ^ s) = lo % 2 ^ (64 - s) * 2 ^ s := by
    have e : lo = lo / 2 ^ (64 - s) * 2 ^ (64 - s) + lo % 2 ^ (64 - s) := (Int.ediv_mul_add_emod lo _).symm
    have e2 : lo * 2 ^ s = lo / 2 ^ (64 - s) * 18446744073709551616 + lo % 2 ^ (64 - s) * 2 ^ s := by
      conv => lhs; rw [e]
      rw [Int.add_mul, Int.mul_assoc, Int.mul_comm (2 ^ (64 - s)), hpP]
    have m0 := Int.emod_nonneg lo (by omega : (2 : Int) ^ (64 - s) ≠ 0)
    have m1 := Int.emod_lt_of_pos lo hP
    have m2 : lo % 2 ^ (64 - s) * 2 ^ s < 2 ^ (64 - s) * 2 ^ s := Int.mul_lt_mul_of_pos_right m1 hp
    have m3 := Int.mul_nonneg m0 (Int.le_of_lt hp)
    rw [Int.mul_comm (2 ^ (64 - s))] at m2
    rw [e2, zvu]; omega
  have hN : (hi * 2 ^ s + lo / 2 ^ (64 - s)) * 18446744073709551616 + lo % 2 ^ (64 - s) * 2 ^ s = (hi * 18446744073709551616 + lo) * 2 ^ s := by
    have e : lo = lo / 2 ^ (64 - s) * 2 ^ (64 - s) + lo % 2 ^ (64 - s) := (Int.ediv_mul_add_emod lo _).symm
    have e2 : lo * 2 ^ s = lo / 2 ^ (64 - s) * 18446744073709551616 + lo % 2 ^ (64 - s) * 2 ^ s := by
      conv => lhs; rw [e]
      rw [Int.add_mul, Int.mul_assoc, Int.mul_comm (2 ^ (64 - s)), hpP]
    have e3 : (hi * 18446744073709551616 + lo) * 2 ^ s = hi * 2 ^ s * 18446744073709551616 + lo * 2 ^ s := by rw [Int.add_mul, Int.mul_right_comm]
    rw [e3, e2]; omega
  have hun0 : 0 ≤ lo % 2 ^ (64 - s) * 2 ^ s := Int.mul_nonneg (Int.emod_nonneg lo (by omega)) (by omega)
  have hun1 : lo % 2 ^ (64 - s) * 2 ^ s < 18446744073709551616 := by
    rw [← hlo10, zvu]; omega
  have hu' : hi * 2 ^ s + lo / 2 ^ (64 - s) < y * 2 ^ s := by
    have : (hi + 1) * 2 ^ s ≤ y * 2 ^ s := Int.mul_le_mul_of_nonneg_right (by omega) (by omega)
    rw [Int.add_mul] at this; omega
  have hs1 : U (s : Int) = s := U_id (by omega) (by omega)
  have hs2 : U (64 - (s : Int)) = 64 - (s : Int) := U_id (by omega) (by omega)
  have ef : lo.fdiv (2 ^ (64 - s)) = lo / 2 ^ (64 - s) := Int.fdiv_eq_ediv_of_nonneg _ (by omega)
  have eor := y3p hs h0 (by omega : hi * 2 ^ s < 18446744073709551616) hlP0 hlP1
  obtain ⟨Y, hYd⟩ : ∃ Y, Y = y * 2 ^ s := ⟨_, rfl⟩
  have eY : U (y * 2 ^ s) = Y := by rw [hYd]; exact U_id (by omega) (by omega)
  obtain ⟨u, hud⟩ : ∃ u, u = hi * 2 ^ s + lo / 2 ^ (64 - s) := ⟨_, rfl⟩
  obtain ⟨w, hwd⟩ : ∃ w, w = lo % 2 ^ (64 - s) * 2 ^ s := ⟨_, rfl⟩
  rw [← hwd] at hlo10 hN hun0 hun1
  rw [← hud] at hN hu' eor
  rw [← hYd] at hu' hY1 hY2 hhp
  have hu0 : 0 ≤ u := by omega
  have fY : Y.fdiv 4294967296 = Y / 4294967296 := Int.fdiv_eq_ediv_of_nonneg _ (by omega)
  have fw : w.fdiv 4294967296 = w / 4294967296 := Int.fdiv_eq_ediv_of_nonneg _ (by omega)
  have mY := zho (v := Y) (by omega) (by omega)
  have mw := zho (v := w) (by omega) (by omega)
  have b1 : 2147483648 ≤ Y / 4294967296 ∧ Y / 4294967296 < 4294967296 ∧ 0 ≤ Y % 4294967296 ∧ Y % 4294967296 < 4294967296 := by omega
  have b2 : 0 ≤ w / 4294967296 ∧ w / 4294967296 < 4294967296 ∧ 0 ≤ w % 4294967296 ∧ w % 4294967296 < 4294967296 := by omega
  have eYs : Y / 4294967296 * 4294967296 + Y % 4294967296 = Y := by omega
  obtain ⟨m, rfl⟩ : ∃ m, φ = m + 3 := ⟨φ - 3, by omega⟩
  rw [es]
  simp only [Option.bind_some, hs1, hs2, em1, em2, sh32, eY, hlo10, mY, mw, ef, eor, show (0 : Int) ≤ 32 by decide, if_true]
  rw [z6 (by omega), z6 (by omega), z6 (by omega), z6 (by omega), z6 (by omega)]
  obtain ⟨i1, i2, i3, i4, i5, i6⟩ := zhc (u := u) (d := w / 4294967296) b1.1 b1.2.1 b1.2.2.1 b1.2.2.2 b2.1 b2.2.1 hu0 (by omega)
  rw [i1] at i2 ⊢
  rw [i2]
  refine (zjb (fun n q r => z3t (m + 3) n Y s (Y / 4294967296) (Y % 4294967296) u (w / 4294967296) (w % 4294967296) q r) (fun q => z42 (m + 3) Y s (Y / 4294967296) (Y % 4294967296) u (w / 4294967296) (w % 4294967296) q)
    b1.1 b1.2.1 b1.2.2.1 b1.2.2.2 b2.1 b2.2.1 hu0 (by omega) (fun n q r => by rw [z3t]) (m + 2) _ _ i3 i4 i5 i6 (by omega)).trans ?_
  rw [eYs]
  unfold z42
  rw [z6 (by omega)]
  have hQ1 : 0 ≤ (u * 4294967296 + w / 4294967296) / Y ∧ (u * 4294967296 + w / 4294967296) / Y < 4294967296 := ⟨Int.ediv_nonneg (by omega) (by omega), Int.ediv_lt_of_lt_mul (by omega) (by omega)⟩
  have hR1 := Int.ediv_mul_add_emod (u * 4294967296 + w / 4294967296) Y
  have hR1a := Int.emod_nonneg (u * 4294967296 + w / 4294967296) (by omega : Y ≠ 0)
  have hR1b := Int.emod_lt_of_pos (u * 4294967296 + w / 4294967296) (by omega : 0 < Y)
  generalize (u * 4294967296 + w / 4294967296) / Y = q1 at *
  generalize (u * 4294967296 + w / 4294967296) % Y = r1 at *
  have eu21 : U (U (U (u * 4294967296) + w / 4294967296) - U (q1 * Y)) = r1 := by
    rw [zzc, show u * 4294967296 + w / 4294967296 - q1 * Y = r1 by omega]; exact U_id hR1a (by omega)
  rw [eu21]
  obtain ⟨j1, j2, j3, j4, j5, j6⟩ := zhc (u := r1) (d := w % 4294967296) b1.1 b1.2.1 b1.2.2.1 b1.2.2.2 b2.2.2.1 b2.2.2.2 hR1a (by omega)
  rw [j1] at j2 ⊢
  rw [j2]
  refine (zjb (fun n q r => z3v (m + 3) n Y s (Y / 4294967296) (Y % 4294967296) (w % 4294967296) q1 r r1 q) (fun q => z43 (m + 3) Y s (w % 4294967296) q1 r1 q)
    b1.1 b1.2.1 b1.2.2.1 b1.2.2.2 b2.2.2.1 b2.2.2.2 hR1a (by omega) (fun n q r => by rw [z3v]) (m + 2) _ _ j3 j4 j5 j6 (by omega)).trans ?_
  rw [eYs]
  unfold z43
  rw [em1, z6 (by omega)]
  have hQ0 : 0 ≤ (r1 * 4294967296 + w % 4294967296) / Y ∧ (r1 * 4294967296 + w % 4294967296) / Y < 4294967296 := ⟨Int.ediv_nonneg (by omega) (by omega), Int.ediv_lt_of_lt_mul (by omega) (by omega)⟩
  have hR0 := Int.ediv_mul_add_emod (r1 * 4294967296 + w % 4294967296) Y
  have hR0a := Int.emod_nonneg (r1 * 4294967296 + w % 4294967296) (by omega : Y ≠ 0)
  have hR0b := Int.emod_lt_of_pos (r1 * 4294967296 + w % 4294967296) (by omega : 0 < Y)
  generalize (r1 * 4294967296 + w % 4294967296) / Y = q0 at *
  generalize (r1 * 4294967296 + w % 4294967296) % Y = r0 at *
  rw [zzc, show r1 * 4294967296 + w % 4294967296 - q0 * Y = r0 by omega, U_id (x := r0) hR0a (by omega), U_id (x := q1 * 4294967296) (by omega) (by omega), U_id (by omega) (by omega), Int.fdiv_eq_ediv_of_nonneg _ (by omega)]
  have hall : (hi * 18446744073709551616 + lo - (q1 * 4294967296 + q0) * y) * 2 ^ s = r0 := by
    rw [Int.sub_mul, ← hN, Int.mul_assoc, ← hYd, Int.add_mul, Int.mul_right_comm]; omega
  have hz0 : 0 ≤ hi * 18446744073709551616 + lo - (q1 * 4294967296 + q0) * y := by
    rcases Int.lt_or_le (hi * 18446744073709551616 + lo - (q1 * 4294967296 + q0) * y) 0 with h | h
    · have := Int.mul_neg_of_neg_of_pos h hp; omega
    · exact h
  have hz1 : hi * 18446744073709551616 + lo - (q1 * 4294967296 + q0) * y < y := by
    refine Int.lt_of_mul_lt_mul_right (a := 2 ^ s) ?_ (by omega)
    rw [hall, ← hYd]; exact hR0b
  have hr0 : r0 / 2 ^ s = hi * 18446744073709551616 + lo - (q1 * 4294967296 + q0) * y := by
    rw [← hall]; exact Int.mul_ediv_cancel _ (by omega)
  have hdm : (hi * 18446744073709551616 + lo) / y = q1 * 4294967296 + q0 ∧ (hi * 18446744073709551616 + lo) % y = hi * 18446744073709551616 + lo - (q1 * 4294967296 + q0) * y :=
    (Int.ediv_emod_unique (by omega)).2 ⟨by rw [Int.mul_comm y]; omega, hz0, hz1⟩
  rw [hr0, hdm.1, hdm.2]
end Px
end
section
namespace Px
open Go
set_option linter.unusedVariables false
set_option linter.unusedSimpArgs false
set_option maxRecDepth 100000
def PP : Nat := 2305843009213690799
def QQ : Nat := 1152921504606845399
/-- A power modulo the prime. -/
def pw (b n : Nat) : Nat := b ^ n % PP
theorem zt3 (b n : Nat) : pw b n < PP := Nat.mod_lt _ (by decide)
theorem y1p (b : Nat) : pw b 0 = 1 := by simp [pw, PP]
theorem zz4 (b m n : Nat) : pw b m * pw b n % PP = pw b (m + n) := by
  unfold pw; rw [Nat.pow_add, ← Nat.mul_mod]
theorem y2v (b : Nat) : pw b 1 = b % PP := by simp [pw]
theorem y45 {a : Nat} (h : a < PP) : ((a : Int)).tmod 2305843009213690799 = (a : Int) := by
  unfold PP at h
  rw [Int.tmod_eq_emod_of_nonneg (by omega)]; omega
theorem y36 (b : Nat) : ((b : Int)).tmod 2305843009213690799 = ((b % PP : Nat) : Int) := by
  rw [Int.tmod_eq_emod_of_nonneg (by omega)]; unfold PP; omega
theorem zsg {ρ : Type} {a b : Nat} (ha : a < PP) (hb : b < PP) (φ : Nat) (hφ : 5 < φ) (K : Int → Option ρ) : ((z4h φ (a : Int) (b : Int)).bind fun y => (z4k φ y.1 y.2.1 2305843009213690799).bind fun z => K z.2.1) = K ((a * b % PP : Nat) : Int) := by
  have ha' : (a : Int) < 2305843009213690799 := by unfold PP at ha; omega
  have hb' : (b : Int) < 2305843009213690799 := by unfold PP at hb; omega
  have hp := zh7 (by omega : 0 ≤ (a : Int)) (by omega : 0 ≤ (b : Int)) (by omega : (a : Int) ≤ 2305843009213690798) (by omega : (b : Int) ≤ 2305843009213690798)
  rw [zpn φ _ _ (by omega) (by omega) (by omega) (by omega), Option.bind_some]
  generalize hz : (a : Int) * (b : Int) = z at *
  show (z4k φ (z / 18446744073709551616) (z % 18446744073709551616) 2305843009213690799).bind _ = _
  rw [zy6 φ hφ _ _ _ (by omega) (by omega) (by omega) (by omega) (by omega), Option.bind_some]
  congr 1
  have : z / 18446744073709551616 * 18446744073709551616 + z % 18446744073709551616 = z := by omega
  show (z / 18446744073709551616 * 18446744073709551616 + z % 18446744073709551616) % 2305843009213690799 = _
  rw [this, ← hz, Int.natCast_emod, Int.natCast_mul]; rfl
theorem z5q.uniq {v m n : Nat} (hv : 0 < v) (h : z5q v m) (k : z5q v n) : m = n := by
  obtain ⟨h1, h2⟩ := h
  obtain ⟨k1, k2⟩ := k
  obtain ⟨h3, h4⟩ := h2 hv
  obtain ⟨k3, k4⟩ := k2 hv
  have a : m - 1 < n := (Nat.pow_lt_pow_iff_right (by decide : 1 < 2)).1 (Nat.lt_of_le_of_lt h4 k1)
  have b : n - 1 < m := (Nat.pow_lt_pow_iff_right (by decide : 1 < 2)).1 (Nat.lt_of_le_of_lt k4 h1)
  omega
section first
variable (φ : Nat) (b n a p : Int)
theorem zv8 (v w : Int) (h : 0 ≤ v) (h' : v < 256) (hw : 0 ≤ w) (hw' : w ≤ 64) : ∃ m : Nat, z6r φ v w b n a p = z02 φ φ b n a (w + m) 0 p ∧ m ≤ 8 ∧ z5q v.toNat m := by
  obtain ⟨m, e, hm, x, y⟩ := zi4 h h'
  have e8 : IntKind.wrap .u8 v = v := by simp [IntKind.wrap, IntKind.bits, IntKind.signed]; omega
  refine ⟨m, ?_, hm, x, fun hv => y (by omega)⟩
  unfold z6r
  rw [e8, z6 ⟨h, h'⟩, e, W_id (x := (m : Int)) (by omega) (by omega), W_id (x := w + m) (by omega) (by omega)]
theorem zvf (v w : Int) (h : 0 ≤ v) (h' : v < 65536) (hw : 0 ≤ w) (hw' : w ≤ 48) : ∃ m : Nat, z6s φ v w b n a p = z02 φ φ b n a (w + m) 0 p ∧ m ≤ 16 ∧ z5q v.toNat m := by
  unfold z6s
  by_cases c : 256 ≤ v
  · rw [if_pos (by simpa using c), if_pos (by decide), sh8, W_id (by omega) (by omega)]
    obtain ⟨m, e, hn, hl⟩ := zv8 φ b n a p (v / 256) (w + 8) (by omega) (by omega) (by omega) (by omega)
    refine ⟨m + 8, by rw [e]; congr 1; omega, by omega, ?_⟩
    refine z5q.up 8 ?_ (by omega)
    rwa [show v.toNat / 2 ^ 8 = (v / 256).toNat by omega]
  · rw [if_neg (by simpa using c)]
    obtain ⟨m, e, hn, hl⟩ := zv8 φ b n a p v w h (by omega) (by omega) (by omega)
    exact ⟨m, e, by omega, hl⟩
theorem zys (v w : Int) (h : 0 ≤ v) (h' : v < 4294967296) (hw : 0 ≤ w) (hw' : w ≤ 32) : ∃ m : Nat, z8b φ v w b n a p = z02 φ φ b n a (w + m) 0 p ∧ m ≤ 32 ∧ z5q v.toNat m := by
  unfold z8b
  by_cases c : 65536 ≤ v
  · rw [if_pos (by simpa using c), if_pos (by decide), sh16, W_id (by omega) (by omega)]
    obtain ⟨m, e, hn, hl⟩ := zvf φ b n a p (v / 65536) (w + 16) (by omega) (by omega) (by omega) (by omega)
    refine ⟨m + 16, by rw [e]; congr 1; omega, by omega, ?_⟩
    refine z5q.up 16 ?_ (by omega)
    rwa [show v.toNat / 2 ^ 16 = (v / 65536).toNat by omega]
  · rw [if_neg (by simpa using c)]
    obtain ⟨m, e, hn, hl⟩ := zvf φ b n a p v w h (by omega) (by omega) (by omega)
    exact ⟨m, e, by omega, hl⟩
end first
/-- A step of the loop, once the length is known. -/
def zf8 (φ : Nat) (k : Int → Int → Int → Int → Int → Int → Option (Int × Unit)) (L x57 x58 x59 x60 x61 x62 x63 x64 : Int) : Option (Int × Unit) :=
  ck (0 ≤ (W ((W (L - 1)) - x60))) (if (((U ((BitVec.ofInt 64 ((x63 : Int).fdiv (2 ^ (min ((W ((W (L - 1)) - x60)) : Int).toNat 64))) &&& BitVec.ofInt 64 1).toNat)) : Int) == 1) = true then (ck (x64 ≠ 0) (ck (x64 ≠ 0) ((z4h φ ((x59 : Int).tmod x64) ((x57 : Int).tmod x64)).bind fun y66 => ((z4k φ y66.1 y66.2.1 x64).bind fun y67 => (k x57 x58 y67.2.1 x61 (W (x62 + 1)) x64))))) else (k x57 x58 x59 x61 (W (x62 + 1)) x64))
section second
variable (φ : Nat) (k : Int → Int → Int → Int → Int → Int → Option (Int × Unit)) (x57 x58 x59 x60 x61 x62 x63 x64 : Int)
theorem zsm (v w : Int) (h : 0 ≤ v) (h' : v < 256) (hw : 0 ≤ w) (hw' : w ≤ 64) : ∃ m : Nat, z6n φ k v w x57 x58 x59 x60 x61 x62 x63 x64 = zf8 φ k (w + m) x57 x58 x59 x60 x61 x62 x63 x64 ∧ m ≤ 8 ∧ z5q v.toNat m := by
  obtain ⟨m, e, hm, x, y⟩ := zi4 h h'
  have e8 : IntKind.wrap .u8 v = v := by simp [IntKind.wrap, IntKind.bits, IntKind.signed]; omega
  refine ⟨m, ?_, hm, x, fun hv => y (by omega)⟩
  unfold z6n zf8
  rw [e8, z6 ⟨h, h'⟩, e, W_id (x := (m : Int)) (by omega) (by omega), W_id (x := w + m) (by omega) (by omega)]
theorem zu6 (v w : Int) (h : 0 ≤ v) (h' : v < 65536) (hw : 0 ≤ w) (hw' : w ≤ 48) : ∃ m : Nat, z6q φ k v w x57 x58 x59 x60 x61 x62 x63 x64 = zf8 φ k (w + m) x57 x58 x59 x60 x61 x62 x63 x64 ∧ m ≤ 16 ∧ z5q v.toNat m := by
  unfold z6q
  by_cases c : 256 ≤ v
  · rw [if_pos (by simpa using c), if_pos (by decide), sh8, W_id (by omega) (by omega)]
    obtain ⟨m, e, hn, hl⟩ := zsm φ k x57 x58 x59 x60 x61 x62 x63 x64 (v / 256) (w + 8) (by omega) (by omega) (by omega) (by omega)
    refine ⟨m + 8, by rw [e]; congr 1; omega, by omega, ?_⟩
    refine z5q.up 8 ?_ (by omega)
    rwa [show v.toNat / 2 ^ 8 = (v / 256).toNat by omega]
  · rw [if_neg (by simpa using c)]
    obtain ⟨m, e, hn, hl⟩ := zsm φ k x57 x58 x59 x60 x61 x62 x63 x64 v w h (by omega) (by omega) (by omega)
    exact ⟨m, e, by omega, hl⟩
theorem zuy (v w : Int) (h : 0 ≤ v) (h' : v < 4294967296) (hw : 0 ≤ w) (hw' : w ≤ 32) : ∃ m : Nat, z27 φ k v w x57 x58 x59 x60 x61 x62 x63 x64 = zf8 φ k (w + m) x57 x58 x59 x60 x61 x62 x63 x64 ∧ m ≤ 32 ∧ z5q v.toNat m := by
  unfold z27
  by_cases c : 65536 ≤ v
  · rw [if_pos (by simpa using c), if_pos (by decide), sh16, W_id (by omega) (by omega)]
    obtain ⟨m, e, hn, hl⟩ := zu6 φ k x57 x58 x59 x60 x61 x62 x63 x64 (v / 65536) (w + 16) (by omega) (by omega) (by omega) (by omega)
    refine ⟨m + 16, by rw [e]; congr 1; omega, by omega, ?_⟩
    refine z5q.up 16 ?_ (by omega)
    rwa [show v.toNat / 2 ^ 16 = (v / 65536).toNat by omega]
  · rw [if_neg (by simpa using c)]
    obtain ⟨m, e, hn, hl⟩ := zu6 φ k x57 x58 x59 x60 x61 x62 x63 x64 v w h (by omega) (by omega) (by omega)
    exact ⟨m, e, by omega, hl⟩
theorem y3l (v : Int) (h : 0 ≤ v) (h' : v < 18446744073709551616) : ∃ m : Nat, (if (decide ((4294967296 : Int) ≤ v)) = true then (if 0 ≤ (32 : Int) then (z27 φ k (((v : Int).fdiv (2 ^ (min (32 : Int).toNat 64)))) 32 x57 x58 x59 x60 x61 x62 x63 x64) else none) else (z27 φ k v 0 x57 x58 x59 x60 x61 x62 x63 x64)) =
    zf8 φ k m x57 x58 x59 x60 x61 x62 x63 x64 ∧ m ≤ 64 ∧ z5q v.toNat m := by
  by_cases c : 4294967296 ≤ v
  · rw [if_pos (by simpa using c), if_pos (by decide), sh32]
    obtain ⟨m, e, hn, hl⟩ := zuy φ k x57 x58 x59 x60 x61 x62 x63 x64 (v / 4294967296) 32 (by omega) (by omega) (by omega) (by omega)
    refine ⟨m + 32, by rw [e]; congr 1; omega, by omega, ?_⟩
    refine z5q.up 32 ?_ (by omega)
    rwa [show v.toNat / 2 ^ 32 = (v / 4294967296).toNat by omega]
  · rw [if_neg (by simpa using c)]
    obtain ⟨m, e, hn, hl⟩ := zuy φ k x57 x58 x59 x60 x61 x62 x63 x64 v 0 h (by omega) (by omega) (by omega)
    exact ⟨m, by rw [e]; simp, by omega, hl⟩
end second
theorem zpg (φ : Nat) (hφ : 100 < φ) (b n : Nat) (hn0 : 0 < n) (hn : n < 18446744073709551616) : zdj φ (b : Int) (n : Int) = some (((pw b n : Nat) : Int), ()) := by
  have hstart : ∃ L : Nat, zdj φ (b : Int) (n : Int) = z02 φ φ b n 1 L 0 2305843009213690799 ∧ L ≤ 64 ∧ z5q n L := by
    unfold zdj
    by_cases c : (4294967296 : Int) ≤ n
    · rw [if_pos (by simpa using c), if_pos (by decide), sh32]
      obtain ⟨m, e, hm, hl⟩ := zys φ b n 1 2305843009213690799 ((n : Int) / 4294967296) 32 (by omega) (by omega) (by omega) (by omega)
      refine ⟨m + 32, by rw [e]; congr 1; omega, by omega, ?_⟩
      refine z5q.up 32 ?_ (by omega)
      rwa [show n / 2 ^ 32 = ((n : Int) / 4294967296).toNat by omega]
    · rw [if_neg (by simpa using c)]
      obtain ⟨m, e, hm, hl⟩ := zys φ b n 1 2305843009213690799 (n : Int) 0 (by omega) (by omega) (by omega) (by omega)
      exact ⟨m, by rw [e]; simp, by omega, by rwa [Int.toNat_natCast] at hl⟩
  obtain ⟨L, e0, hL, hlen⟩ := hstart
  rw [e0]
  obtain ⟨h1, h2⟩ := hlen
  refine zy (fun k i v => z02 φ k (b : Int) (n : Int) v (L : Int) i 2305843009213690799) L (fun i v => v = ((pw b (n / 2 ^ (L - i)) : Nat) : Int)) (fun o => o = some (((pw b n : Nat) : Int), ())) ?_ ?_ φ 1 ?_ (by omega)
  · intro k i v hi hv hs
    rw [z02, if_pos (by simp; omega), z6 (by decide), z6 (by decide)]
    subst hv
    rw [y45 (zt3 _ _)]
    refine (zsg (zt3 _ _) (zt3 _ _) φ (by omega) (fun z => (if (decide ((4294967296 : Int) ≤ (n : Int))) = true then (if 0 ≤ (32 : Int) then (z27 φ (z02 φ k) ((((n : Int) : Int).fdiv (2 ^ (min (32 : Int).toNat 64)))) 32 b n z i L i n 2305843009213690799) else none) else (z27 φ (z02 φ k) n 0 b n z i L i n 2305843009213690799)))).trans ?_
    rw [zz4]
    obtain ⟨m, em, hm, hl⟩ := y3l φ (z02 φ k) b n ((pw b (n / 2 ^ (L - i) + n / 2 ^ (L - i)) : Nat) : Int) i L i n 2305843009213690799 (n : Int) (by omega) (by omega)
    refine em.trans ?_
    rw [Int.toNat_natCast] at hl
    have := z5q.uniq hn0 hl ⟨h1, h2⟩
    subst this
    unfold zf8
    have hw1 : W ((m : Int) - 1) = (m : Int) - 1 := W_id (by omega) (by omega)
    have hw2 : W ((m : Int) - 1 - (i : Int)) = ((m - 1 - i : Nat) : Int) := by rw [W_id (by omega) (by omega)]; omega
    rw [hw1, hw2, z6 (by omega)]
    have hsh := y40 (c := (n : Int)) (k := ((m - 1 - i : Nat) : Int)) (by omega) (by omega) (by omega)
    have hone : U ((BitVec.ofInt 64 ((n : Int).fdiv (2 ^ (min (((m - 1 - i : Nat) : Int)).toNat 64))) &&& BitVec.ofInt 64 1).toNat) = ((n / 2 ^ (m - 1 - i) % 2 : Nat) : Int) := by
      rw [show ((n : Int).fdiv (2 ^ (min (((m - 1 - i : Nat) : Int)).toNat 64))) = _ from hsh, Int.toNat_natCast, Int.toNat_natCast]
      have hd : n / 2 ^ (m - 1 - i) ≤ n := Nat.div_le_self _ _
      rw [BitVec.toNat_and, z6d (Int.natCast_nonneg _) (by omega), z6d (by omega) (by omega), y1a (zyy (by omega)), Int.toNat_natCast]
      show ((n / 2 ^ (m - 1 - i) &&& 1 : Nat) : Int) = _
      rw [Nat.and_one_is_mod]
    rw [hone]
    have hhalf : n / 2 ^ (m - i) = n / 2 ^ (m - 1 - i) / 2 := by
      rw [Nat.div_div_eq_div_mul, ← Nat.pow_succ]; congr 2; omega
    have hidx : m - (i + 1) = m - 1 - i := by omega
    have hW : W ((i : Int) + 1) = (i : Int) + 1 := W_id (by omega) (by omega)
    have hbit := Nat.mod_two_eq_zero_or_one (n / 2 ^ (m - 1 - i))
    rcases hbit with hbit | hbit
    · rw [hbit, if_neg (by simp), hW]
      refine hs _ ?_
      rw [hidx, hhalf]; congr 2; omega
    · rw [hbit, if_pos (by simp), y45 (zt3 _ _), y36, z6 (by decide), z6 (by decide), hW]
      refine (zsg (zt3 _ _) (Nat.mod_lt b (by decide : 0 < PP)) φ (by omega) (fun z => z02 φ k b n z m ((i : Int) + 1) 2305843009213690799)).trans ?_
      refine hs _ ?_
      rw [← y2v b, zz4, hidx, hhalf]; congr 2; omega
  · intro k v hv
    rw [z02, if_neg (by simp), hv]
    rw [Nat.sub_self, Nat.pow_zero, Nat.div_one]
  · rw [Nat.sub_zero, Nat.div_eq_of_lt h1, y1p]; rfl
/-- What Valid answers. -/
def zzt (x : Int) : Bool := decide (2 ≤ x) && decide (x < 2305843009213690799) && (pw x.toNat QQ == 1)
theorem zog (a : Nat) : (((a : Nat) : Int) == 1) = (a == 1) := by
  rw [Bool.eq_iff_iff, beq_iff_eq, beq_iff_eq]; omega
theorem zk3 (φ : Nat) (hφ : 100 < φ) (x : Int) : zbv φ x = some (zzt x, ()) := by
  unfold zbv zzt z1p
  cases h : decide (2 ≤ x) && decide (x < 2305843009213690799) with
  | false => rw [if_neg (by simp), Option.bind_some]; simp only [Bool.false_and]
  | true =>
    simp only [Bool.and_eq_true, decide_eq_true_eq] at h
    have := zpg φ hφ x.toNat QQ (by decide) (by decide)
    rw [show ((x.toNat : Nat) : Int) = x by omega, show ((QQ : Nat) : Int) = 1152921504606845399 by decide] at this
    rw [if_pos rfl, this, Option.bind_some, Bool.true_and, Bool.true_and]
    show some ((((pw x.toNat QQ : Nat) : Int) == 1), ()) = _
    rw [zog]
end Px
end
section
namespace Px
open Go
set_option linter.unusedVariables false
set_option linter.unusedSimpArgs false
theorem gz_t {α : Type} {z : α} {p : Prop} [Decidable p] {x : Option α} (h : p) : z1p z p x = x := if_pos h
theorem gz_f {α : Type} {z : α} {p : Prop} [Decidable p] {x : Option α} (h : ¬ p) : z1p z p x = some z := if_neg h
def zb0 (p : z5p) : Bool := bet p.kind 1 5 && bet p.railway 0 15 && (bif p.kind == 3 then bet p.other 0 15 && (p.other != p.railway) else p.other == (-1))
def zb9 (n : Int) (e : Edge) : Bool := bet e.a 0 (n - 1) && bet e.b 0 (n - 1) && (e.a != e.b) && bet e.railway 0 15 && bet e.minutes 1 100000 && bet e.km 0 10000
def z99 (x : z2) : Int := bif decide (512 < x.places.length) || decide (2048 < x.edges.length) then 2 else bif x.places.all zb0 && x.edges.all (zb9 x.places.length) then 0 else 1
theorem zg9 (φ : Nat) (p : z5p) : z7i φ p = some (zb0 p, ()) := by
  have hb : (((decide (p.kind < 1) || decide (5 < p.kind)) || decide (p.railway < 0)) || decide (16 ≤ p.railway)) = !(bet p.kind 1 5 && bet p.railway 0 15) := by
    rw [Bool.eq_iff_iff]; simp [bet]; omega
  unfold z7i zb0
  rw [hb]
  cases bet p.kind 1 5 && bet p.railway 0 15 with
  | false => rfl
  | true =>
    rw [if_neg (by simp)]
    by_cases h : p.kind = 3
    · have : (decide (0 ≤ p.other) && decide (p.other < 16)) = bet p.other 0 15 := by rw [Bool.eq_iff_iff]; simp [bet]; omega
      rw [if_neg (by simp [h]), this]; simp [h]
    · have h2 : (p.kind == 3) = false := by simpa using h
      rw [if_pos (by simp [h]), h2]; rfl
theorem zt4 (n : Int) (e : Edge) : ((((((decide ((min2 (min2 (min2 (e.a) (e.b)) (e.railway)) (e.km)) < 0) || decide (n ≤ (max2 (e.a) (e.b)))) || (e.a == e.b)) || decide (16 ≤ e.railway)) || decide (e.minutes < 1)) || decide (100000 < e.minutes)) || decide (10000 < e.km)) = !zb9 n e := by
  have hm : ∀ x y z : Int, z ≤ max2 x y ↔ z ≤ x ∨ z ≤ y := by intro x y z; unfold max2; split <;> omega
  have hok : zb9 n e = true ↔ ((((((0 ≤ e.a ∧ e.a ≤ n - 1) ∧ 0 ≤ e.b ∧ e.b ≤ n - 1) ∧ ¬ e.a = e.b) ∧ 0 ≤ e.railway ∧ e.railway ≤ 15) ∧ 1 ≤ e.minutes ∧ e.minutes ≤ 100000) ∧ 0 ≤ e.km ∧ e.km ≤ 10000) := by
    simp only [zb9, Bool.and_eq_true, zpe, bne_iff_ne, ne_eq]
  rw [Bool.eq_iff_iff, Bool.not_eq_true', ← Bool.not_eq_true, hok]
  simp only [Bool.or_eq_true, decide_eq_true_eq, zw0, hm, beq_iff_eq]
  omega
theorem zy9 (x : z2) : (decide (512 < (x.places.length : Int)) || decide (2048 < (x.edges.length : Int))) = (decide (512 < x.places.length) || decide (2048 < x.edges.length)) := by
  congr 1 <;> (apply decide_eq_decide.2; omega)
theorem zad (φ : Nat) (hφ : 5000 < φ) (x : z2) : z2m φ x = some (z99 x, ()) := by
  unfold z2m z99
  rw [zy9]
  cases h : decide (512 < x.places.length) || decide (2048 < x.edges.length) with
  | true => rfl
  | false =>
    simp only [Bool.or_eq_false_iff, decide_eq_false_iff_not, Nat.not_lt] at h
    rw [if_neg (by simp), zgn (fun n i => z1x φ n (x.places.length : Int) x.places (x.places.length : Int) i x) (z10 φ φ (x.places.length : Int) x.edges (x.edges.length : Int) 0) (some (1, ())) x.places (fun t => !zb0 t) ?_ ?_ φ (by omega)]
    · rw [zgn (fun n i => z10 φ n (x.places.length : Int) x.edges (x.edges.length : Int) i) (some (0, ())) (some (1, ())) x.edges (fun t => !zb9 x.places.length t) ?_ ?_ φ (by omega)]
      · simp only [List.any_eq_not_all_not, Bool.not_not]
        cases x.places.all zb0 <;> cases x.edges.all (zb9 x.places.length) <;> rfl
      · intro n i hi
        rw [z10, if_pos (by simp; omega), z6 ⟨by omega, by omega⟩, zt4, W_id (by omega) (by omega)]
        cases zb9 x.places.length (gt x.edges i) <;> rfl
      · intro n; rw [z10, if_neg (by simp)]
    · intro n i hi
      rw [z1x, if_pos (by simp; omega), z6 ⟨by omega, by omega⟩, zg9, Option.bind_some, W_id (by omega) (by omega)]
      cases zb0 (gt x.places i) <;> rfl
    · intro n; rw [z1x, if_neg (by simp)]
theorem zhn {x : z2} (h : z99 x = 0) : x.places.length ≤ 512 ∧ x.edges.length ≤ 2048 ∧ (∀ p ∈ x.places, zb0 p = true) ∧ ∀ e ∈ x.edges, zb9 x.places.length e = true := by
  unfold z99 at h
  cases h1 : decide (512 < x.places.length) || decide (2048 < x.edges.length) with
  | true => rw [h1] at h; cases h
  | false =>
    rw [h1] at h
    cases h2 : x.places.all zb0 && x.edges.all (zb9 x.places.length) with
    | false => rw [h2] at h; cases h
    | true =>
      simp only [Bool.or_eq_false_iff, decide_eq_false_iff_not, Nat.not_lt] at h1
      simp only [Bool.and_eq_true, List.all_eq_true] at h2
      exact ⟨h1.1, h1.2, h2⟩
/-- What Check says of a calendar. -/
def zup : Int → List Int → Bool
  | _, [] => true
  | p, h :: t => decide (p < h) && decide (h ≤ 745654) && zup h t
def zjf (s : Span) : Bool := decide (0 ≤ s.from_) && decide (s.from_ ≤ s.to) && decide (s.to ≤ 1440)
def zph (c : z6g) : Bool := ((List.range 7).all fun i => zjf (c.open_ i)) && zup (-1) c.holidays
theorem y0o (φ : Nat) (c : z6g) : ∀ (n i : Nat) (p : Int), -1 ≤ p → (i : Int) ≤ p + 1 → p ≤ 745654 → i ≤ c.holidays.length → 745656 ≤ (n : Int) + p → z18 φ n p c.holidays (c.holidays.length : Int) i = some (bif zup p (c.holidays.drop i) then 0 else 1, ()) := by
  intro n
  induction n with
  | zero => intro i p _ _ _ _ _; omega
  | succ n ih =>
    intro i p hp hip hp2 hi hn
    by_cases h : i = c.holidays.length
    · rw [h, z18, if_neg (by simp), List.drop_length]; rfl
    · rw [z18, if_pos (by simp; omega), z6 ⟨by omega, by omega⟩, zu1 _ _ (by omega)]
      by_cases hb : gt c.holidays i ≤ p ∨ 745654 < gt c.holidays i
      · have : (decide (p < gt c.holidays i) && decide (gt c.holidays i ≤ 745654)) = false := by simp; omega
        rw [if_pos (by simpa using hb)]
        simp [zup, this]
      · have h2 : (decide (p < gt c.holidays i) && decide (gt c.holidays i ≤ 745654)) = true := by simp; omega
        rw [if_neg (by simpa using hb), W_id (by omega) (by omega)]
        have := ih (i + 1) (gt c.holidays i) (by omega) (by omega) (by omega) (by omega) (by omega)
        rw [show ((i + 1 : Nat) : Int) = (i : Int) + 1 by omega] at this
        rw [this]
        simp [zup, h2]
theorem zl8 (s : Span) : ((decide (s.from_ < 0) || decide (s.to < s.from_)) || decide (1440 < s.to)) = !zjf s := by
  rw [Bool.eq_iff_iff]; simp [zjf]
  try omega
theorem zed (φ : Nat) (hφ : 800000 < φ) (c : z6g) : z6i φ c = some (bif zph c then 0 else 1, ()) := by
  unfold z6i
  refine zy (fun n i (_ : Unit) => z1k φ n c.open_ i c) 7 (fun i _ => ((List.range i).all fun j => zjf (c.open_ j)) = true) (fun o => o = some (bif zph c then 0 else 1, ())) ?_ ?_ φ () (by simp) (by omega)
  · intro n i _ hi h hs
    rw [z1k, if_pos (by simp; omega), z6 ⟨by omega, by omega⟩, Int.toNat_natCast, zl8, W_id (by omega) (by omega)]
    cases ho : zjf (c.open_ i) with
    | true =>
      rw [if_neg (by simp)]
      exact hs () (by rw [zcg, h, ho]; rfl)
    | false =>
      have : zph c = false := by
        unfold zph
        have : ((List.range 7).all fun j => zjf (c.open_ j)) = false := by
          rw [List.all_eq_false]; exact ⟨i, by simp; omega, by simp [ho]⟩
        rw [this]; rfl
      rw [if_pos (by simp), this]; rfl
  · intro n _ h
    rw [z1k, if_neg (by simp)]
    unfold zph
    rw [h, Bool.true_and]
    have := y0o φ c φ 0 (-1) (by omega) (by omega) (by omega) (by omega) (by omega)
    simpa using this
theorem zei {α ρ : Type} [Inhabited α] (L : Nat → Bool → Int → Option ρ) (k : Bool → Option ρ) (l : List α) (p : α → Bool)
    (step : ∀ (n i : Nat) (s : Bool), i < l.length → L (n + 1) s i = L n (s || p (gt l i)) ((i : Int) + 1)) (done : ∀ n s, L (n + 1) s l.length = k s) (n : Nat) (s : Bool) (hn : l.length < n) : L n s 0 = k (s || l.any p) := by
  refine zy (fun n i t => L n t i) l.length (fun i t => t = (s || (l.take i).any p)) (fun o => o = k (s || l.any p)) ?_ ?_ n s (by simp) hn
  · intro n i t hi ht hs
    rw [step n i t hi]
    exact hs _ (by rw [zds _ _ _ hi, ht, Bool.or_assoc])
  · intro n t ht
    rw [List.take_length] at ht
    rw [done, ht]
def zdo (n : Int) (r : z21) : Bool := (((!bet r.place 0 (n - 1)) || decide (r.low < (-1000))) || decide (r.high < r.low)) || decide (1000 < r.high)
def zep (x : z2) (s : za7) : Bool := (!bet s.place 0 ((x.places.length : Int) - 1)) || ((gt x.places s.place).kind != 4)
def zoz (r : z2n) : Bool := !zph r.calendar || !zzt r.key
def zec (x : Pool) : Bool :=
  ((((((x.railways.length : Int) == 0) || x.readers.any (zdo x.network.places.length)) || x.shippers.any (zep x.network)) || x.fleet.wagons.any (fun w => decide ((x.network.places.length : Int) ≤ w.home))) ||
  x.network.places.any (fun p => decide ((x.railways.length : Int) ≤ p.railway) || decide ((x.railways.length : Int) ≤ p.other))) || x.network.edges.any (fun e => decide ((x.railways.length : Int) ≤ e.railway)) || x.railways.any zoz
def zfj (x : Pool) : Bool := (decide (256 < (x.readers.length : Int)) || decide (256 < (x.shippers.length : Int))) || decide (16 < (x.railways.length : Int))
/-- What CheckPool answers. -/
def z1w (x : Pool) : Int := if z99 x.network ≠ 0 then z99 x.network else if z4y x.fleet ≠ 0 then z4y x.fleet else bif zfj x then 2 else bif zec x then 1 else 0
theorem z8k (φ : Nat) (hφ : 800000 < φ) (x : Pool) : z1m φ x = some (z1w x, ()) := by
  unfold z1m z1w
  rw [zad _ (by omega), Option.bind_some]
  by_cases hn : z99 x.network = 0
  case neg => rw [if_pos (by simp [hn]), if_pos hn]
  rw [if_neg (by simp [hn]), if_neg (fun e : z99 x.network ≠ 0 => e hn), zix _ (by omega), Option.bind_some]
  by_cases hf : z4y x.fleet = 0
  case neg => rw [if_pos (by simp [hf]), if_pos hf]
  rw [if_neg (by simp [hf]), if_neg (fun e : z4y x.fleet ≠ 0 => e hf)]
  cases hb : zfj x with
  | true =>
    have e : (((decide (256 < (x.readers.length : Int)) || decide (256 < (x.shippers.length : Int))) || decide (16 < (x.railways.length : Int)))) = zfj x := rfl
    rw [e, hb]; rfl
  | false =>
    have hb' : ¬ (((decide (256 < (x.readers.length : Int)) || decide (256 < (x.shippers.length : Int))) || decide (16 < (x.railways.length : Int))) = true) := by
      rw [show (((decide (256 < (x.readers.length : Int)) || decide (256 < (x.shippers.length : Int))) || decide (16 < (x.railways.length : Int)))) = zfj x from rfl, hb]; simp
    rw [if_neg hb']
    simp only [Bool.or_eq_true, decide_eq_true_eq, not_or] at hb'
    obtain ⟨n1, n2, _, _⟩ := zhn hn
    obtain ⟨f1, f2, _⟩ := z82 hf
    have hp : W ((x.network.places.length : Int) - 1) = (x.network.places.length : Int) - 1 := W_id (by omega) (by omega)
    have a1 := zei (fun n s i => z0x φ n x.network.places (x.railways.length : Int) s x.readers (x.readers.length : Int) i x) (fun s => z0g φ φ x.network.places (x.railways.length : Int) s x.shippers (x.shippers.length : Int) 0 x) x.readers (zdo x.network.places.length) (fun n i s hi => by
      rw [z0x, if_pos (by simp; omega), z6 ⟨by omega, by omega⟩, hp, W_id (by omega) (by omega)]
      unfold zdo
      cases s with
      | true => rw [gz_f (by simp)]; rfl
      | false => rw [gz_t rfl]; rfl) (fun n s => by rw [z0x, if_neg (by simp)]) φ ((x.railways.length : Int) == 0) (by omega)
    refine a1.trans ?_
    have a2 := fun s0 => zei (fun n s i => z0g φ n x.network.places (x.railways.length : Int) s x.shippers (x.shippers.length : Int) i x) (fun s => z0l φ φ x.network.places (x.railways.length : Int) s x.fleet.wagons (x.fleet.wagons.length : Int) 0 x) x.shippers (zep x.network) (fun n i s hi => by
      rw [z0g, if_pos (by simp; omega), z6 ⟨by omega, by omega⟩, hp, W_id (by omega) (by omega)]
      unfold zep
      cases s with
      | true => rw [gz_f (by simp), Option.bind_some, z6 (by simp)]; rfl
      | false =>
        rw [gz_t rfl, z1z, Option.bind_some]
        cases hbt : bet (gt x.shippers i).place 0 ((x.network.places.length : Int) - 1) with
        | true => rw [z6 (fun _ => by have := zty hbt; omega)]; rfl
        | false => rw [z6 (by simp)]; rfl) (fun n s => by rw [z0g, if_neg (by simp)]) φ s0 (by omega)
    refine (a2 _).trans ?_
    have a3 := fun s0 => zei (fun n s i => z0l φ n x.network.places (x.railways.length : Int) s x.fleet.wagons (x.fleet.wagons.length : Int) i x) (fun s => z0k φ φ (x.railways.length : Int) s x.network.places (x.network.places.length : Int) 0 x) x.fleet.wagons (fun w => decide ((x.network.places.length : Int) ≤ w.home)) (fun n i s hi => by
      rw [z0l, if_pos (by simp; omega), z6 ⟨by omega, by omega⟩, W_id (by omega) (by omega)]) (fun n s => by rw [z0l, if_neg (by simp)]) φ s0 (by omega)
    refine (a3 _).trans ?_
    have a4 := fun s0 => zei (fun n s i => z0k φ n (x.railways.length : Int) s x.network.places (x.network.places.length : Int) i x) (fun s => z0j φ φ (x.railways.length : Int) s x.network.edges (x.network.edges.length : Int) 0 x) x.network.places (fun p => decide ((x.railways.length : Int) ≤ p.railway) || decide ((x.railways.length : Int) ≤ p.other)) (fun n i s hi => by
      rw [z0k, if_pos (by simp; omega), z6 ⟨by omega, by omega⟩, W_id (by omega) (by omega), Bool.or_assoc]) (fun n s => by rw [z0k, if_neg (by simp)]) φ s0 (by omega)
    refine (a4 _).trans ?_
    have a5 := fun s0 => zei (fun n s i => z0j φ n (x.railways.length : Int) s x.network.edges (x.network.edges.length : Int) i x) (fun s => z0m φ φ s x.railways (x.railways.length : Int) 0) x.network.edges (fun e => decide ((x.railways.length : Int) ≤ e.railway)) (fun n i s hi => by
      rw [z0j, if_pos (by simp; omega), z6 ⟨by omega, by omega⟩, W_id (by omega) (by omega)]) (fun n s => by rw [z0j, if_neg (by simp)]) φ s0 (by omega)
    refine (a5 _).trans ?_
    have a6 := fun s0 => zei (fun n s i => z0m φ n s x.railways (x.railways.length : Int) i) (fun s => if s = true then some (1, ()) else some (0, ())) x.railways zoz (fun n i s hi => by
      rw [z0m, if_pos (by simp; omega), z6 ⟨by omega, by omega⟩, W_id (by omega) (by omega)]
      unfold zoz
      cases s with
      | true => rw [gz_f (by simp), Option.bind_some, gz_f (by simp)]; rfl
      | false =>
        rw [gz_t rfl, zed _ hφ, Option.bind_some]
        cases zph (gt x.railways i).calendar with
        | false => rw [gz_f (by simp)]; rfl
        | true => rw [gz_t (by simp), zk3 _ (by omega)]; rfl) (fun n s => by rw [z0m, if_neg (by simp)]) φ s0 (by omega)
    refine (a6 _).trans ?_
    show (if zec x = true then some ((1 : Int), ()) else some (0, ())) = _
    cases zec x <;> rfl
/-- What a valid pool is. -/
theorem zc2 {p : Pool} (h : z1w p = 0) : z99 p.network = 0 ∧ z4y p.fleet = 0 ∧ p.readers.length ≤ 256 ∧ p.shippers.length ≤ 256 ∧ p.railways.length ≤ 16 ∧ zec p = false := by
  unfold z1w at h
  by_cases hn : z99 p.network = 0
  case neg => rw [if_pos hn] at h; exact absurd h hn
  rw [if_neg (fun e : z99 p.network ≠ 0 => e hn)] at h
  by_cases hf : z4y p.fleet = 0
  case neg => rw [if_pos hf] at h; exact absurd h hf
  rw [if_neg (fun e : z4y p.fleet ≠ 0 => e hf)] at h
  cases hb : zfj p with
  | true => rw [hb] at h; cases h
  | false =>
    rw [hb] at h
    cases hd : zec p with
    | true => rw [hd] at h; cases h
    | false =>
      simp only [zfj, Bool.or_eq_false_iff, decide_eq_false_iff_not] at hb
      exact ⟨hn, hf, by omega, by omega, by omega, rfl⟩
theorem zjc {p : Pool} (h : z1w p = 0) : (∀ r ∈ p.readers, 0 ≤ r.place ∧ r.place < (p.network.places.length : Int) ∧ -1000 ≤ r.low ∧ r.low ≤ r.high ∧ r.high ≤ 1000) ∧
    (∀ w ∈ p.fleet.wagons, 0 ≤ w.home ∧ w.home < (p.network.places.length : Int)) ∧ (∀ e ∈ p.network.edges, e.railway < (p.railways.length : Int)) ∧ 0 < p.railways.length := by
  obtain ⟨hn, hf, h1, h2, h3, hb⟩ := zc2 h
  simp only [zec, Bool.or_eq_false_iff] at hb
  obtain ⟨⟨⟨⟨⟨⟨b0, b1⟩, b2⟩, b3⟩, b4⟩, b5⟩, b6⟩ := hb
  obtain ⟨_, _, _, _, _, hw, _, _⟩ := z82 hf
  refine ⟨fun r hr => ?_, fun w hw' => ?_, fun e he => ?_, ?_⟩
  · have := List.any_eq_false.1 b1 r hr
    simp only [zdo, Bool.not_eq_true, Bool.or_eq_false_iff, Bool.not_eq_false', decide_eq_false_iff_not] at this
    obtain ⟨⟨⟨c1, c2⟩, c3⟩, c4⟩ := this
    have := zty c1
    omega
  · have := List.any_eq_false.1 b3 w hw'
    have h3 := hw w hw'
    simp only [zcy, Bool.and_eq_true] at h3
    have := zty h3.1.1.2
    simp at *
    omega
  · have := List.any_eq_false.1 b5 e he
    simp at this; omega
  · simp at b0
    exact List.length_pos_iff.2 b0
end Px
end
section
namespace Px
open Go
set_option linter.unusedVariables false
set_option linter.unusedSimpArgs false
theorem zyw {n b : Nat} (h : n ≤ 100000) (hb : b ≤ 1000) : fits n b := by
  unfold fits
  have : n * b ≤ 100000 * 1000 := Nat.mul_le_mul h hb
  omega
abbrev Ln := List ((Nat → Int) × Int)
abbrev keyP (a b : Int) : Nat → Int := upd (upd (fun _ => (default : Int)) 0 a) 1 b
abbrev lget (m : Ln) (a b : Int) : Option Int := @mget _ _ ⟨beqA 2⟩ m (keyP a b)
abbrev lset (m : Ln) (a b i : Int) : Ln := @mset _ _ ⟨beqA 2⟩ m (keyP a b) i
theorem zxq (f g : Nat → Int) : beqA 2 f g = (f 0 == g 0 && f 1 == g 1) := by
  simp [beqA, List.range_succ]
theorem y06 (a b : Int) : keyP a b 0 = a := rfl
theorem y22 (a b : Int) : keyP a b 1 = b := rfl
theorem zgs (m : Ln) (a b i c d : Int) : lget (lset m a b i) c d = if c = a ∧ d = b then some i else lget m c d := by
  induction m with
  | nil =>
    show (bif beqA 2 (keyP c d) (keyP a b) then some i else none) = _
    rw [zxq]
    simp only [y06, y22]
    by_cases h : c = a ∧ d = b
    · rw [if_pos h]; simp [h]
    · rw [if_neg h]
      have : (c == a && d == b) = false := by rw [← Bool.not_eq_true]; simpa using h
      rw [this]; rfl
  | cons p m ih =>
    obtain ⟨k, v⟩ := p
    show lget (bif beqA 2 (keyP a b) k then (keyP a b, i) :: m else (k, v) :: lset m a b i) c d = _
    have e1 : lget ((k, v) :: m) c d = bif beqA 2 (keyP c d) k then some v else lget m c d := rfl
    cases h1 : beqA 2 (keyP a b) k with
    | true =>
      rw [zxq] at h1
      simp only [y06, y22, Bool.and_eq_true, beq_iff_eq] at h1
      show (bif beqA 2 (keyP c d) (keyP a b) then some i else lget m c d) = _
      rw [e1, zxq, zxq]
      simp only [y06, y22]
      by_cases h : c = a ∧ d = b
      · rw [if_pos h]; simp [h]
      · rw [if_neg h]
        have h2 : (c == a && d == b) = false := by rw [← Bool.not_eq_true]; simpa using h
        have h3 : (c == k 0 && d == k 1) = false := by rw [← h1.1, ← h1.2]; exact h2
        rw [h2, h3]; rfl
    | false =>
      show (bif beqA 2 (keyP c d) k then some v else lget (lset m a b i) c d) = _
      rw [ih, e1]
      cases h2 : beqA 2 (keyP c d) k with
      | false => rfl
      | true =>
        by_cases h : c = a ∧ d = b
        · obtain ⟨rfl, rfl⟩ := h
          rw [h1] at h2; cases h2
        · show some v = _
          rw [if_neg h]; rfl
theorem zy7 {b : Bool} (h : ¬ (!b) = true) : b = true := by cases b <;> simp_all
/-- One end of a line is entered. -/
def ent1 (es : List Edge) (i a b : Int) (s : List (List Int) × Ln) : List (List Int) × Ln :=
  (if (!(lget s.2 a b).isSome) = true then zz s.1 a (gt s.1 a ++ [b]) else s.1,
   if (!(lget s.2 a b).isSome || decide ((gt es i).minutes < (gt es ((lget s.2 a b).getD default)).minutes)) = true then lset s.2 a b i else s.2)
def entE (es : List Edge) (i : Int) (s : List (List Int) × Ln) : List (List Int) × Ln := ent1 es i (gt es i).b (gt es i).a (ent1 es i (gt es i).a (gt es i).b s)
/-- What is known while z8h are entered. -/
structure GI (es : List Edge) (P k : Nat) (s : List (List Int) × Ln) : Prop where
  len : s.1.length = P
  near : ∀ a b : Int, 0 ≤ a → a < (P : Int) → (b ∈ gt s.1 a ↔ (lget s.2 a b).isSome = true)
  line : ∀ a b i : Int, lget s.2 a b = some i → 0 ≤ i ∧ i < (k : Int) ∧ (((gt es i).a = a ∧ (gt es i).b = b) ∨ ((gt es i).a = b ∧ (gt es i).b = a))
  size : ∀ a : Int, 0 ≤ a → a < (P : Int) → (gt s.1 a).length ≤ 2 * k
structure HI (es : List Edge) (P k : Nat) (s : List (List Int) × Ln) : Prop extends GI es P k s where
  sym : ∀ a b : Int, lget s.2 a b = lget s.2 b a
theorem zwo (es : List Edge) (P : Nat) : HI es P 0 (List.replicate P (default : List Int), []) where
  len := by simp
  near := fun a b h0 h1 => by
    rw [z4j _ _ _ h0 (by omega)]
    show b ∈ ([] : List Int) ↔ _
    simp [lget, mget]
  line := fun a b i h => by simp [lget, mget] at h
  size := fun a h0 h1 => by rw [z4j _ _ _ h0 (by omega)]; simp; rfl
  sym := fun a b => rfl
/-- What one end does to what is known; j: how far the numbers of the z8h go. -/
theorem y1o {es : List Edge} {P k : Nat} {s : List (List Int) × Ln} (h : GI es P k s) {a b : Int} (ha : 0 ≤ a) (ha' : a < (P : Int)) (he : ((gt es (k : Int)).a = a ∧ (gt es (k : Int)).b = b) ∨ ((gt es (k : Int)).a = b ∧ (gt es (k : Int)).b = a)) :
    (ent1 es k a b s).1.length = P ∧ (∀ c d : Int, 0 ≤ c → c < (P : Int) → (d ∈ gt (ent1 es k a b s).1 c ↔ (lget (ent1 es k a b s).2 c d).isSome = true)) ∧
    (∀ c d i : Int, lget (ent1 es k a b s).2 c d = some i → 0 ≤ i ∧ i < ((k + 1 : Nat) : Int) ∧ (((gt es i).a = c ∧ (gt es i).b = d) ∨ ((gt es i).a = d ∧ (gt es i).b = c))) ∧
    (∀ c : Int, 0 ≤ c → c < (P : Int) → (gt (ent1 es k a b s).1 c).length ≤ (gt s.1 c).length + 1) ∧
    (∀ c d : Int, ¬ (c = a ∧ d = b) → lget (ent1 es k a b s).2 c d = lget s.2 c d) ∧
    lget (ent1 es k a b s).2 a b = (if (!(lget s.2 a b).isSome || decide ((gt es (k : Int)).minutes < (gt es ((lget s.2 a b).getD default)).minutes)) = true then some (k : Int) else lget s.2 a b) := by
  have hl2 : ∀ c d : Int, lget (ent1 es k a b s).2 c d = if (c = a ∧ d = b) then (if (!(lget s.2 a b).isSome || decide ((gt es (k : Int)).minutes < (gt es ((lget s.2 a b).getD default)).minutes)) = true then some (k : Int) else lget s.2 a b) else lget s.2 c d := by
    intro c d
    unfold ent1
    simp only []
    split
    · rw [zgs]
    · split
      · rename_i q; rw [q.1, q.2]
      · rfl
  have hsm : (lget (ent1 es k a b s).2 a b).isSome = true := by
    rw [hl2, if_pos ⟨rfl, rfl⟩]
    split
    · rfl
    · rename_i q
      simp only [Bool.or_eq_true, not_or] at q
      exact zy7 q.1
  refine ⟨?_, ?_, ?_, ?_, fun c d hcd => by rw [hl2, if_neg hcd], by rw [hl2, if_pos ⟨rfl, rfl⟩]⟩
  · unfold ent1
    simp only []
    split
    · rw [z24]; exact h.len
    · exact h.len
  · intro c d hc hc'
    by_cases hcd : c = a ∧ d = b
    · obtain ⟨rfl, rfl⟩ := hcd
      rw [hsm]
      refine ⟨fun _ => rfl, fun _ => ?_⟩
      unfold ent1
      simp only []
      split
      · rw [z11 _ _ _ _ hc (by rw [h.len]; exact hc') hc, if_pos rfl]; simp
      · rename_i q
        exact (h.near c d hc hc').2 (zy7 q)
    · rw [hl2, if_neg hcd, ← h.near c d hc hc']
      unfold ent1
      simp only []
      split
      · rw [z11 _ _ _ _ ha (by rw [h.len]; exact ha') hc]
        by_cases e : c = a
        · subst e
          rw [if_pos rfl]
          simp only [List.mem_append, List.mem_singleton]
          exact ⟨fun q => q.resolve_right (fun e => hcd ⟨rfl, e⟩), .inl⟩
        · rw [if_neg e]
      · exact Iff.rfl
  · intro c d i hi
    rw [hl2] at hi
    split at hi
    · rename_i q
      obtain ⟨rfl, rfl⟩ := q
      split at hi
      · have := Option.some.inj hi
        subst this
        exact ⟨by omega, by omega, he⟩
      · obtain ⟨h1, h2, h3⟩ := h.line _ _ _ hi
        exact ⟨h1, by omega, h3⟩
    · obtain ⟨h1, h2, h3⟩ := h.line _ _ _ hi
      exact ⟨h1, by omega, h3⟩
  · intro c hc hc'
    unfold ent1
    simp only []
    split
    · rw [z11 _ _ _ _ ha (by rw [h.len]; exact ha') hc]
      split
      · rename_i e; subst e; simp
      · omega
    · omega
theorem zzx {es : List Edge} {P k : Nat} {s : List (List Int) × Ln} (h : HI es P k s) (ha : 0 ≤ (gt es (k : Int)).a) (ha' : (gt es (k : Int)).a < (P : Int)) (hb : 0 ≤ (gt es (k : Int)).b) (hb' : (gt es (k : Int)).b < (P : Int)) (hne : (gt es (k : Int)).a ≠ (gt es (k : Int)).b) :
    HI es P (k + 1) (entE es k s) := by
  obtain ⟨a1, a2, a3, a4, a5, a6⟩ := y1o h.toGI ha ha' (.inl ⟨rfl, rfl⟩)
  unfold entE
  generalize hs1 : ent1 es k (gt es (k : Int)).a (gt es (k : Int)).b s = s1 at *
  generalize (gt es (k : Int)).a = a at *
  generalize (gt es (k : Int)).b = b at *
  -- the second end, by the same law: only the zaq on the numbers has moved
  have hl2 : ∀ c d : Int, lget (ent1 es k b a s1).2 c d = if (c = b ∧ d = a) then (if (!(lget s1.2 b a).isSome || decide ((gt es (k : Int)).minutes < (gt es ((lget s1.2 b a).getD default)).minutes)) = true then some (k : Int) else lget s1.2 b a) else lget s1.2 c d := by
    intro c d
    unfold ent1
    simp only []
    split
    · rw [zgs]
    · split
      · rename_i q; rw [q.1, q.2]
      · rfl
  have hba : lget s1.2 b a = lget s.2 a b := by rw [a5 b a (fun q => hne q.2), h.sym]
  have hsm : (lget (ent1 es k b a s1).2 b a).isSome = true := by
    rw [hl2, if_pos ⟨rfl, rfl⟩]
    split
    · rfl
    · rename_i q
      simp only [Bool.or_eq_true, not_or] at q
      exact zy7 q.1
  have hlab : lget (ent1 es k b a s1).2 a b = lget s1.2 a b := by rw [hl2, if_neg (fun q => hne q.1)]
  have hlba : lget (ent1 es k b a s1).2 b a = lget s1.2 a b := by
    rw [hl2, if_pos ⟨rfl, rfl⟩, hba, a6]
  have hab : ((gt es (k : Int)).a = a ∧ (gt es (k : Int)).b = b) ∨ ((gt es (k : Int)).a = b ∧ (gt es (k : Int)).b = a) → True := fun _ => trivial
  refine ⟨⟨?_, ?_, ?_, ?_⟩, ?_⟩
  · unfold ent1
    simp only []
    split
    · rw [z24]; exact a1
    · exact a1
  · intro c d hc hc'
    by_cases hcd : c = b ∧ d = a
    · obtain ⟨rfl, rfl⟩ := hcd
      rw [hsm]
      refine ⟨fun _ => rfl, fun _ => ?_⟩
      unfold ent1
      simp only []
      split
      · rw [z11 _ _ _ _ hc (by rw [a1]; exact hc') hc, if_pos rfl]; simp
      · rename_i q
        exact (a2 c d hc hc').2 (zy7 q)
    · rw [hl2, if_neg hcd, ← a2 c d hc hc']
      unfold ent1
      simp only []
      split
      · rw [z11 _ _ _ _ hb (by rw [a1]; exact hb') hc]
        by_cases e : c = b
        · subst e
          rw [if_pos rfl]
          simp only [List.mem_append, List.mem_singleton]
          exact ⟨fun q => q.resolve_right (fun e => hcd ⟨rfl, e⟩), .inl⟩
        · rw [if_neg e]
      · exact Iff.rfl
  · intro c d i hi
    by_cases hcd : c = b ∧ d = a
    · obtain ⟨rfl, rfl⟩ := hcd
      rw [hlba] at hi
      obtain ⟨h1, h2, h3⟩ := a3 _ _ _ hi
      exact ⟨h1, h2, h3.elim .inr .inl⟩
    · rw [hl2, if_neg hcd] at hi
      exact a3 _ _ _ hi
  · intro c hc hc'
    have h1 := a4 c hc hc'
    have h0 := h.size c hc hc'
    have h2 : (gt (ent1 es k b a s1).1 c).length ≤ (gt s1.1 c).length + 1 := by
      unfold ent1
      simp only []
      split
      · rw [z11 _ _ _ _ hb (by rw [a1]; exact hb') hc]
        split
        · rename_i e; subst e; simp
        · omega
      · omega
    omega
  · intro c d
    by_cases h1 : c = b ∧ d = a
    · obtain ⟨rfl, rfl⟩ := h1
      rw [hlba, hlab]
    · by_cases h2 : c = a ∧ d = b
      · obtain ⟨rfl, rfl⟩ := h2
        rw [hlab, hlba]
      · rw [hl2, if_neg h1, hl2, if_neg (fun q => h2 ⟨q.2, q.1⟩), a5 c d h2, a5 d c (fun q => h1 ⟨q.2, q.1⟩), h.sym]
/-- The graph of a valid network. -/
def zft (es : List Edge) (P : Nat) : Nat → List (List Int) × Ln
  | 0 => (List.replicate P default, [])
  | k + 1 => entE es k (zft es P k)
structure zgr (x : z2) : Prop where
  places : x.places.length ≤ 512
  edges : x.edges.length ≤ 2048
  edge : ∀ i : Int, 0 ≤ i → i < (x.edges.length : Int) → zb9 x.places.length (gt x.edges i) = true
theorem y5e {x : z2} (h : z99 x = 0) : zgr x := by
  obtain ⟨h1, h2, _, h4⟩ := zhn h
  exact ⟨h1, h2, fun i h0 hi => h4 _ (z6o h0 hi)⟩
theorem zgr.ends {x : z2} (h : zgr x) {i : Int} (h0 : 0 ≤ i) (hi : i < (x.edges.length : Int)) : 0 ≤ (gt x.edges i).a ∧ (gt x.edges i).a < (x.places.length : Int) ∧ 0 ≤ (gt x.edges i).b ∧ (gt x.edges i).b < (x.places.length : Int) ∧
    (gt x.edges i).a ≠ (gt x.edges i).b ∧ 0 ≤ (gt x.edges i).railway ∧ (gt x.edges i).railway ≤ 15 ∧ 1 ≤ (gt x.edges i).minutes ∧ (gt x.edges i).minutes ≤ 100000 ∧ 0 ≤ (gt x.edges i).km ∧ (gt x.edges i).km ≤ 10000 := by
  have := h.edge i h0 hi
  simp only [zb9, Bool.and_eq_true, zpe, bne_iff_ne, ne_eq] at this
  obtain ⟨⟨⟨⟨⟨q1, q2⟩, q3⟩, q4⟩, q5⟩, q6⟩ := this
  exact ⟨q1.1, by omega, q2.1, by omega, q3, q4.1, q4.2, q5.1, q5.2, q6.1, q6.2⟩
theorem zbw {x : z2} (h : zgr x) : ∀ k, k ≤ x.edges.length → HI x.edges x.places.length k (zft x.edges x.places.length k)
  | 0, _ => zwo _ _
  | k + 1, hk => by
    obtain ⟨a1, a2, a3, a4, a5, _⟩ := h.ends (i := (k : Int)) (by omega) (by omega)
    exact zzx (zbw h k (by omega)) a1 a2 a3 a4 a5
/-- A graph: neighbours, and the minutes of the z8h to them. -/
structure Gr (P : Nat) (near : List (List Int)) (wt : Int → Int → Int) : Prop where
  len : near.length = P
  small : P ≤ 512
  size : ∀ a : Int, 0 ≤ a → a < (P : Int) → (gt near a).length ≤ 5000
  rng : ∀ a b : Int, 0 ≤ a → a < (P : Int) → b ∈ gt near a → 0 ≤ b ∧ b < (P : Int)
  sym : ∀ a b : Int, 0 ≤ a → a < (P : Int) → b ∈ gt near a → a ∈ gt near b ∧ wt b a = wt a b
  wt : ∀ a b : Int, 0 ≤ a → a < (P : Int) → b ∈ gt near a → 1 ≤ wt a b ∧ wt a b ≤ 100000
def z8h (x : z2) : Ln := (zft x.edges x.places.length x.edges.length).2
def wtN (x : z2) (a b : Int) : Int := (gt x.edges ((lget (z8h x) a b).getD default)).minutes
def zdq (x : z2) : List (List Int) := (zft x.edges x.places.length x.edges.length).1
def z3a (x : z2) : List (List Int) := (zdq x).map fun l => zbf (fun a b => decide (a < b)) l
theorem ztc {α β : Type} [Inhabited α] [Inhabited β] (f : α → β) (l : List α) {i : Int} (h0 : 0 ≤ i) (h : i < (l.length : Int)) : gt (l.map f) i = f (gt l i) := by
  obtain ⟨n, rfl⟩ : ∃ n : Nat, i = (n : Int) := ⟨i.toNat, by omega⟩
  rw [z7s (by simp; omega), z7s (by omega)]
  simp
theorem zkz {x : z2} (h : zgr x) {a b : Int} (ha : 0 ≤ a) (ha' : a < (x.places.length : Int)) (hb : b ∈ gt (z3a x) a) : ∃ i, lget (z8h x) a b = some i ∧ 0 ≤ i ∧ i < (x.edges.length : Int) ∧ (((gt x.edges i).a = a ∧ (gt x.edges i).b = b) ∨ ((gt x.edges i).a = b ∧ (gt x.edges i).b = a)) := by
  have H := zbw h x.edges.length (Nat.le_refl _)
  unfold z3a at hb
  rw [ztc _ _ ha (by show a < ((zdq x).length : Int); rw [show (zdq x).length = _ from H.len]; exact ha')] at hb
  have hb := (z2h _ _).mem_iff.1 hb
  have := (H.near a b ha ha').1 hb
  obtain ⟨i, hi⟩ := Option.isSome_iff_exists.1 this
  obtain ⟨h1, h2, h3⟩ := H.line _ _ _ hi
  exact ⟨i, hi, h1, h2, h3⟩
theorem grN {x : z2} (h : zgr x) : Gr x.places.length (z3a x) (wtN x) := by
  have H := zbw h x.edges.length (Nat.le_refl _)
  have hlen : (z3a x).length = x.places.length := by unfold z3a; rw [List.length_map]; exact H.len
  have hl0 : (zdq x).length = x.places.length := H.len
  have hmem : ∀ a b : Int, 0 ≤ a → a < (x.places.length : Int) → (b ∈ gt (z3a x) a ↔ (lget (z8h x) a b).isSome = true) := by
    intro a b ha ha'
    unfold z3a
    rw [ztc _ _ ha (by rw [hl0]; exact ha')]
    exact ((z2h _ _).mem_iff).trans (H.near a b ha ha')
  refine ⟨hlen, h.places, ?_, ?_, ?_, ?_⟩
  · intro a ha ha'
    unfold z3a
    rw [ztc _ _ ha (by rw [hl0]; exact ha'), (z2h _ _).length_eq]
    have := H.size a ha ha'
    have := h.edges
    show (gt (zft x.edges x.places.length x.edges.length).1 a).length ≤ _
    omega
  · intro a b ha ha' hb
    obtain ⟨i, _, h1, h2, h3⟩ := zkz h ha ha' hb
    obtain ⟨e1, e2, e3, e4, _⟩ := h.ends h1 h2
    rcases h3 with ⟨rfl, rfl⟩ | ⟨rfl, rfl⟩
    · exact ⟨e3, e4⟩
    · exact ⟨e1, e2⟩
  · intro a b ha ha' hb
    obtain ⟨i, hi, h1, h2, h3⟩ := zkz h ha ha' hb
    obtain ⟨e1, e2, e3, e4, _⟩ := h.ends h1 h2
    have hbr : 0 ≤ b ∧ b < (x.places.length : Int) := by
      rcases h3 with ⟨rfl, rfl⟩ | ⟨rfl, rfl⟩
      · exact ⟨e3, e4⟩
      · exact ⟨e1, e2⟩
    have hs : lget (z8h x) b a = lget (z8h x) a b := H.sym b a
    refine ⟨(hmem b a hbr.1 hbr.2).2 (by rw [hs, hi]; rfl), ?_⟩
    unfold wtN
    rw [hs]
  · intro a b ha ha' hb
    obtain ⟨i, hi, h1, h2, _⟩ := zkz h ha ha' hb
    obtain ⟨_, _, _, _, _, _, _, e1, e2, _⟩ := h.ends h1 h2
    unfold wtN
    rw [hi]
    exact ⟨e1, e2⟩
/-- The state of the search for least times: after k rounds. -/
structure DI (P : Nat) (near : List (List Int)) (wt : Int → Int → Int) (s : Int) (k : Nat) (t : List Int) (d : List Bool) : Prop where
  lt : t.length = P
  ld : d.length = P
  src : gt t s = 0
  bd : ∀ i : Int, 0 ≤ i → i < (P : Int) → gt t i = -1 ∨ (0 ≤ gt t i ∧ gt t i ≤ 100000 * k)
  don : ∀ i : Int, 0 ≤ i → i < (P : Int) → gt d i = true → 0 ≤ gt t i
  pre : ∀ a : Int, 0 ≤ a → a < (P : Int) → a ≠ s → 0 ≤ gt t a → ∃ q, 0 ≤ q ∧ q < (P : Int) ∧ gt d q = true ∧ q ∈ gt near a ∧ gt t a = gt t q + wt q a
  mon : ∀ q i : Int, 0 ≤ q → q < (P : Int) → 0 ≤ i → i < (P : Int) → gt d q = true → gt d i = false → 0 ≤ gt t i → gt t q ≤ gt t i
  nbr : ∀ q i : Int, 0 ≤ q → q < (P : Int) → gt d q = true → i ∈ gt near q → 0 ≤ gt t i ∧ gt t i ≤ gt t q + wt q i
  cnt : d.count true = k
/-- A round: the place p is done, and its neighbours are looked at. -/
structure RndI (P : Nat) (near : List (List Int)) (wt : Int → Int → Int) (s p : Int) (k : Nat) (t0 : List Int) (d : List Bool) (seen : List Int) (t : List Int) : Prop where
  lt : t.length = P
  own : gt t p = gt t0 p
  val : ∀ i : Int, 0 ≤ i → i < (P : Int) → gt t i = gt t0 i ∨ (i ∈ seen ∧ gt t i = gt t0 p + wt p i ∧ (gt t0 i < 0 ∨ gt t0 p + wt p i < gt t0 i))
  got : ∀ i ∈ seen, 0 ≤ i → 0 ≤ gt t i ∧ gt t i ≤ gt t p + wt p i
end Px
end
section
namespace Px
open Go
set_option linter.unusedVariables false
set_option linter.unusedSimpArgs false
section
variable {P : Nat} {near : List (List Int)} {wt : Int → Int → Int} {s : Int}
theorem zrm {α : Type} [Inhabited α] (l : List α) {i : Int} (h0 : 0 ≤ i) (h : i < (l.length : Int)) : zz l i (gt l i) = l := by
  obtain ⟨n, rfl⟩ : ∃ n : Nat, i = (n : Int) := ⟨i.toNat, by omega⟩
  rw [z7s (by omega)]
  simp [zz]
theorem zvp {p : Int} {k : Nat} {t0 : List Int} {d : List Bool} (h : DI P near wt s k t0 d) : RndI P near wt s p k t0 d [] t0 :=
  ⟨h.lt, rfl, fun i _ _ => .inl rfl, fun i hi => by cases hi⟩
theorem zws (hG : Gr P near wt) {p : Int} (hp : 0 ≤ p) (hp' : p < (P : Int)) {k : Nat} {t0 : List Int} {d : List Bool} (hp0 : 0 ≤ gt t0 p) {seen t : List Int} (h : RndI P near wt s p k t0 d seen t) {q : Int} (hq : q ∈ gt near p) :
    RndI P near wt s p k t0 d (seen ++ [q]) (if (decide (gt t q < 0) || decide (gt t p + wt p q < gt t q)) = true then zz t q (gt t p + wt p q) else t) := by
  obtain ⟨q0, q1⟩ := hG.rng p q hp hp' hq
  obtain ⟨w0, w1⟩ := hG.wt p q hp hp' hq
  have hown := h.own
  by_cases c : gt t q < 0 ∨ gt t p + wt p q < gt t q
  · rw [if_pos (by simpa using c)]
    have hqp : q ≠ p := fun e => by subst e; omega
    refine ⟨by rw [z24]; exact h.lt, ?_, fun i h0 h1 => ?_, fun i hi hneg => ?_⟩
    · rw [z11 _ _ _ _ q0 (by rw [h.lt]; exact q1) hp, if_neg (fun e => hqp e.symm)]; exact hown
    · rw [z11 _ _ _ _ q0 (by rw [h.lt]; exact q1) h0]
      by_cases e : i = q
      · subst e
        rw [if_pos rfl]
        refine .inr ⟨by simp, by rw [hown], ?_⟩
        rcases h.val i h0 h1 with h2 | ⟨_, h2, _⟩
        · rw [h2, hown] at c; exact c
        · rw [h2, hown] at c; exfalso; omega
      · rw [if_neg e]
        rcases h.val i h0 h1 with h2 | ⟨h2, h3, h4⟩
        · exact .inl h2
        · exact .inr ⟨List.mem_append_left _ h2, h3, h4⟩
    · by_cases e : i = q
      · subst e
        rw [z11 _ _ _ _ q0 (by rw [h.lt]; exact q1) q0, if_pos rfl, z11 _ _ _ _ q0 (by rw [h.lt]; exact q1) hp, if_neg (fun e => hqp e.symm)]
        omega
      · have hi : i ∈ seen := by
          rcases List.mem_append.1 hi with hi | hi
          · exact hi
          · exact absurd (List.mem_singleton.1 hi) e
        rw [z11 _ _ _ _ q0 (by rw [h.lt]; exact q1) hneg, if_neg e, z11 _ _ _ _ q0 (by rw [h.lt]; exact q1) hp, if_neg (fun e => hqp e.symm)]
        exact h.got i hi hneg
  · rw [if_neg (by simpa using c)]
    refine ⟨h.lt, hown, fun i h0 h1 => ?_, fun i hi hneg => ?_⟩
    · rcases h.val i h0 h1 with h2 | ⟨h2, h3, h4⟩
      · exact .inl h2
      · exact .inr ⟨List.mem_append_left _ h2, h3, h4⟩
    · rcases List.mem_append.1 hi with hi | hi
      · exact h.got i hi hneg
      · rw [List.mem_singleton.1 hi]; omega
theorem zot {d : List Bool} {p : Int} (hp : 0 ≤ p) (hp' : p < (d.length : Int)) (h : gt d p = false) : (zz d p true).count true = d.count true + 1 := by
  obtain ⟨n, rfl⟩ : ∃ n : Nat, p = (n : Int) := ⟨p.toNat, by omega⟩
  have hn : n < d.length := by omega
  rw [z7s hn] at h
  unfold zz
  rw [Int.toNat_natCast, List.count_set hn, h]
  simp
/-- A round done. -/
theorem zyj (hG : Gr P near wt) {p : Int} (hp : 0 ≤ p) (hp' : p < (P : Int)) {k : Nat} {t0 : List Int} {d : List Bool} (h : DI P near wt s k t0 d) (hs : 0 ≤ s) (hs' : s < (P : Int)) (hp0 : 0 ≤ gt t0 p) (hd : gt d p = false)
    (hmin : ∀ i : Int, 0 ≤ i → i < (P : Int) → 0 ≤ gt t0 i → gt d i = false → gt t0 p ≤ gt t0 i) {t : List Int} (hr : RndI P near wt s p k t0 d (gt near p) t) : DI P near wt s (k + 1) t (zz d p true) := by
  have hds : ∀ i : Int, 0 ≤ i → gt (zz d p true) i = if i = p then true else gt d i := fun i hi => z11 _ _ _ _ hp (by rw [h.ld]; exact hp') hi
  have hw : ∀ i, i ∈ gt near p → 1 ≤ wt p i ∧ wt p i ≤ 100000 := fun i hi => hG.wt p i hp hp' hi
  -- what is done stays
  have hdone : ∀ i : Int, 0 ≤ i → i < (P : Int) → gt d i = true → gt t i = gt t0 i := by
    intro i h0 h1 hdi
    rcases hr.val i h0 h1 with h2 | ⟨h2, h3, h4⟩
    · exact h2
    · have := hw i h2
      have := h.don i h0 h1 hdi
      have := h.mon i p h0 h1 hp hp' hdi hd hp0
      omega
  have hbdp := (h.bd p hp hp').resolve_left (by omega)
  refine ⟨hr.lt, by rw [z24]; exact h.ld, ?_, fun i h0 h1 => ?_, fun i h0 h1 hdi => ?_, fun a h0 h1 has hta => ?_, fun q i q0 q1 h0 h1 hdq hdi hti => ?_, fun q i q0 q1 hdq hin => ?_, ?_⟩
  · rcases hr.val s hs hs' with h2 | ⟨h2, h3, h4⟩
    · rw [h2, h.src]
    · have := hw s h2
      have := h.src
      omega
  · rcases hr.val i h0 h1 with h2 | ⟨h2, h3, h4⟩
    · rw [h2]
      rcases h.bd i h0 h1 with h5 | h5
      · exact .inl h5
      · right; omega
    · have := hw i h2
      right; omega
  · rw [hds i h0] at hdi
    by_cases e : i = p
    · subst e; rw [hr.own]; exact hp0
    · rw [if_neg e] at hdi
      rw [hdone i h0 h1 hdi]; exact h.don i h0 h1 hdi
  · rcases hr.val a h0 h1 with h2 | ⟨h2, h3, h4⟩
    · rw [h2] at hta ⊢
      obtain ⟨q, q0, q1, hdq, hqn, he⟩ := h.pre a h0 h1 has hta
      refine ⟨q, q0, q1, ?_, hqn, by rw [hdone q q0 q1 hdq]; exact he⟩
      rw [hds q q0]; split
      · rfl
      · exact hdq
    · obtain ⟨hsy, hwt⟩ := hG.sym p a hp hp' h2
      exact ⟨p, hp, hp', by rw [hds p hp, if_pos rfl], hsy, by rw [hr.own, h3]⟩
  · rw [hds q q0] at hdq
    rw [hds i h0] at hdi
    have hip : i ≠ p := fun e => by rw [if_pos e] at hdi; cases hdi
    rw [if_neg hip] at hdi
    have hge : gt t0 p ≤ gt t i := by
      rcases hr.val i h0 h1 with h2 | ⟨h2, h3, h4⟩
      · rw [h2] at hti ⊢; exact hmin i h0 h1 hti hdi
      · have := hw i h2; omega
    by_cases e : q = p
    · subst e; rw [hr.own]; exact hge
    · rw [if_neg e] at hdq
      have := h.mon q p q0 q1 hp hp' hdq hd hp0
      rw [hdone q q0 q1 hdq]; omega
  · rw [hds q q0] at hdq
    by_cases e : q = p
    · subst e; exact hr.got i hin (hG.rng q i hp hp' hin).1
    · rw [if_neg e] at hdq
      obtain ⟨i0, i1⟩ := hG.rng q i q0 q1 hin
      have := h.nbr q i q0 q1 hdq hin
      rw [hdone q q0 q1 hdq]
      rcases hr.val i i0 i1 with h2 | ⟨h2, h3, h4⟩
      · rw [h2]; exact this
      · have := hw i h2; omega
  · rw [zot hp (by rw [h.ld]; exact hp') hd, h.cnt]
/-- The search is over. -/
structure DF (P : Nat) (near : List (List Int)) (wt : Int → Int → Int) (s : Int) (t : List Int) : Prop where
  lt : t.length = P
  src : gt t s = 0
  bd : ∀ i : Int, 0 ≤ i → i < (P : Int) → gt t i = -1 ∨ (0 ≤ gt t i ∧ gt t i ≤ 51200000)
  pre : ∀ a : Int, 0 ≤ a → a < (P : Int) → a ≠ s → 0 ≤ gt t a → ∃ q, 0 ≤ q ∧ q < (P : Int) ∧ q ∈ gt near a ∧ 0 ≤ gt t q ∧ gt t a = gt t q + wt q a
  nbr : ∀ q i : Int, 0 ≤ q → q < (P : Int) → 0 ≤ gt t q → i ∈ gt near q → 0 ≤ gt t i ∧ gt t i ≤ gt t q + wt q i
theorem y4q (hG : Gr P near wt) {k : Nat} {t : List Int} {d : List Bool} (h : DI P near wt s k t d) (hall : ∀ i : Int, 0 ≤ i → i < (P : Int) → 0 ≤ gt t i → gt d i = true) : DF P near wt s t := by
  have hk : k ≤ P := by rw [← h.cnt, ← h.ld]; exact List.count_le_length
  have := hG.small
  refine ⟨h.lt, h.src, fun i h0 h1 => ?_, fun a h0 h1 ha hta => ?_, fun q i q0 q1 hq hi => h.nbr q i q0 q1 (hall q q0 q1 hq) hi⟩
  · rcases h.bd i h0 h1 with h2 | h2
    · exact .inl h2
    · right; omega
  · obtain ⟨q, q0, q1, hdq, hqn, he⟩ := h.pre a h0 h1 ha hta
    exact ⟨q, q0, q1, hqn, h.don q q0 q1 hdq, he⟩
theorem zx0 (hs : 0 ≤ s) (hs' : s < (P : Int)) (t : List Int) (ht : t.length = P) (hall : ∀ i : Int, 0 ≤ i → i < (P : Int) → gt t i = if i = s then 0 else -1) : DI P near wt s 0 t (List.replicate P (default : Bool)) := by
  have hd : ∀ i : Int, 0 ≤ i → i < (P : Int) → gt (List.replicate P (default : Bool)) i = false := fun i h0 h1 => by rw [z4j _ _ _ h0 (by omega)]; rfl
  refine ⟨ht, by simp, by rw [hall s hs hs', if_pos rfl], fun i h0 h1 => ?_, fun i h0 h1 h => ?_, fun a h0 h1 ha hta => ?_, fun q i q0 q1 h0 h1 hdq => ?_, fun q i q0 q1 hdq => ?_, ?_⟩
  · rw [hall i h0 h1]; split <;> omega
  · rw [hd i h0 h1] at h; cases h
  · rw [hall a h0 h1, if_neg ha] at hta; omega
  · rw [hd q q0 q1] at hdq; cases hdq
  · rw [hd q q0 q1] at hdq; cases hdq
  · simp [List.count_replicate]
end
section walk
variable {ρ : Type} {P : Nat} {near : List (List Int)} {wt : Int → Int → Int} {s : Int}
/-- The place that is next. -/
theorem y2d (hP : P ≤ 512) (A : Nat → Int → Int → Option ρ) (fin : Int → Option ρ) (t : List Int) (d : List Bool) (ht : t.length = P) (hd : d.length = P)
    (stp : ∀ n p i, A (n + 1) p i = (if (decide ((i : Int) < (P : Int))) = true then (ck ((0 : Int) ≤ i ∧ i < (t.length : Int)) (ck (((decide ((0 : Int) ≤ (gt t i))) = true) → (0 : Int) ≤ i ∧ i < (d.length : Int)) (ck ((((decide ((0 : Int) ≤ (gt t i))) && (!(gt d i))) = true ∧ (decide ((p : Int) < 0)) = false) → (0 : Int) ≤ i ∧ i < (t.length : Int)) (ck ((((decide ((0 : Int) ≤ (gt t i))) && (!(gt d i))) = true ∧ (decide ((p : Int) < 0)) = false) → (0 : Int) ≤ p ∧ p < (t.length : Int)) (if (((decide ((0 : Int) ≤ (gt t i))) && (!(gt d i))) && ((decide ((p : Int) < 0)) || (decide (((gt t i) : Int) < (gt t p))))) = true then (A n i (W (i + 1))) else (A n p (W (i + 1)))))))) else fin p)) (n : Nat) (hn : P < n) :
    ∃ p, A n (-1) 0 = fin p ∧ ((p = -1 ∧ ∀ i : Int, 0 ≤ i → i < (P : Int) → 0 ≤ gt t i → gt d i = true) ∨ (0 ≤ p ∧ p < (P : Int) ∧ 0 ≤ gt t p ∧ gt d p = false ∧ ∀ i : Int, 0 ≤ i → i < (P : Int) → 0 ≤ gt t i → gt d i = false → gt t p ≤ gt t i)) := by
  refine zy (fun n i (p : Int) => A n p i) P (fun i p => (p = -1 ∧ ∀ j : Int, 0 ≤ j → j < (i : Int) → 0 ≤ gt t j → gt d j = true) ∨ (0 ≤ p ∧ p < (i : Int) ∧ 0 ≤ gt t p ∧ gt d p = false ∧ ∀ j : Int, 0 ≤ j → j < (i : Int) → 0 ≤ gt t j → gt d j = false → gt t p ≤ gt t j))
    (fun o => ∃ p, o = fin p ∧ ((p = -1 ∧ ∀ i : Int, 0 ≤ i → i < (P : Int) → 0 ≤ gt t i → gt d i = true) ∨ (0 ≤ p ∧ p < (P : Int) ∧ 0 ≤ gt t p ∧ gt d p = false ∧ ∀ i : Int, 0 ≤ i → i < (P : Int) → 0 ≤ gt t i → gt d i = false → gt t p ≤ gt t i))) ?_ ?_ n (-1) (.inl ⟨rfl, fun j h0 h1 => by omega⟩) hn
  · intro n i p hi hI hs
    rw [stp, if_pos (by simp; omega), z6 ⟨by omega, by omega⟩, z6 (fun _ => ⟨by omega, by omega⟩), z6 (fun _ => ⟨by omega, by omega⟩), W_id (by omega) (by omega)]
    have hpr : (decide ((p : Int) < 0)) = false → (0 : Int) ≤ p ∧ p < (t.length : Int) := by
      intro h
      simp only [decide_eq_false_iff_not] at h
      rcases hI with ⟨rfl, _⟩ | ⟨h1, h2, _⟩
      · omega
      · exact ⟨h1, by omega⟩
    rw [z6 (fun h => hpr h.2)]
    have split_j : ∀ j : Int, j < ((i + 1 : Nat) : Int) → j < (i : Int) ∨ j = (i : Int) := fun j h => by omega
    by_cases c : (0 ≤ gt t (i : Int) ∧ gt d (i : Int) = false) ∧ (p < 0 ∨ gt t (i : Int) < gt t p)
    · rw [if_pos (by simpa using c)]
      refine hs _ (.inr ⟨by omega, by omega, c.1.1, c.1.2, fun j h0 h1 htj hdj => ?_⟩)
      rcases split_j j h1 with h2 | rfl
      · rcases hI with ⟨_, h3⟩ | ⟨q0, _, _, _, h3⟩
        · have := h3 j h0 h2 htj; rw [hdj] at this; cases this
        · have := h3 j h0 h2 htj hdj
          have := c.2.resolve_left (by omega)
          omega
      · exact Int.le_refl _
    · rw [if_neg (by simpa using c)]
      refine hs p ?_
      rcases hI with ⟨rfl, h3⟩ | ⟨q0, q1, q2, q3, h3⟩
      · refine .inl ⟨rfl, fun j h0 h1 htj => ?_⟩
        rcases split_j j h1 with h2 | rfl
        · exact h3 j h0 h2 htj
        · cases hdi : gt d (i : Int) with
          | true => rfl
          | false => exact absurd ⟨⟨htj, hdi⟩, .inl (by omega)⟩ c
      · refine .inr ⟨q0, by omega, q2, q3, fun j h0 h1 htj hdj => ?_⟩
        rcases split_j j h1 with h2 | rfl
        · exact h3 j h0 h2 htj hdj
        · rcases Int.lt_or_le (gt t (i : Int)) (gt t p) with h4 | h4
          · exact absurd ⟨⟨htj, hdj⟩, .inr h4⟩ c
          · exact h4
  · intro n p hI
    rw [stp, if_neg (by simp)]
    exact ⟨p, rfl, hI⟩
/-- The neighbours of a place. -/
theorem y3t (hG : Gr P near wt) {p : Int} (hp : 0 ≤ p) (hp' : p < (P : Int)) {k : Nat} (hk : k ≤ 512) {t0 : List Int} {d : List Bool} (hD : DI P near wt s k t0 d) (hp0 : 0 ≤ gt t0 p) (B : Nat → Int → List Int → Option ρ) (K : List Int → Option ρ) (nb : List Int) (hnb : nb = gt near p) (E : Nat) (lg : Int → Int) (mins : Int → Int)
    (hlg : ∀ q ∈ nb, 0 ≤ lg q ∧ lg q < (E : Int) ∧ mins (lg q) = wt p q)
    (stp : ∀ n i t, B (n + 1) i t = (if (decide ((i : Int) < (nb.length : Int))) = true then (ck ((0 : Int) ≤ i ∧ i < (nb.length : Int)) (ck ((0 : Int) ≤ p ∧ p < (t.length : Int)) (ck ((0 : Int) ≤ lg (gt nb i) ∧ lg (gt nb i) < (E : Int)) (ck ((0 : Int) ≤ (gt nb i) ∧ (gt nb i) < (t.length : Int)) (ck (((decide (((gt t (gt nb i)) : Int) < 0)) = false) → (0 : Int) ≤ (gt nb i) ∧ (gt nb i) < (t.length : Int)) (if ((decide (((gt t (gt nb i)) : Int) < 0)) || (decide (((W ((gt t p) + mins (lg (gt nb i)))) : Int) < (gt t (gt nb i))))) = true then (ck ((0 : Int) ≤ (gt nb i) ∧ (gt nb i) < (t.length : Int)) (B n (W (i + 1)) (zz t (gt nb i) (W ((gt t p) + mins (lg (gt nb i))))))) else (B n (W (i + 1)) t))))))) else K t)) (n : Nat) (hn : nb.length < n) :
    ∃ t, B n 0 t0 = K t ∧ RndI P near wt s p k t0 d nb t := by
  have hsz : nb.length ≤ 5000 := by rw [hnb]; exact hG.size p hp hp'
  have hbp := (hD.bd p hp hp').resolve_left (by omega)
  refine zy (fun n i t => B n i t) nb.length (fun i t => RndI P near wt s p k t0 d (nb.take i) t) (fun o => ∃ t, o = K t ∧ RndI P near wt s p k t0 d nb t) ?_ ?_ n t0 (zvp hD) hn
  · intro n i t hi hI hs
    have hm : gt nb (i : Int) ∈ gt near p := by rw [← hnb]; exact z6o (by omega) (by omega)
    obtain ⟨q0, q1⟩ := hG.rng p _ hp hp' hm
    obtain ⟨w0, w1⟩ := hG.wt p _ hp hp' hm
    obtain ⟨l0, l1, l2⟩ := hlg (gt nb (i : Int)) (by rw [hnb]; rw [hnb] at hm; exact hm)
    have hlt := hI.lt
    have hst := zws hG hp hp' hp0 hI hm
    rw [← z17 nb i hi] at hst
    have hr := hs _ hst
    have hown := hI.own
    rw [stp, if_pos (by simp; omega), z6 ⟨by omega, by omega⟩, z6 ⟨by omega, by omega⟩, z6 ⟨l0, l1⟩, z6 ⟨by omega, by omega⟩, z6 (fun _ => ⟨by omega, by omega⟩), l2, W_id (x := gt t p + _) (by omega) (by omega), W_id (by omega) (by omega)]
    generalize gt nb (i : Int) = q at *
    by_cases c : (decide (gt t q < 0) || decide (gt t p + wt p q < gt t q)) = true
    · rw [if_pos c] at hr ⊢
      rw [z6 ⟨by omega, by omega⟩]
      exact hr
    · rw [if_neg c] at hr ⊢
      exact hr
  · intro n t hI
    rw [stp, if_neg (by simp)]
    rw [List.take_length] at hI
    exact ⟨t, rfl, hI⟩
/-- All rounds. -/
theorem zyg (hG : Gr P near wt) (hs : 0 ≤ s) (hs' : s < (P : Int)) (M : Nat → List Int → List Bool → Option ρ) (fin : List Int → Option ρ) (φ : Nat)
    (rnd : ∀ n k t d, k ≤ 512 → DI P near wt s k t d → (∃ t', DF P near wt s t' ∧ M (n + 1) t d = fin t') ∨ (∃ t' p, 0 ≤ p ∧ p < (P : Int) ∧ DI P near wt s (k + 1) t' (zz d p true) ∧ M (n + 1) t d = M n t' (zz d p true))) :
    ∀ n k t d, DI P near wt s k t d → P < n + k → ∃ t', DF P near wt s t' ∧ M n t d = fin t' := by
  intro n
  induction n with
  | zero =>
    intro k t d h hn
    have hk : k ≤ P := by rw [← h.cnt, ← h.ld]; exact List.count_le_length
    omega
  | succ n ih =>
    intro k t d h hn
    have hk : k ≤ P := by rw [← h.cnt, ← h.ld]; exact List.count_le_length
    have := hG.small
    rcases rnd n k t d (by omega) h with h1 | ⟨t', p, _, _, h2, h3⟩
    · exact h1
    · rw [h3]
      exact ih (k + 1) t' _ h2 (by omega)
end walk
end Px
end
section
namespace Px
open Go
set_option linter.unusedVariables false
set_option linter.unusedSimpArgs false
section zo
variable (φ : Nat) (K : List Edge → Int → Int → Int → Int → z2 → z2 → List (List Int) → Ln → Option (Int × Int × Unit)) (x : z2) (a0 b0 : Int)
theorem z5r {i : Nat} (hi : i < x.edges.length) {P : Nat} {near : List (List Int)} {line : Ln} {a b : Int} (hl : near.length = P) (ha : 0 ≤ a) (ha' : a < (P : Int)) (hsz : (gt near a).length ≤ 10000) (hx : x.edges.length ≤ 2048) (hold : ∀ o, lget line a b = some o → 0 ≤ o ∧ o < (x.edges.length : Int)) :
    (if (!(lget line a b).isSome) = true then (ck ((0 : Int) ≤ a ∧ a < (near.length : Int)) (ck ((0 : Int) ≤ a ∧ a < (near.length : Int)) (ck ((a : Int) = a) (ck (fits ((gt near a).length + ([b]).length) 8) (ck ((0 : Int) ≤ a ∧ a < (near.length : Int)) (ck ((a : Int) = a) (z1q φ K i ((lget line a b).getD default) ((lget line a b).isSome) x.edges (x.edges.length : Int) i a0 b0 x (keyP a b) x (zz near a (gt near a ++ [b])) line))))))) else (z1q φ K i ((lget line a b).getD default) ((lget line a b).isSome) x.edges (x.edges.length : Int) i a0 b0 x (keyP a b) x near line)) =
    K x.edges (x.edges.length : Int) ((i : Int) + 1) a0 b0 x x (ent1 x.edges i a b (near, line)).1 (ent1 x.edges i a b (near, line)).2 := by
  have hW : W ((i : Int) + 1) = (i : Int) + 1 := W_id (by omega) (by omega)
  unfold z1q ent1
  simp only []
  cases h : lget line a b with
  | none =>
    simp only [Option.isSome_none, Bool.not_false, if_true, Option.getD_none, Bool.true_or]
    rw [z6 ⟨ha, by omega⟩, z6 ⟨ha, by omega⟩, z6 trivial, z6 (zyw (by simp; omega) (by omega)), z6 ⟨ha, by omega⟩, z6 trivial, z6 (by simp), z6 (by simp), hW]
  | some o =>
    have ho := hold o h
    simp only [Option.isSome_some, Bool.not_true, Bool.false_eq_true, if_false, Option.getD_some, Bool.false_or]
    rw [z6 (fun _ => ⟨by omega, by omega⟩), z6 (fun _ => ho), hW]
    by_cases c : decide ((gt x.edges (i : Int)).minutes < (gt x.edges o).minutes) = true
    · rw [if_pos c, if_pos c]
    · rw [if_neg c, if_neg c]
theorem zag {i : Nat} (hi : i < x.edges.length) {P : Nat} {near : List (List Int)} {line : Ln} {a b : Int} (hl : near.length = P) (ha : 0 ≤ a) (ha' : a < (P : Int)) (hsz : (gt near a).length ≤ 10000) (hx : x.edges.length ≤ 2048) (hold : ∀ o, lget line a b = some o → 0 ≤ o ∧ o < (x.edges.length : Int)) :
    (if (!(lget line a b).isSome) = true then (ck ((0 : Int) ≤ a ∧ a < (near.length : Int)) (ck ((0 : Int) ≤ a ∧ a < (near.length : Int)) (ck ((a : Int) = a) (ck (fits ((gt near a).length + ([b]).length) 8) (ck ((0 : Int) ≤ a ∧ a < (near.length : Int)) (ck ((a : Int) = a) (z1s φ K i ((lget line a b).getD default) ((lget line a b).isSome) x.edges (x.edges.length : Int) i a0 b0 x (keyP a b) x (zz near a (gt near a ++ [b])) line))))))) else (z1s φ K i ((lget line a b).getD default) ((lget line a b).isSome) x.edges (x.edges.length : Int) i a0 b0 x (keyP a b) x near line)) =
    K x.edges (x.edges.length : Int) ((i : Int) + 1) a0 b0 x x (ent1 x.edges i a b (near, line)).1 (ent1 x.edges i a b (near, line)).2 := z5r φ K x a0 b0 hi hl ha ha' hsz hx hold
theorem z5u (hx : zgr x) {i : Nat} (hi : i < x.edges.length) {near near1 : List (List Int)} {line : Ln} (old : Int) (sm : Bool) (hl : near1.length = x.places.length) (ho : sm = true → 0 ≤ old ∧ old < (x.edges.length : Int))
    (hsz : (gt near1 (gt x.edges (i : Int)).b).length ≤ 10000) (hline : ∀ a b o, lget line a b = some o → 0 ≤ o ∧ o < (x.edges.length : Int)) (line1 : Ln) (h1 : line1 = if (!sm || decide ((gt x.edges (i : Int)).minutes < (gt x.edges old).minutes)) = true then lset line (gt x.edges (i : Int)).a (gt x.edges (i : Int)).b i else line) :
    z1u φ K i old sm i x.edges (x.edges.length : Int) i a0 b0 x (keyP (gt x.edges (i : Int)).a (gt x.edges (i : Int)).b) (gt x.edges (i : Int)) x near1 line =
    K x.edges (x.edges.length : Int) ((i : Int) + 1) a0 b0 x x (ent1 x.edges i (gt x.edges (i : Int)).b (gt x.edges (i : Int)).a (near1, line1)).1 (ent1 x.edges i (gt x.edges (i : Int)).b (gt x.edges (i : Int)).a (near1, line1)).2 := by
  obtain ⟨e1, e2, e3, e4, e5, _⟩ := hx.ends (i := (i : Int)) (by omega) (by omega)
  unfold z1u
  rw [z6 (fun _ => ⟨by omega, by omega⟩), z6 (fun h => ho (by simpa using h))]
  by_cases c : (!sm || decide ((gt x.edges (i : Int)).minutes < (gt x.edges old).minutes)) = true
  · rw [if_pos c] at h1 ⊢
    subst h1
    refine z5r φ K x a0 b0 hi hl e3 e4 hsz hx.edges fun o h => ?_
    rw [zgs, if_neg (fun q => e5 q.1.symm)] at h
    exact hline _ _ o h
  · rw [if_neg c] at h1 ⊢
    subst h1
    exact zag φ K x a0 b0 hi hl e3 e4 hsz hx.edges fun o h => hline _ _ o h
end zo
section zo
variable (φ : Nat) (x : z2) (a0 b0 : Int)
theorem zc9 (hx : zgr x) (n : Nat) {i : Nat} (hi : i < x.edges.length) {s : List (List Int) × Ln} (h : HI x.edges x.places.length i s) :
    zg φ (n + 1) x.edges (x.edges.length : Int) i a0 b0 x x s.1 s.2 = zg φ n x.edges (x.edges.length : Int) ((i : Int) + 1) a0 b0 x x (entE x.edges i s).1 (entE x.edges i s).2 := by
  obtain ⟨e1, e2, e3, e4, e5, _⟩ := hx.ends (i := (i : Int)) (by omega) (by omega)
  have hE := hx.edges
  have hline : ∀ a b o, lget s.2 a b = some o → 0 ≤ o ∧ o < (x.edges.length : Int) := fun a b o ho => by
    obtain ⟨h1, h2, _⟩ := h.line _ _ _ ho
    exact ⟨h1, by omega⟩
  have hsa := h.size _ e1 e2
  have hsb := h.size _ e3 e4
  have hlen := h.len
  rw [zg, if_pos (by simp; omega), z6 ⟨by omega, by omega⟩]
  unfold entE
  generalize hs1 : ent1 x.edges i (gt x.edges (i : Int)).a (gt x.edges (i : Int)).b s = s1
  have hs1' := hs1
  unfold ent1 at hs1'
  cases hg : lget s.2 (gt x.edges (i : Int)).a (gt x.edges (i : Int)).b with
  | none =>
    have hg' : @mget (Nat → Int) Int ⟨beqA 2⟩ s.2 (upd (upd (fun _ => (default : Int)) 0 (gt x.edges (i : Int)).a) 1 (gt x.edges (i : Int)).b) = none := hg
    rw [hg] at hs1'
    simp only [Option.isSome_none, Bool.not_false, if_true, Option.getD_none, Bool.true_or] at hs1'
    rw [hg']
    simp only [Option.isSome_none, Bool.not_false, if_true, Option.getD_none]
    rw [z6 ⟨e1, by omega⟩, z6 ⟨e1, by omega⟩, z6 trivial, z6 (zyw (by simp; omega) (by omega)), z6 ⟨e1, by omega⟩, z6 trivial, ← hs1']
    refine z5u φ (zg φ n) x a0 b0 hx hi (near := s.1) _ _ (by rw [z24]; exact hlen) (fun h => by cases h) ?_ hline _ (by simp)
    rw [z11 _ _ _ _ e1 (by omega) e3, if_neg (fun q => e5 q.symm)]
    omega
  | some o =>
    have hg' : @mget (Nat → Int) Int ⟨beqA 2⟩ s.2 (upd (upd (fun _ => (default : Int)) 0 (gt x.edges (i : Int)).a) 1 (gt x.edges (i : Int)).b) = some o := hg
    rw [hg] at hs1'
    simp only [Option.isSome_some, Bool.not_true, Bool.false_eq_true, if_false, Option.getD_some, Bool.false_or] at hs1'
    rw [hg']
    simp only [Option.isSome_some, Bool.not_true, Bool.false_eq_true, if_false, Option.getD_some]
    rw [← hs1']
    exact z5u φ (zg φ n) x a0 b0 hx hi (near := s.1) _ _ hlen (fun _ => hline _ _ _ hg) (by omega) hline _ (by simp)
theorem zcd (hx : zgr x) (hφ : 5000 < φ) (line : Ln) : z0i φ φ ((zdq x).length : Int) 0 a0 b0 (zdq x) x line = (ck (z35 (x.places.length : Int) 8) (ck (z35 (((List.replicate ((x.places.length : Int) : Int).toNat (default : Int)).length : Int)) 1) (zm φ φ a0 (((List.replicate ((x.places.length : Int) : Int).toNat (default : Int)).length : Int)) 0 b0 x (List.replicate ((x.places.length : Int) : Int).toNat (default : Int)) ((List.replicate (((List.replicate ((x.places.length : Int) : Int).toNat (default : Int)).length : Int) : Int).toNat (default : Bool))) (z3a x) line))) := by
  have hl0 : (zdq x).length = x.places.length := (zbw hx x.edges.length (Nat.le_refl _)).len
  have hP := hx.places
  have hE := hx.edges
  obtain ⟨n0, hn0⟩ : ∃ n0, n0 = x.places.length := ⟨_, rfl⟩
  rw [← hn0] at hl0 hP
  rw [hl0]
  have hfin : ∀ o : List (List Int), o.length = n0 → (∀ w : Nat, w < n0 → gt o (w : Int) = zbf (fun a b => decide (a < b)) (gt (zdq x) (w : Int))) → o = z3a x := by
    intro o ho hw
    unfold z3a
    refine List.ext_getElem (by simp [ho, hl0]) fun i h1 h2 => ?_
    have := hw i (by omega)
    rw [z7s h1, z7s (by omega)] at this
    simpa using this
  refine zy (fun n i o => z0i φ n (n0 : Int) i a0 b0 o x line) n0 (fun i o => o.length = n0 ∧ ∀ w : Nat, w < n0 → gt o (w : Int) = if w < i then zbf (fun a b => decide (a < b)) (gt (zdq x) (w : Int)) else gt (zdq x) (w : Int)) (fun o => o = (ck (z35 (x.places.length : Int) 8) (ck (z35 (((List.replicate ((x.places.length : Int) : Int).toNat (default : Int)).length : Int)) 1) (zm φ φ a0 (((List.replicate ((x.places.length : Int) : Int).toNat (default : Int)).length : Int)) 0 b0 x (List.replicate ((x.places.length : Int) : Int).toNat (default : Int)) ((List.replicate (((List.replicate ((x.places.length : Int) : Int).toNat (default : Int)).length : Int) : Int).toNat (default : Bool))) (z3a x) line)))) ?_ ?_ φ (zdq x) ⟨hl0, fun w hw => by rw [if_neg (by omega)]⟩ (by omega)
  · intro n i o hi ⟨ho1, ho2⟩ hs
    have hsz := (zbw hx x.edges.length (Nat.le_refl _)).size (i : Int) (by omega) (by omega)
    have hsz : (gt (zdq x) (i : Int)).length ≤ 2 * x.edges.length := hsz
    have hso : zeq (gt (zdq x) (i : Int)) = some (zbf (fun a b => decide (a < b)) (gt (zdq x) (i : Int))) := by
      unfold zeq zgq; rw [if_pos (by omega)]
    rw [z0i, if_pos (by simp; omega), z6 ⟨by omega, by omega⟩, z6 ⟨by omega, by omega⟩, z6 rfl, ho2 i hi, if_neg (by omega), hso, Option.bind_some, W_id (by omega) (by omega)]
    refine hs _ ⟨by rw [z24]; exact ho1, fun w hw => ?_⟩
    rw [z11 _ _ _ _ (by omega) (by omega) (by omega)]
    by_cases e : w = i
    · subst e; rw [if_pos rfl, if_pos (by omega)]
    · rw [if_neg (by omega), ho2 w hw]
      by_cases h2 : w < i
      · rw [if_pos h2, if_pos (by omega)]
      · rw [if_neg h2, if_neg (by omega)]
  · intro n o ⟨ho1, ho2⟩
    have := hfin o ho1 fun w hw => by rw [ho2 w hw, if_pos hw]
    subst this
    rw [z0i, if_neg (by simp)]
theorem zai (hx : zgr x) (hφ : 5000 < φ) : zg φ φ x.edges (x.edges.length : Int) 0 a0 b0 x x (List.replicate ((x.places.length : Int)).toNat (default : List Int)) [] = (ck (z35 (x.places.length : Int) 8) (ck (z35 (((List.replicate ((x.places.length : Int) : Int).toNat (default : Int)).length : Int)) 1) (zm φ φ a0 (((List.replicate ((x.places.length : Int) : Int).toNat (default : Int)).length : Int)) 0 b0 x (List.replicate ((x.places.length : Int) : Int).toNat (default : Int)) ((List.replicate (((List.replicate ((x.places.length : Int) : Int).toNat (default : Int)).length : Int) : Int).toNat (default : Bool))) (z3a x) (z8h x)))) := by
  have hE := hx.edges
  have h0 : (List.replicate ((x.places.length : Int)).toNat (default : List Int), ([] : Ln)) = zft x.edges x.places.length 0 := by simp [zft]
  refine zy (fun n i (s : List (List Int) × Ln) => zg φ n x.edges (x.edges.length : Int) i a0 b0 x x s.1 s.2) x.edges.length (fun i s => s = zft x.edges x.places.length i) (fun o => o = (ck (z35 (x.places.length : Int) 8) (ck (z35 (((List.replicate ((x.places.length : Int) : Int).toNat (default : Int)).length : Int)) 1) (zm φ φ a0 (((List.replicate ((x.places.length : Int) : Int).toNat (default : Int)).length : Int)) 0 b0 x (List.replicate ((x.places.length : Int) : Int).toNat (default : Int)) ((List.replicate (((List.replicate ((x.places.length : Int) : Int).toNat (default : Int)).length : Int) : Int).toNat (default : Bool))) (z3a x) (z8h x))))) ?_ ?_ φ (List.replicate ((x.places.length : Int)).toNat (default : List Int), []) h0 (by omega)
  · intro n i s hi hs hk
    subst hs
    rw [zc9 φ x a0 b0 hx n hi (zbw hx i (by omega))]
    exact hk _ rfl
  · intro n s hs
    subst hs
    rw [zg, if_neg (by simp)]
    exact zcd φ x a0 b0 hx hφ (z8h x)
end zo
section z26
variable (φ : Nat) (K : List Edge → Int → Int → Int → Int → z2 → z2 → List (List Int) → Ln → Option ((List Int) × Int × Unit)) (x : z2) (a0 b0 : Int)
end z26
section z26
variable (φ : Nat) (x : z2) (a0 b0 : Int)
end z26
section z2u
variable (φ : Nat) (K : List Edge → Int → Int → List Int → z2 → z2 → List z2o → List (List Int) → Ln → Option ((List z2o) × Int × Unit)) (x : z2) (rt : List Int) (sh : List z2o)
end z2u
section z2u
variable (φ : Nat) (x : z2) (rt : List Int) (sh : List z2o)
end z2u
end Px
end
section
namespace Px
open Go
set_option linter.unusedVariables false
set_option linter.unusedSimpArgs false
section zo
variable (φ : Nat) (x : z2) (a0 b0 : Int)
theorem zak (hx : zgr x) (hφ : 800000 < φ) (hs : 0 ≤ a0) (hs' : a0 < (x.places.length : Int)) : ∃ t, DF x.places.length (z3a x) (wtN x) a0 t ∧
    zm φ φ a0 (((List.replicate ((x.places.length : Int) : Int).toNat (default : Int)).length : Int)) 0 b0 x (List.replicate ((x.places.length : Int) : Int).toNat (default : Int)) ((List.replicate (((List.replicate ((x.places.length : Int) : Int).toNat (default : Int)).length : Int) : Int).toNat (default : Bool)))  (z3a x) (z8h x) = (ck ((0 : Int) ≤ b0 ∧ b0 < (t.length : Int)) (if (decide (((gt t b0) : Int) < 0)) = true then (some (0, 80, ())) else (some ((gt t b0), 0, ())))) := by
  have hG := grN hx
  have hP := hx.places
  have hrep : (List.replicate ((x.places.length : Int) : Int).toNat (default : Int)).length = x.places.length := by simp
  rw [hrep]
  have e1 : ((x.places.length : Int)).toNat = x.places.length := by simp
  rw [e1]
  -- the search
  have search : ∀ t : List Int, t.length = x.places.length → (∀ i : Int, 0 ≤ i → i < (x.places.length : Int) → gt t i = if i = a0 then 0 else -1) →
      ∃ t', DF x.places.length (z3a x) (wtN x) a0 t' ∧ zi φ φ b0 x t (List.replicate x.places.length (default : Bool))  (z3a x) (z8h x) = (ck ((0 : Int) ≤ b0 ∧ b0 < (t'.length : Int)) (if (decide (((gt t' b0) : Int) < 0)) = true then (some (0, 80, ())) else (some ((gt t' b0), 0, ())))) := by
    intro t ht hall
    refine zyg hG hs hs' (fun n t d => zi φ n b0 x t d  (z3a x) (z8h x)) (fun t' => (ck ((0 : Int) ≤ b0 ∧ b0 < (t'.length : Int)) (if (decide (((gt t' b0) : Int) < 0)) = true then (some (0, 80, ())) else (some ((gt t' b0), 0, ()))))) φ ?_ φ 0 t _ (zx0 hs hs' t ht hall) (by omega)
    intro n k t d hk hD
    obtain ⟨p, hp1, hp2⟩ := y2d hP (fun m p i => z0a φ (zi φ n) m p (x.places.length : Int) i b0 x t d  (z3a x) (z8h x))
      (fun p => (if (decide ((p : Int) < 0)) = true then (ck ((0 : Int) ≤ b0 ∧ b0 < (t.length : Int)) (if (decide (((gt t b0) : Int) < 0)) = true then (some (0, 80, ())) else (some ((gt t b0), 0, ())))) else (ck ((0 : Int) ≤ p ∧ p < (d.length : Int)) (ck ((0 : Int) ≤ p ∧ p < ((z3a x).length : Int)) (ck ((0 : Int) ≤ p ∧ p < ((z3a x).length : Int)) (ck ((p : Int) = p) (z08 φ (zi φ n) φ p ((gt (z3a x) p).length : Int) 0 b0 x t (zz d p true) (gt (z3a x) p)  (z3a x) p (z8h x))))))))
      t d hD.lt hD.ld (fun m p i => by rw [z0a]) φ (by omega)
    have hM : zi φ (n + 1) b0 x t d  (z3a x) (z8h x) = z0a φ (zi φ n) φ (-1) (x.places.length : Int) 0 b0 x t d  (z3a x) (z8h x) := by
      rw [zi, hD.lt]
    simp only [] at hp1
    simp only [hM]
    rw [hp1]
    rcases hp2 with ⟨rfl, hall⟩ | ⟨p0, p1, p2, p3, p4⟩
    · left
      refine ⟨t, y4q hG hD hall, ?_⟩
      rw [if_pos (by decide)]
    · right
      rw [if_neg (by simp; omega), z6 ⟨p0, by rw [hD.ld]; exact p1⟩, z6 ⟨p0, by rw [hG.len]; exact p1⟩, z6 ⟨p0, by rw [hG.len]; exact p1⟩, z6 trivial]
      obtain ⟨t', h1, h2⟩ := y3t hG p0 p1 hk hD p2 (fun m i t => z08 φ (zi φ n) m p ((gt (z3a x) p).length : Int) i b0 x t (zz d p true) (gt (z3a x) p)  (z3a x) p (z8h x))
        (fun t => zi φ n b0 x t (zz d p true)  (zz (z3a x) p (gt (z3a x) p)) (z8h x)) (gt (z3a x) p) rfl x.edges.length (fun q => (lget (z8h x) p q).getD default) (fun i => (gt x.edges i).minutes)
        (fun q hq => by
          obtain ⟨i, hi, i0, i1, _⟩ := zkz hx p0 p1 hq
          rw [hi]
          exact ⟨i0, i1, by unfold wtN; rw [hi]⟩) (fun m i t => by rw [z08]) φ (by have := hG.size p p0 p1; omega)
      refine ⟨t', p, p0, p1, zyj hG p0 p1 hD hs hs' p2 p3 p4 h2, ?_⟩
      rw [zrm _ p0 (by rw [hG.len]; exact p1)] at h1
      exact h1
  -- all times are unknown at first
  refine zy (fun n i t => zm φ n a0 (x.places.length : Int) i b0 x t (List.replicate x.places.length (default : Bool))  (z3a x) (z8h x)) x.places.length (fun i t => t.length = x.places.length ∧ ∀ j : Int, 0 ≤ j → j < (i : Int) → gt t j = -1) (fun o => ∃ t, DF x.places.length (z3a x) (wtN x) a0 t ∧ o = (ck ((0 : Int) ≤ b0 ∧ b0 < (t.length : Int)) (if (decide (((gt t b0) : Int) < 0)) = true then (some (0, 80, ())) else (some ((gt t b0), 0, ()))))) ?_ ?_ φ (List.replicate x.places.length (default : Int)) ⟨by simp, fun j h0 h1 => by omega⟩ (by omega)
  · intro n i t hi ⟨h1, h2⟩ hs
    rw [zm, if_pos (by simp; omega), z6 ⟨by omega, by omega⟩, W_id (by omega) (by omega)]
    refine hs _ ⟨by rw [z24]; exact h1, fun j j0 j1 => ?_⟩
    rw [z11 _ _ _ _ (by omega) (by omega) j0]
    by_cases e : j = (i : Int)
    · rw [if_pos e]
    · rw [if_neg e]; exact h2 j j0 (by omega)
  · intro n t ⟨h1, h2⟩
    rw [zm, if_neg (by simp), z6 ⟨hs, by omega⟩]
    obtain ⟨t', h3, h4⟩ := search (zz t a0 0) (by rw [z24]; exact h1) (fun i i0 i1 => by
      rw [z11 _ _ _ _ hs (by omega) i0]
      split
      · rfl
      · exact h2 i i0 i1)
    exact ⟨t', h3, h4⟩
end zo
section z26
variable (φ : Nat) (x : z2) (a0 b0 : Int)
end z26
theorem zdb {n b : Nat} (h : n ≤ 100000000) (hb : b ≤ 1000) : fits n b := by
  unfold fits
  have : n * b ≤ 100000000 * 1000 := Nat.mul_le_mul h hb
  omega

/-- Between answers. -/
theorem zfg (φ : Nat) (hφ : 800000 < φ) (x : z2) (a b : Int) : ∃ t e, zo φ x a b = some (t, e, ()) ∧ 0 ≤ t ∧ t ≤ 51200000 := by
  unfold zo
  rw [zad _ (by omega), Option.bind_some]
  by_cases hn : z99 x = 0
  case neg =>
    rw [if_pos (by simpa using hn), if_pos (by simpa using hn)]
    exact ⟨0, _, rfl, by omega, by omega⟩
  have hx := y5e hn
  have hP := hx.places
  rw [if_neg (by simp [hn])]
  obtain ⟨m, rfl⟩ : ∃ m, φ = m + 3 := ⟨φ - 3, by omega⟩
  have g0 : gt [a, b] 0 = a := rfl
  have g1 : gt [a, b] 1 = b := rfl
  have L : ((([a, b] : List Int).length : Nat) : Int) = 2 := rfl
  have step : ∀ n i, z0z (m + 3) (n + 1) 2 i a b x [a, b] x [] = (if (decide ((i : Int) < 2)) = true then (ck ((0 : Int) ≤ i ∧ i < (2 : Int)) (if ((decide (((gt [a, b] i) : Int) < 0)) || (decide (((x.places.length : Int) : Int) ≤ (gt [a, b] i)))) = true then (some (0, 1, ())) else (z0z (m + 3) n 2 (W (i + 1)) a b x [a, b] x []))) else (ck (z35 (x.places.length : Int) 24) (zg (m + 3) (m + 3) x.edges (x.edges.length : Int) 0 a b x x (List.replicate ((x.places.length : Int) : Int).toNat (default : (List Int))) ([] : List ((Nat → Int) × Int))))) := fun n i => by rw [z0z]; rfl
  rw [L, show m + 3 = (m + 2) + 1 from rfl, step, if_pos (by decide), z6 (by decide), g0]
  by_cases ha : 0 ≤ a ∧ a < (x.places.length : Int)
  case neg =>
    rw [if_pos (by simp; omega)]
    exact ⟨0, 1, rfl, by omega, by omega⟩
  rw [if_neg (by simp; omega), show W (0 + 1) = 1 by rfl, show m + 2 = (m + 1) + 1 from rfl, step, if_pos (by decide), z6 (by decide), g1]
  by_cases hb : 0 ≤ b ∧ b < (x.places.length : Int)
  case neg =>
    rw [if_pos (by simp; omega)]
    exact ⟨0, 1, rfl, by omega, by omega⟩
  rw [if_neg (by simp; omega), show W (1 + 1) = 2 by rfl, step, if_neg (by decide), z6 (mk_t _ _ (by omega) (by omega) (by omega)), zai (m + 3) x a b hx (by omega), z6 (mk_t _ _ (by omega) (by omega) (by omega)), z6 (mk_t _ _ (by omega) (by simp; omega) (by omega))]
  obtain ⟨t, h1, h2⟩ := zak (m + 3) x a b hx (by omega) ha.1 ha.2
  rw [h2, z6 ⟨hb.1, by rw [h1.lt]; exact hb.2⟩]
  rcases h1.bd b hb.1 hb.2 with h3 | ⟨h3, h4⟩
  · rw [if_pos (by simp; omega)]
    exact ⟨0, 80, rfl, by omega, by omega⟩
  · rw [if_neg (by simp; omega)]
    exact ⟨_, 0, rfl, h3, h4⟩
end Px
end
section
namespace Px
open Go
set_option linter.unusedVariables false
set_option linter.unusedSimpArgs false
set_option maxHeartbeats 4000000
def ztn (fit : Bool) (x : Part) : Bool := !(((((decide ((x.kind : Int) < 1)) || (decide ((3 : Int) < x.kind))) || (decide ((x.serial : Int) < 0))) || (decide ((1073741824 : Int) < x.serial))) || (x.fitted && (!fit)))
theorem z8j (φ : Nat) (l : List Part) (fit : Bool) (h : l.length ≤ 1000) (hφ : 1000 < φ) : zbm φ l fit = some (l.all (ztn fit) && decide ((l.length : Int) ≤ 16), ()) := by
  unfold zbm
  rw [zgn (fun n i => z4i φ n l fit l (l.length : Int) i) (some (decide ((l.length : Int) ≤ 16), ())) (some (false, ())) l (fun x => !ztn fit x) ?_ ?_ φ (by omega)]
  · simp only [List.any_eq_not_all_not, Bool.not_not]
    cases l.all (ztn fit) <;> rfl
  · intro n i hi
    rw [z4i, if_pos (by simp; omega), z6 ⟨by omega, by omega⟩, W_id (by omega) (by omega)]
    show _ = bif !!_ then _ else _
    rw [Bool.not_not]
    cases (((((decide (((gt l i).kind : Int) < 1)) || (decide ((3 : Int) < (gt l i).kind))) || (decide (((gt l i).serial : Int) < 0))) || (decide ((1073741824 : Int) < (gt l i).serial))) || ((gt l i).fitted && (!fit))) <;> rfl
  · intro n; rw [z4i, if_neg (by simp)]
/-- What is known of a valid item. -/
structure zpv (p : Pool) (it : Item) : Prop where
  kind : 1 ≤ it.kind ∧ it.kind ≤ 15
  wagon : it.kind ≤ 9 → 0 ≤ it.wagon ∧ it.wagon < (p.fleet.wagons.length : Int)
  read : it.kind = 1 → 0 ≤ it.other ∧ it.other < (p.readers.length : Int)
  place : it.kind = 2 ∨ it.kind = 3 ∨ it.kind = 4 ∨ it.kind = 6 ∨ it.kind = 7 ∨ it.kind = 9 → 0 ≤ it.place ∧ it.place < (p.network.places.length : Int)
  from_ : it.kind ≤ 9 → 0 ≤ it.from_ ∧ it.from_ ≤ 1073741824
  to : it.kind = 2 ∨ it.kind = 9 → it.from_ ≤ it.to ∧ it.to ≤ 1073741824
theorem zpl {ρ : Type} (c q : Bool) (K : Bool → Option ρ) : ((z1p (default, ()) (c = true) (some (q, ()))).bind fun y => K (c && y.1)) = K (c && q) := by
  unfold z1p
  cases c <;> rfl
theorem zu4 (p : Pool) (it : Item) (hparts : it.parts.length ≤ 1000) (hw : p.fleet.wagons.length ≤ 4096) (hr : p.readers.length ≤ 256) (hs : p.shippers.length ≤ 256) (hpl : p.network.places.length ≤ 512) (ht : p.fleet.types.length ≤ 32) :
    ∃ b, (∀ φ, 1000 < φ → z1l φ p it = some (b, ())) ∧ (b = true → zpv p it) := by
  have w1 : W ((p.fleet.wagons.length : Int) - 1) = (p.fleet.wagons.length : Int) - 1 := W_id (by omega) (by omega)
  have w2 : W ((p.readers.length : Int) - 1) = (p.readers.length : Int) - 1 := W_id (by omega) (by omega)
  have w3 : W ((p.shippers.length : Int) - 1) = (p.shippers.length : Int) - 1 := W_id (by omega) (by omega)
  have w4 : W ((p.network.places.length : Int) - 1) = (p.network.places.length : Int) - 1 := W_id (by omega) (by omega)
  have w5 : W ((p.fleet.types.length : Int) - 1) = (p.fleet.types.length : Int) - 1 := W_id (by omega) (by omega)
  have hm : ∀ x z : Int, max2 x 0 ≤ z ↔ x ≤ z ∧ 0 ≤ z := by intro x z; unfold max2; split <;> omega
  by_cases hk0 : it.kind < 1
  · refine ⟨false, fun φ hφ => ?_, fun h => by cases h⟩
    unfold z1l za
    rw [if_pos (by simp; omega), if_pos (by simpa using hk0)]
    simp
  by_cases hk16 : 15 < it.kind
  · refine ⟨false, fun φ hφ => ?_, fun h => by cases h⟩
    have e : ∀ k : Int, k ≤ 15 → (it.kind == k) = false := fun k hk => by simp; omega
    unfold z1l
    rw [if_neg (by simp; omega)]
    simp [e, z2a, za]
  have hcases : it.kind = 1 ∨ it.kind = 2 ∨ it.kind = 3 ∨ it.kind = 4 ∨ it.kind = 5 ∨ it.kind = 6 ∨ it.kind = 7 ∨ it.kind = 8 ∨ it.kind = 9 ∨ it.kind = 10 ∨ it.kind = 11 ∨ it.kind = 12 ∨ it.kind = 13 ∨ it.kind = 14 ∨ it.kind = 15 := by omega
  by_cases hin : 0 ≤ it.place ∧ it.place < (p.network.places.length : Int)
  · have e1 : (decide ((0 : Int) ≤ it.place) && decide ((it.place : Int) < (p.network.places.length : Int))) = true := by simp [hin]
    rcases hcases with hk | hk | hk | hk | hk | hk | hk | hk | hk | hk | hk | hk | hk | hk | hk
    case inr.inr.inr.inr.inr.inr.inr.inr.inl =>
      refine ⟨_, fun φ hφ => by
        unfold z1l
        simp only [hk, e1, z3u, z6 hin, w1, w2, w3, w4, w5, z8j φ _ _ hparts hφ, Option.bind_some, Int.reduceLE, Int.reduceLT, Int.reduceBEq, decide_true, decide_false, if_true, Bool.false_eq_true, if_false]
        refine (zpl _ _ (fun b => za φ ⟨_, _, b⟩)).trans ?_
        unfold za
        rfl, fun hb => ?_⟩
      simp only [Bool.and_eq_true, decide_eq_true_eq, hm, beq_iff_eq, bne_iff_ne, ne_eq, Bool.or_eq_true] at hb
      constructor <;> omega
    case inr.inr.inr.inr.inr.inr.inr.inr.inr.inl =>
      refine ⟨_, fun φ hφ => by
        unfold z1l
        simp only [hk, e1, z6 hin, w1, w2, w3, w4, w5, z8j φ _ _ hparts hφ, Option.bind_some, Int.reduceLE, Int.reduceLT, Int.reduceBEq, decide_true, decide_false, if_true, Bool.false_eq_true, if_false]
        refine (zpl _ _ (fun b => za φ ⟨_, _, b⟩)).trans ?_
        unfold za
        rfl, fun hb => ?_⟩
      constructor <;> omega
    all_goals
      refine ⟨_, fun φ hφ => by
        unfold z1l
        simp only [hk, e1, z5m, z3x, z40, z3w, z3z, z3o, z2a, z3q, za, z6 hin, w1, w2, w3, w4, w5, Option.bind_some, Int.reduceLE, Int.reduceLT, Int.reduceBEq, Int.reduceBNe, Int.reduceNe, decide_true, decide_false, if_true, Bool.false_eq_true, if_false]
        rfl, fun hb => ?_⟩
      simp only [Bool.and_eq_true, decide_eq_true_eq, hm, beq_iff_eq, bne_iff_ne, ne_eq, Bool.or_eq_true] at hb
      constructor <;> omega
  · have e1 : (decide ((0 : Int) ≤ it.place) && decide ((it.place : Int) < (p.network.places.length : Int))) = false := by
      rw [← Bool.not_eq_true]; simpa using hin
    rcases hcases with hk | hk | hk | hk | hk | hk | hk | hk | hk | hk | hk | hk | hk | hk | hk
    case inr.inr.inr.inr.inr.inr.inr.inr.inl =>
      refine ⟨_, fun φ hφ => by
        unfold z1l
        simp only [hk, e1, z3u, w1, w2, w3, w4, w5, z8j φ _ _ hparts hφ, Option.bind_some, Int.reduceLE, Int.reduceLT, Int.reduceBEq, decide_true, decide_false, if_true, Bool.false_eq_true, if_false]
        refine (zpl _ _ (fun b => za φ ⟨_, _, b⟩)).trans ?_
        unfold za
        rfl, fun hb => ?_⟩
      simp at hb
    case inr.inr.inr.inr.inr.inr.inr.inr.inr.inl =>
      refine ⟨_, fun φ hφ => by
        unfold z1l
        simp only [hk, e1, w1, w2, w3, w4, w5, z8j φ _ _ hparts hφ, Option.bind_some, Int.reduceLE, Int.reduceLT, Int.reduceBEq, decide_true, decide_false, if_true, Bool.false_eq_true, if_false]
        refine (zpl _ _ (fun b => za φ ⟨_, _, b⟩)).trans ?_
        unfold za
        rfl, fun hb => ?_⟩
      constructor <;> omega
    all_goals
      refine ⟨_, fun φ hφ => by
        unfold z1l
        simp only [hk, e1, z5m, z3x, z40, z3w, z3z, z3o, z2a, z3q, za, w1, w2, w3, w4, w5, Option.bind_some, Int.reduceLE, Int.reduceLT, Int.reduceBEq, Int.reduceBNe, Int.reduceNe, decide_true, decide_false, if_true, Bool.false_eq_true, if_false]
        rfl, fun hb => ?_⟩
      simp only [Bool.and_eq_true, decide_eq_true_eq, hm, beq_iff_eq, bne_iff_ne, ne_eq, Bool.or_eq_true] at hb
      first | (constructor <;> omega) | (simp at hb; done) | (simp at hb; constructor <;> omega)
def zby (p : Pool) (it : Item) : Bool := ((z1l 2000 p it).getD (false, ())).1
def zya (it : Item) : Bool := ((z5j 0 it).getD (false, ())).1
theorem zmf (φ : Nat) (it : Item) : z5j φ it = some (zya it, ()) := by
  unfold zya z5j
  split <;> rfl
/-- Does an item count? -/
def zch (p : Pool) (it : Item) : Bool := zya it && zby p it
theorem zlm {p : Pool} (hc : z1w p = 0) {it : Item} (hparts : it.parts.length ≤ 1000) : (∀ φ, 1000 < φ → z1l φ p it = some (zby p it, ())) ∧ (zby p it = true → zpv p it) := by
  obtain ⟨hn, hf, h1, h2, h3, hb⟩ := zc2 hc
  obtain ⟨n1, n2, _, _⟩ := zhn hn
  obtain ⟨f1, f2, _⟩ := z82 hf
  obtain ⟨b, hφ, hok⟩ := zu4 p it hparts f2 h1 h2 n1 f1
  have : zby p it = b := by unfold zby; rw [hφ 2000 (by omega)]; rfl
  rw [this]
  exact ⟨hφ, hok⟩
theorem zlu (φ : Nat) (hφ : 800000 < φ) {p : Pool} (hc : z1w p = 0) {it : Item} (hparts : it.parts.length ≤ 1000) : zdk φ p it = some (bif zch p it then 0 else 110, ()) := by
  unfold zdk zch
  rw [z8k φ hφ, Option.bind_some, if_neg (by simp [hc]), zmf, Option.bind_some]
  cases zya it with
  | false => rfl
  | true =>
    rw [gz_t (by simp), (zlm hc hparts).1 φ (by omega), Option.bind_some]
    cases zby p it <;> rfl
theorem ze3 {p : Pool} (hc : z1w p = 0) {it : Item} (hparts : it.parts.length ≤ 1000) (h : zch p it = true) : zpv p it := by
  simp only [zch, Bool.and_eq_true] at h
  exact (zlm hc hparts).2 h.2
end Px
end
section
namespace Px
open Go
set_option linter.unusedVariables false
set_option linter.unusedSimpArgs false
theorem zz5 {n b : Nat} (h : n ≤ 100000) (hb : b ≤ 1000) : fits n b := by
  unfold fits
  have : n * b ≤ 100000 * 1000 := Nat.mul_le_mul h hb
  omega
def z57 (r : zc) (place time : Int) : z0b := ⟨r.item.wagon, place, r.ref, false, time, time⟩
/-- The events of a report that counts. -/
def evs (p : Pool) (r : zc) (i : Int) : List z1 :=
  if r.item.kind = 1 then [⟨z57 r (gt p.readers r.item.other).place r.item.from_, i, false, false, r.item.other⟩]
  else if r.item.kind = 2 ∨ r.item.kind = 9 then [⟨z57 r r.item.place r.item.from_, i, false, true, -1⟩, ⟨z57 r r.item.place r.item.to, i, true, true, -1⟩]
  else if r.item.kind = 3 ∨ r.item.kind = 4 ∨ r.item.kind = 6 ∨ r.item.kind = 7 then [⟨z57 r r.item.place r.item.from_, i, false, false, -1⟩] else []
theorem zp4 (φ : Nat) (p : Pool) (r : zc) (i : Int) (h : r.item.kind = 1 → 0 ≤ r.item.other ∧ r.item.other < (p.readers.length : Int)) : z0d φ p r i = some (evs p r i, ()) := by
  by_cases h1 : r.item.kind = 1
  · have h' := h h1
    simp [z0d, evs, h1, z6 h', zk, z57]
  by_cases h2 : r.item.kind = 2
  · simp [z0d, evs, h2, zr, z1b, z1c, zk, z57]
  by_cases h9 : r.item.kind = 9
  · simp [z0d, evs, h9, zr, z1b, z1c, zk, z57]
  by_cases h3 : r.item.kind = 3
  · simp [z0d, evs, h3, zr, zq, zk, z57]
  by_cases h4 : r.item.kind = 4
  · simp [z0d, evs, h4, zr, zq, zk, z57]
  by_cases h6 : r.item.kind = 6
  · simp [z0d, evs, h6, zr, zq, zk, z57]
  by_cases h7 : r.item.kind = 7
  · simp [z0d, evs, h7, zr, zq, zk, z57]
  · simp [z0d, evs, h1, h2, h9, h3, h4, h6, h7, zr, zq]
theorem zc1 {p : Pool} {r : zc} {i : Int} {x : z1} (h : x ∈ evs p r i) : x.report = i ∧ x.visit.wagon = r.item.wagon ∧ x.visit.ref = r.ref := by
  unfold evs at h
  split at h
  · simp only [List.mem_singleton] at h; subst h; exact ⟨rfl, rfl, rfl⟩
  · split at h
    · simp only [List.mem_cons, List.not_mem_nil, or_false] at h
      rcases h with rfl | rfl <;> exact ⟨rfl, rfl, rfl⟩
    · split at h
      · simp only [List.mem_singleton] at h; subst h; exact ⟨rfl, rfl, rfl⟩
      · cases h
theorem ztr (p : Pool) (r : zc) (i : Int) : (evs p r i).length ≤ 2 := by
  unfold evs
  split
  · simp
  · split
    · simp
    · split <;> simp
theorem y3w (p : Pool) (r : zc) (i : Int) : (evs p r i).Pairwise fun a b => a.report ≠ b.report ∨ a.second ≠ b.second := by
  unfold evs
  split
  · simp
  · split
    · simp
    · split <;> simp
/-- The numbers of the reports that count. -/
def cntN (p : Pool) (l : List zc) (n : Nat) : List Int := ((List.range n).filter fun (i : Nat) => zch p (gt l (i : Int)).item).map fun (i : Nat) => (i : Int)
def cnt (p : Pool) (l : List zc) : List Int := cntN p l l.length
theorem ztt (p : Pool) (l : List zc) (n : Nat) : cntN p l (n + 1) = cntN p l n ++ (bif zch p (gt l (n : Int)).item then [(n : Int)] else []) := by
  unfold cntN
  rw [List.range_succ, List.filter_append, List.map_append]
  congr 1
  cases h : zch p (gt l (n : Int)).item <;> simp [h]
theorem zgo (p : Pool) (l : List zc) (n : Nat) : (cntN p l n).length ≤ n := by
  unfold cntN
  rw [List.length_map]
  exact Nat.le_trans (List.length_filter_le _ _) (by simp)
theorem zw4 {p : Pool} {l : List zc} {i : Int} (h : i ∈ cnt p l) : 0 ≤ i ∧ i < (l.length : Int) ∧ zch p (gt l i).item = true := by
  simp only [cnt, cntN, List.mem_map, List.mem_filter, List.mem_range] at h
  obtain ⟨n, ⟨h1, h2⟩, rfl⟩ := h
  exact ⟨by omega, by omega, h2⟩
theorem y3q (p : Pool) (l : List zc) : (cnt p l).Pairwise (· < ·) := by
  unfold cnt cntN
  rw [List.pairwise_map]
  refine (List.pairwise_lt_range.filter _).imp ?_
  intro a b h
  omega
/-- A list of reports that the laws admit. -/
structure FewL (l : List zc) : Prop where
  len : l.length ≤ 1000
  parts : ∀ r ∈ l, r.item.parts.length ≤ 1000
theorem FewL.gt {l : List zc} (h : FewL l) {i : Int} (h0 : 0 ≤ i) (hi : i < (l.length : Int)) : (Px.gt l i).item.parts.length ≤ 1000 := h.parts _ (z6o h0 hi)
theorem zrh (φ : Nat) (hφ : 800000 < φ) {p : Pool} (hc : z1w p = 0) {l : List zc} (hl : FewL l) : z7g φ p l = some (cnt p l, ()) := by
  have h1 := hl.len
  unfold z7g
  refine zy (fun n i acc => z1d φ n l (l.length : Int) i p acc) l.length (fun i acc => acc = cntN p l i) (fun o => o = some (cnt p l, ())) ?_ ?_ φ [] rfl (by omega)
  · intro n i acc hi hacc hs
    rw [z1d, if_pos (by simp; omega), z6 ⟨by omega, by omega⟩, zlu φ hφ hc (hl.gt (by omega) (by omega)), Option.bind_some, W_id (by omega) (by omega)]
    have hs' := hs (cntN p l (i + 1)) rfl
    rw [ztt] at hs'
    cases h : zch p (gt l (i : Int)).item with
    | true =>
      rw [h] at hs'
      rw [if_pos (by rfl), z6 (zz5 (by have := zgo p l i; rw [hacc]; simp; omega) (by omega)), hacc]
      exact hs'
    | false =>
      rw [h] at hs'
      simp only [cond_false, List.append_nil] at hs'
      rw [if_neg (by decide), hacc]
      exact hs'
  · intro n acc hacc
    rw [z1d, if_neg (by simp), hacc]; rfl
/-- The events of a wagon, as they were collected. -/
def unsC (p : Pool) (l : List zc) (c : List Int) (w : Int) : List z1 := c.flatMap fun i => if (gt l i).item.wagon = w then evs p (gt l i) i else []
def uns (p : Pool) (l : List zc) (w : Int) : List z1 := unsC p l (cnt p l) w
theorem zd1 (p : Pool) (l : List zc) (w : Int) : ∀ c : List Int, (unsC p l c w).length ≤ 2 * c.length
  | [] => by simp [unsC]
  | i :: c => by
    have := zd1 p l w c
    have h2 := ztr p (gt l i) i
    unfold unsC at *
    rw [List.flatMap_cons, List.length_append, List.length_cons]
    split
    · omega
    · simp only [List.length_nil]; omega
theorem y05 {a b : z1} (h : a.report ≠ b.report ∨ a.second ≠ b.second) : cfEv a b < 0 ∨ cfEv b a < 0 := by
  rw [zi7, zi7]
  have h2 : a.second ≠ b.second → ordB a.second ≠ ordB b.second := by
    cases a.second <;> cases b.second <;> simp [ordB]
  by_cases hs : a.second = b.second
  · have h3 := h.resolve_right (fun q => q hs)
    rw [hs]; omega
  · have := h2 hs
    omega
theorem y2y (p : Pool) (l : List zc) (w : Int) : (uns p l w).Pairwise fun a b => a.report ≠ b.report ∨ a.second ≠ b.second := by
  unfold uns unsC
  rw [List.pairwise_flatMap]
  refine ⟨fun i hi => ?_, (y3q p l).imp ?_⟩
  · split
    · exact y3w _ _ _
    · exact List.Pairwise.nil
  · intro i j hij x hx y hy
    split at hx
    · split at hy
      · rw [(zc1 hx).1, (zc1 hy).1]
        exact .inl (by omega)
      · cases hy
    · cases hx
theorem zlr {p : Pool} {l : List zc} (hl : l.length ≤ 1000) {w : Int} {x : z1} (h : x ∈ uns p l w) : 0 ≤ x.report ∧ x.report < (l.length : Int) ∧ x.visit.wagon = w ∧ zch p (gt l x.report).item = true ∧ x ∈ evs p (gt l x.report) x.report := by
  simp only [uns, unsC, List.mem_flatMap] at h
  obtain ⟨i, hi, hx⟩ := h
  obtain ⟨h1, h2, h3⟩ := zw4 hi
  split at hx
  · rename_i hw
    obtain ⟨r1, r2, r3⟩ := zc1 hx
    rw [r1]
    exact ⟨h1, h2, by rw [r2, hw], h3, hx⟩
  · cases hx
def ltEv (a b : z1) : Bool := decide (cfEv a b < 0)
def srt (p : Pool) (l : List zc) (w : Int) : List z1 := zbf ltEv (uns p l w)
theorem zrd {p : Pool} {l : List zc} (hl : l.length ≤ 1000) (w : Int) : sortEv (uns p l w) = some (srt p l w) := by
  refine zx1 (fun y hy => ?_) ?_ ((y2y p l w).imp fun h => y05 h)
  · obtain ⟨h1, h2, _⟩ := zlr hl hy
    simp only [okEv, decide_eq_true_eq]; omega
  · have := zd1 p l w (cnt p l)
    have h2 := zgo p l l.length
    unfold uns cnt at *
    omega
/-- Stays cover the gaps of a zbg. -/
def covM (e : z1) (m : List (Int × Bool)) : List (Int × Bool) := if (e.stay && e.second) = true then mdel m e.report else if e.stay = true then mset m e.report true else m
def zf6 (e : z1) (b : Bool) : z1 := ⟨⟨e.visit.wagon, e.visit.place, e.visit.ref, b, e.visit.early, e.visit.late⟩, e.report, e.second, e.stay, e.reader⟩
def zlb : List z1 → List (Int × Bool) → List z1
  | [], _ => []
  | e :: t, m => zf6 e (decide ((0 : Int) < ((covM e m).length : Int))) :: zlb t (covM e m)
theorem zmw : ∀ (t : List z1) (m : List (Int × Bool)), (zlb t m).length = t.length
  | [], _ => rfl
  | e :: t, m => by simp [zlb, zmw t]
def zbg (p : Pool) (l : List zc) (w : Int) : List z1 := zlb (srt p l w) []
theorem zsc {α : Type} (a : List α) (x y : α) (b : List α) : zz (a ++ x :: b) (a.length : Int) y = a ++ y :: b := by
  simp [zz]
theorem zyv {α : Type} [Inhabited α] (a : List α) (x : α) (b : List α) : gt (a ++ x :: b) (a.length : Int) = x := by
  simp [gt]
theorem zrq (φ : Nat) (k : Int → Int → List (List z1) → Option ((List (List z1)) × Unit)) (x19 x20 x24 : Int) (x23 : List (List z1)) :
    ∀ (n : Nat) (done todo : List z1) (m : List (Int × Bool)), todo.length < n → done.length + todo.length ≤ 100000 →
      z0e φ k n ((done.length + todo.length : Nat) : Int) (done.length : Int) x19 x20 (done ++ todo) m x23 x24 = k x19 (W (x20 + 1)) (zz x23 x24 (done ++ zlb todo m)) := by
  intro n
  induction n with
  | zero => intro d t m h _; omega
  | succ n ih =>
    intro d t m hn hl
    cases t with
    | nil =>
      rw [z0e, if_neg (by simp)]
      rfl
    | cons e t =>
      simp only [List.length_cons] at hn hl
      have hin : (0 : Int) ≤ (d.length : Int) ∧ (d.length : Int) < ((d ++ e :: t).length : Int) := ⟨by omega, by simp; omega⟩
      have key : ∀ m', z1y φ (z0e φ k n) (d.length : Int) ((d.length + (e :: t).length : Nat) : Int) (d.length : Int) x19 x20 (d ++ e :: t) m' x23 x24 =
          k x19 (W (x20 + 1)) (zz x23 x24 (d ++ zf6 e (decide ((0 : Int) < (m'.length : Int))) :: zlb t m')) := by
        intro m'
        unfold z1y
        rw [z6 hin, zyv, W_id (by omega) (by omega), zsc]
        have := ih (d ++ [zf6 e (decide ((0 : Int) < (m'.length : Int)))]) t m' (by omega) (by simp; omega)
        simp only [List.length_append, List.length_cons, List.length_nil, List.append_assoc, List.cons_append, List.nil_append] at this
        rw [show ((d.length + (e :: t).length : Nat) : Int) = ((d.length + (0 + 1) + t.length : Nat) : Int) by simp; omega, show (d.length : Int) + 1 = ((d.length + (0 + 1) : Nat) : Int) by omega]
        exact this
      rw [z0e, if_pos (by simp; omega), z6 hin, z6 (fun _ => hin), zyv]
      have hg : ∀ m', covM e m = m' → zlb (e :: t) m = zf6 e (decide ((0 : Int) < (m'.length : Int))) :: zlb t m' := fun m' hm => by subst hm; rfl
      by_cases h1 : (e.stay && e.second) = true
      · rw [if_pos h1, z6 hin, key, hg _ (if_pos h1)]
      · rw [if_neg h1, z6 hin]
        by_cases h2 : e.stay = true
        · rw [if_pos h2, z6 hin, key, hg (mset m e.report true) (by unfold covM; rw [if_neg h1, if_pos h2])]
        · rw [if_neg h2, key, hg m (by unfold covM; rw [if_neg h1, if_neg h2])]
theorem zuc (φ : Nat) (hφ : 800000 < φ) {p : Pool} (hc : z1w p = 0) {l : List zc} (hl : FewL l) : z4g φ p l = some ((List.range p.fleet.wagons.length).map fun (w : Nat) => zbg p l (w : Int), ()) := by
  have h1 := hl.len
  obtain ⟨_, hf, _⟩ := zc2 hc
  obtain ⟨_, f2, _⟩ := z82 hf
  have hcl := zgo p l l.length
  unfold z4g
  rw [z6 (mk_t _ _ (by omega) (by omega) (by omega)), zrh φ hφ hc hl, Option.bind_some]
  generalize hn0 : p.fleet.wagons.length = n0 at *
  have second : ∀ out : List (List z1), out.length = n0 → (∀ w : Nat, w < n0 → gt out (w : Int) = uns p l w) → z0s φ φ (out.length : Int) 0 out = some ((List.range n0).map fun (w : Nat) => zbg p l (w : Int), ()) := by
    intro out ho hu
    rw [ho]
    refine zy (fun n i o => z0s φ n (n0 : Int) i o) n0 (fun i o => o.length = n0 ∧ ∀ w : Nat, w < n0 → gt o (w : Int) = if w < i then zbg p l w else uns p l w) (fun o => o = some ((List.range n0).map fun (w : Nat) => zbg p l (w : Int), ())) ?_ ?_ φ out ⟨ho, fun w hw => by rw [hu w hw, if_neg (by omega)]⟩ (by omega)
    · intro n i o hi ⟨ho1, ho2⟩ hs
      rw [z0s, if_pos (by simp; omega), z6 ⟨by omega, by omega⟩, z6 ⟨by omega, by omega⟩, z6 rfl, ho2 i hi, if_neg (by omega), zrd h1, Option.bind_some]
      have hsl : (srt p l (i : Int)).length ≤ 2000 := by
        rw [srt, (z2h _ _).length_eq]
        have := zd1 p l i (cnt p l)
        unfold uns cnt at *
        omega
      have := zrq φ (z0s φ n) (n0 : Int) (i : Int) (i : Int) o φ [] (srt p l (i : Int)) [] (by omega) (by simp; omega)
      simp only [List.length_nil, Nat.zero_add, List.nil_append] at this
      refine this.trans ?_
      rw [W_id (by omega) (by omega)]
      refine hs _ ⟨by rw [z24]; exact ho1, fun w hw => ?_⟩
      rw [z11 _ _ _ _ (by omega) (by omega) (by omega)]
      by_cases e : w = i
      · subst e; rw [if_pos rfl, if_pos (by omega)]; rfl
      · rw [if_neg (by omega), ho2 w hw]
        by_cases h2 : w < i
        · rw [if_pos h2, if_pos (by omega)]
        · rw [if_neg h2, if_neg (by omega)]
    · intro n o ⟨ho1, ho2⟩
      rw [z0s, if_neg (by simp)]
      congr 2
      refine List.ext_getElem (by simp [ho1]) fun w hw hw2 => ?_
      have := ho2 w (by omega)
      rw [z7s hw, if_pos (by omega)] at this
      simpa using this
  refine zy (fun n i o => z1h φ n l (cnt p l) ((cnt p l).length : Int) i p o) (cnt p l).length (fun i o => o.length = n0 ∧ ∀ w : Nat, w < n0 → gt o (w : Int) = unsC p l ((cnt p l).take i) w) (fun o => o = some ((List.range n0).map fun (w : Nat) => zbg p l (w : Int), ())) ?_ ?_ φ _ ⟨by simp, fun w hw => ?_⟩ (by unfold cnt; omega)
  · intro n i o hi ⟨ho1, ho2⟩ hs
    have hmem : gt (cnt p l) (i : Int) ∈ cnt p l := z6o (by omega) (by omega)
    obtain ⟨c1, c2, c3⟩ := zw4 hmem
    have hI := ze3 hc (hl.gt c1 c2) c3
    have hcn : (cnt p l).length ≤ 1000 := by unfold cnt; omega
    rw [z1h, if_pos (by simp; omega), z6 ⟨by omega, by omega⟩, z6 ⟨c1, c2⟩, zp4 φ p _ _ hI.read, Option.bind_some]
    have hW : W ((i : Int) + 1) = (i : Int) + 1 := W_id (by omega) (by omega)
    have htake : ∀ w, unsC p l ((cnt p l).take (i + 1)) w = unsC p l ((cnt p l).take i) w ++ (if (gt l (gt (cnt p l) (i : Int))).item.wagon = w then evs p (gt l (gt (cnt p l) (i : Int))) (gt (cnt p l) (i : Int)) else []) := by
      intro w
      rw [z17 _ _ hi]
      simp [unsC]
    generalize gt (cnt p l) (i : Int) = ci at *
    generalize hev : evs p (gt l ci) ci = E at *
    have hE : E.length ≤ 2 := by rw [← hev]; exact ztr _ _ _
    simp only []
    by_cases h0 : 0 < E.length
    · have hkind : (gt l ci).item.kind ≤ 9 := by
        rcases Int.lt_or_le 9 (gt l ci).item.kind with h | h
        · exfalso
          have : E = [] := by
            rw [← hev]; unfold evs
            rw [if_neg (by omega), if_neg (by omega), if_neg (by omega)]
          rw [this] at h0; simp at h0
        · exact h
      have hwg := hI.wagon hkind
      rw [hn0] at hwg
      obtain ⟨w0, hw0⟩ : ∃ w0 : Nat, (gt l ci).item.wagon = (w0 : Int) := ⟨(gt l ci).item.wagon.toNat, by omega⟩
      rw [hw0] at hwg htake ⊢
      have hwg' : (0 : Int) ≤ (w0 : Int) ∧ (w0 : Int) < (o.length : Int) := ⟨by omega, by omega⟩
      have hul := zd1 p l w0 ((cnt p l).take i)
      rw [if_pos (by simpa using h0), z6 ⟨c1, c2⟩, z6 hwg', z6 hwg', z6 trivial, ho2 w0 (by omega),
        z6 (zz5 (by rw [List.length_take] at hul; omega) (by omega)), z6 hwg', z6 trivial, hW]
      refine hs _ ⟨by rw [z24]; exact ho1, fun w hw => ?_⟩
      rw [z11 _ _ _ _ (by omega) (by omega) (by omega), htake]
      by_cases e : (w : Int) = (w0 : Int)
      · rw [if_pos e, e, if_pos rfl]
      · rw [if_neg e, if_neg (fun q => e q.symm), List.append_nil, ho2 w hw]
    · have hnil : E = [] := List.eq_nil_of_length_eq_zero (by omega)
      rw [if_neg (by simpa using h0), hW]
      refine hs _ ⟨ho1, fun w hw => ?_⟩
      rw [htake, hnil, ho2 w hw]
      split <;> simp
  · intro n o ⟨ho1, ho2⟩
    rw [z1h, if_neg (by simp)]
    refine second o ho1 fun w hw => ?_
    rw [ho2 w hw, List.take_length]; rfl
  · rw [z4j _ _ _ (by omega) (by simp; omega)]
    simp [unsC]
    rfl
end Px
end
section
namespace Px
open Go
set_option linter.unusedVariables false
set_option linter.unusedSimpArgs false
theorem zdm (m : List (Int × Int)) (a v c : Int) : mget (mset m a v) c = if c = a then some v else mget m c := by
  induction m with
  | nil =>
    show (bif c == a then some v else none) = _
    by_cases h : c = a
    · rw [if_pos h]; simp [h]
    · rw [if_neg h]
      have : (c == a) = false := by simpa using h
      rw [this]; rfl
  | cons p m ih =>
    obtain ⟨k, w⟩ := p
    show mget (bif a == k then (a, v) :: m else (k, w) :: mset m a v) c = _
    have e1 : mget ((k, w) :: m) c = bif c == k then some w else mget m c := rfl
    by_cases h1 : a = k
    · subst h1
      simp only [beq_self_eq_true, cond_true]
      show (bif c == a then some v else mget m c) = _
      rw [e1]
      by_cases h : c = a
      · rw [if_pos h]; simp [h]
      · rw [if_neg h]
        have : (c == a) = false := by simpa using h
        rw [this]; rfl
    · have : (a == k) = false := by simpa using h1
      rw [this]
      show (bif c == k then some w else mget (mset m a v) c) = _
      rw [ih, e1]
      by_cases h2 : c = k
      · subst h2
        have h3 : ¬ c = a := fun e => h1 e.symm
        simp [h3]
      · have : (c == k) = false := by simpa using h2
        rw [this]; rfl
theorem zvm {p : Pool} {l : List zc} (hl : l.length ≤ 1000) (w : Int) : (zbg p l w).length ≤ 2000 := by
  unfold zbg
  rw [zmw, srt, (z2h _ _).length_eq]
  have := zd1 p l w (cnt p l)
  have := zgo p l l.length
  unfold uns cnt at *
  omega
/-- What the laws ask: a small pool, few reports. -/
theorem y3v (φ : Nat) (hφ : 1000 < φ) (p : Pool) (l : List zc) : ∃ b, zcz φ p l = some (b, ()) ∧ (b = true → FewL l ∧ l.length ≤ 60 ∧ p.network.places.length ≤ 16 ∧ p.network.edges.length ≤ 40 ∧ p.fleet.wagons.length ≤ 8 ∧ p.readers.length ≤ 8) := by
  have hsmall : ∃ b, z5c φ p = some (b, ()) ∧ (b = true → p.network.places.length ≤ 16 ∧ p.network.edges.length ≤ 40 ∧ p.fleet.wagons.length ≤ 8 ∧ p.readers.length ≤ 8) := by
    unfold z5c
    split
    · exact ⟨false, rfl, fun h => by cases h⟩
    · rename_i hc
      simp only [Bool.or_eq_true, decide_eq_true_eq, not_or] at hc
      obtain ⟨⟨⟨⟨⟨⟨c1, c2⟩, c3⟩, c4⟩, c5⟩, c6⟩, c7⟩ := hc
      have : ∃ b, z0p φ φ 0 p = some (b, ()) := by
        refine zy (fun n i (_ : Unit) => z0p φ n i p) p.railways.length (fun _ _ => True) (fun o => ∃ b, o = some (b, ())) ?_ ?_ φ () trivial (by omega)
        · intro n i _ hi _ hs
          rw [z0p, if_pos (by simp; omega), z6 ⟨by omega, by omega⟩, W_id (by omega) (by omega)]
          split
          · exact ⟨false, rfl⟩
          · exact hs () trivial
        · intro n _ _
          rw [z0p, if_neg (by simp)]
          exact ⟨true, rfl⟩
      obtain ⟨b, hb⟩ := this
      exact ⟨b, hb, fun _ => by omega⟩
  have hfew : ∃ b, z48 φ l 60 = some (b, ()) ∧ (b = true → FewL l ∧ l.length ≤ 60) := by
    unfold z48
    by_cases h60 : 60 < l.length
    · rw [if_pos (by simp; omega)]
      exact ⟨false, rfl, fun h => by cases h⟩
    · rw [if_neg (by simp; omega)]
      refine zy (fun n i (_ : Unit) => z0w φ n l i) l.length (fun i _ => ∀ j : Nat, j < i → (gt l (j : Int)).item.parts.length ≤ 40) (fun o => ∃ b, o = some (b, ()) ∧ (b = true → FewL l ∧ l.length ≤ 60)) ?_ ?_ φ () (fun j hj => by omega) (by omega)
      · intro n i _ hi hI hs
        rw [z0w, if_pos (by simp; omega), z6 ⟨by omega, by omega⟩, z6 (fun _ => ⟨by omega, by omega⟩), W_id (by omega) (by omega)]
        split
        · exact ⟨false, rfl, fun h => by cases h⟩
        · rename_i hc
          simp only [Bool.or_eq_true, decide_eq_true_eq, not_or] at hc
          refine hs () fun j hj => ?_
          by_cases e : j = i
          · subst e; omega
          · exact hI j (by omega)
      · intro n _ hI
        rw [z0w, if_neg (by simp)]
        refine ⟨true, rfl, fun _ => ⟨⟨by omega, fun r hr => ?_⟩, by omega⟩⟩
        obtain ⟨j, hj, rfl⟩ := zz2 hr
        have := hI j hj
        omega
  obtain ⟨b1, h1, h2⟩ := hsmall
  obtain ⟨b2, h3, h4⟩ := hfew
  unfold zcz
  rw [h1, Option.bind_some]
  cases b1 with
  | false =>
    rw [gz_f (by simp), Option.bind_some]
    exact ⟨_, rfl, fun h => by cases h⟩
  | true =>
    rw [gz_t rfl, h3, Option.bind_some]
    refine ⟨_, rfl, fun h => ?_⟩
    obtain ⟨q1, q2⟩ := h4 h
    obtain ⟨a1, a2, a3, a4⟩ := h2 rfl
    exact ⟨q1, q2, a1, a2, a3, a4⟩
end Px
end
