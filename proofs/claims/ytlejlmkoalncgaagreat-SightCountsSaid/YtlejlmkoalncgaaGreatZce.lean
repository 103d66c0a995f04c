/- A part of the proof of sightCounts_holds. Conditions: none. -/
import Derived.Test.YtlejlmkoalncgaaGreatZcd
import Derived.Ground.SlsfProg
import Derived.Ground.NamesProg
import Derived.Test.YtlejlmkoalncgaaGreatProg
import Derived.KernelRfl
section
namespace Go.Proofs
open Go.Shelf
def Tryz.sortEv_ren : Go.Shelf.Ren := ⟨fun | 6 => 63 | 15 => 98 | 14 => 97 | 28 => 134 | 29 => 125 | 20 => 126 | 21 => 127 | 22 => 128 | 23 => 129 | 24 => 130 | 25 => 131 | 26 => 132 | 27 => 133 | 46 => 154 | 47 => 155 | 48 => 156 | 49 => 157 | 50 => 158 | 57 => 163 | n => n, fun | 22 => 101 | 24 => 103 | 25 => 161 | 3 => 3 | 39 => 201 | 0 => 0 | 53 => 229 | 55 => 68 | 4 => 4 | 46 => 223 | 45 => 222 | 50 => 106 | 5 => 5 | 9 => 9 | 66 => 244 | 70 => 183 | 76 => 253 | 77 => 254 | n => n, fun | n => n⟩
theorem Tryz.sortEv : Go.Proofs.SlLaysF0.n6 Tryz.prog Tryz.sortEv_ren := {
  mixed := by kernel_rfl
  f6 := ⟨Tryz.f63.name, by decide, Tryz.func63.trans (congrArg some (by kernel_rfl))⟩
  f14 := ⟨Tryz.f97.name, by decide, Tryz.func97.trans (congrArg some (by kernel_rfl))⟩
  f15 := Tryz.func98.trans (congrArg some (by kernel_rfl))
  f20 := ⟨Tryz.f126.name, by decide, Tryz.func126.trans (congrArg some (by kernel_rfl))⟩
  f21 := ⟨Tryz.f127.name, by decide, Tryz.func127.trans (congrArg some (by kernel_rfl))⟩
  f22 := ⟨Tryz.f128.name, by decide, Tryz.func128.trans (congrArg some (by kernel_rfl))⟩
  f23 := ⟨Tryz.f129.name, by decide, Tryz.func129.trans (congrArg some (by kernel_rfl))⟩
  f24 := ⟨Tryz.f130.name, by decide, Tryz.func130.trans (congrArg some (by kernel_rfl))⟩
  f25 := ⟨Tryz.f131.name, by decide, Tryz.func131.trans (congrArg some (by kernel_rfl))⟩
  f26 := ⟨Tryz.f132.name, by decide, Tryz.func132.trans (congrArg some (by kernel_rfl))⟩
  f27 := ⟨Tryz.f133.name, by decide, Tryz.func133.trans (congrArg some (by kernel_rfl))⟩
  f28 := Tryz.func134.trans (congrArg some (by kernel_rfl))
  f29 := Tryz.func125.trans (congrArg some (by kernel_rfl))
  f46 := ⟨Tryz.f154.name, by decide, Tryz.func154.trans (congrArg some (by kernel_rfl))⟩
  f47 := Tryz.func155.trans (congrArg some (by kernel_rfl))
  f48 := Tryz.func156.trans (congrArg some (by kernel_rfl))
  f49 := ⟨Tryz.f157.name, by decide, Tryz.func157.trans (congrArg some (by kernel_rfl))⟩
  f50 := ⟨Tryz.f158.name, by decide, Tryz.func158.trans (congrArg some (by kernel_rfl))⟩
  f57 := ⟨Tryz.f163.name, by decide, Tryz.func163.trans (congrArg some (by kernel_rfl))⟩
  t0 := Tryz.underlying0
  a0 := Tryz.isAgg0
  z0 := Tryz.sizeOf0
  v0 := Tryz.zeroValue0
  t3 := Tryz.underlying3
  a3 := Tryz.isAgg3
  z3 := Tryz.sizeOf3
  v3 := Tryz.zeroValue3
  t4 := Tryz.underlying4
  a4 := Tryz.isAgg4
  z4 := Tryz.sizeOf4
  v4 := Tryz.zeroValue4
  t5 := Tryz.underlying5
  a5 := Tryz.isAgg5
  z5 := Tryz.sizeOf5
  v5 := Tryz.zeroValue5
  t9 := Tryz.underlying9
  a9 := Tryz.isAgg9
  z9 := Tryz.sizeOf9
  v9 := Tryz.zeroValue9
  t22 := Tryz.underlying101
  a22 := Tryz.isAgg101
  z22 := Tryz.sizeOf101
  v22 := Tryz.zeroValue101
  t25 := Tryz.underlying161
  a25 := Tryz.isAgg161
  z25 := Tryz.sizeOf161
  v25 := Tryz.zeroValue161
  t39 := Tryz.underlying201
  a39 := Tryz.isAgg201
  z39 := Tryz.sizeOf201
  v39 := Tryz.zeroValue201
  t45 := Tryz.underlying222
  a45 := Tryz.isAgg222
  z45 := Tryz.sizeOf222
  v45 := Tryz.zeroValue222
  t46 := Tryz.underlying223
  a46 := Tryz.isAgg223
  z46 := Tryz.sizeOf223
  v46 := Tryz.zeroValue223
  t50 := Tryz.underlying106
  a50 := Tryz.isAgg106
  z50 := Tryz.sizeOf106
  v50 := Tryz.zeroValue106
  t53 := Tryz.underlying229
  a53 := Tryz.isAgg229
  z53 := Tryz.sizeOf229
  v53 := Tryz.zeroValue229
  t55 := Tryz.underlying68
  a55 := Tryz.isAgg68
  z55 := Tryz.sizeOf68
  v55 := Tryz.zeroValue68
  t66 := Tryz.underlying244
  a66 := Tryz.isAgg244
  z66 := Tryz.sizeOf244
  v66 := Tryz.zeroValue244
  t70 := Tryz.underlying183
  a70 := Tryz.isAgg183
  z70 := Tryz.sizeOf183
  v70 := Tryz.zeroValue183
  t76 := Tryz.underlying253
  a76 := Tryz.isAgg253
  z76 := Tryz.sizeOf253
  v76 := Tryz.zeroValue253
  t77 := Tryz.underlying254
  a77 := Tryz.isAgg254
  z77 := Tryz.sizeOf254
  v77 := Tryz.zeroValue254 }
def Tryz.lays189_ren : Go.Shelf.Ren := ⟨fun | 189 => 92 | 125 => 98 | 257 => 123 | 128 => 134 | 129 => 125 | 294 => 143 | 295 => 144 | 296 => 145 | 297 => 146 | 298 => 147 | 299 => 148 | 216 => 149 | 300 => 150 | 301 => 151 | 328 => 159 | 329 => 155 | 330 => 156 | 331 => 160 | 332 => 161 | 215 => 99 | 343 => 164 | n => n, fun | 28 => 66 | 3 => 3 | 46 => 201 | 0 => 0 | 51 => 229 | 53 => 68 | 4 => 4 | 183 => 223 | 182 => 222 | 131 => 106 | 5 => 5 | 9 => 9 | 218 => 244 | 222 => 183 | 228 => 253 | 229 => 254 | n => n, fun | n => n⟩
theorem Tryz.lays189 : Go.Proofs.Lays.n189 Tryz.prog Tryz.lays189_ren := {
  mixed := by kernel_rfl
  f125 := Tryz.func98.trans (congrArg some (by kernel_rfl))
  f128 := Tryz.func134.trans (congrArg some (by kernel_rfl))
  f129 := Tryz.func125.trans (congrArg some (by kernel_rfl))
  f189 := Tryz.func92.trans (congrArg some (by kernel_rfl))
  f215 := Tryz.func99.trans (congrArg some (by kernel_rfl))
  f216 := Tryz.func149.trans (congrArg some (by kernel_rfl))
  f257 := Tryz.func123.trans (congrArg some (by kernel_rfl))
  f294 := Tryz.func143.trans (congrArg some (by kernel_rfl))
  f295 := Tryz.func144.trans (congrArg some (by kernel_rfl))
  f296 := Tryz.func145.trans (congrArg some (by kernel_rfl))
  f297 := Tryz.func146.trans (congrArg some (by kernel_rfl))
  f298 := Tryz.func147.trans (congrArg some (by kernel_rfl))
  f299 := Tryz.func148.trans (congrArg some (by kernel_rfl))
  f300 := Tryz.func150.trans (congrArg some (by kernel_rfl))
  f301 := Tryz.func151.trans (congrArg some (by kernel_rfl))
  f328 := Tryz.func159.trans (congrArg some (by kernel_rfl))
  f329 := Tryz.func155.trans (congrArg some (by kernel_rfl))
  f330 := Tryz.func156.trans (congrArg some (by kernel_rfl))
  f331 := Tryz.func160.trans (congrArg some (by kernel_rfl))
  f332 := Tryz.func161.trans (congrArg some (by kernel_rfl))
  f343 := Tryz.func164.trans (congrArg some (by kernel_rfl))
  t0 := Tryz.underlying0
  a0 := Tryz.isAgg0
  z0 := Tryz.sizeOf0
  v0 := Tryz.zeroValue0
  t3 := Tryz.underlying3
  a3 := Tryz.isAgg3
  z3 := Tryz.sizeOf3
  v3 := Tryz.zeroValue3
  t4 := Tryz.underlying4
  a4 := Tryz.isAgg4
  z4 := Tryz.sizeOf4
  v4 := Tryz.zeroValue4
  t5 := Tryz.underlying5
  a5 := Tryz.isAgg5
  z5 := Tryz.sizeOf5
  v5 := Tryz.zeroValue5
  t9 := Tryz.underlying9
  a9 := Tryz.isAgg9
  z9 := Tryz.sizeOf9
  v9 := Tryz.zeroValue9
  t28 := Tryz.underlying66
  a28 := Tryz.isAgg66
  z28 := Tryz.sizeOf66
  v28 := Tryz.zeroValue66
  t46 := Tryz.underlying201
  a46 := Tryz.isAgg201
  z46 := Tryz.sizeOf201
  v46 := Tryz.zeroValue201
  t51 := Tryz.underlying229
  a51 := Tryz.isAgg229
  z51 := Tryz.sizeOf229
  v51 := Tryz.zeroValue229
  t53 := Tryz.underlying68
  a53 := Tryz.isAgg68
  z53 := Tryz.sizeOf68
  v53 := Tryz.zeroValue68
  t131 := Tryz.underlying106
  a131 := Tryz.isAgg106
  z131 := Tryz.sizeOf106
  v131 := Tryz.zeroValue106
  t182 := Tryz.underlying222
  a182 := Tryz.isAgg222
  z182 := Tryz.sizeOf222
  v182 := Tryz.zeroValue222
  t183 := Tryz.underlying223
  a183 := Tryz.isAgg223
  z183 := Tryz.sizeOf223
  v183 := Tryz.zeroValue223
  t218 := Tryz.underlying244
  a218 := Tryz.isAgg244
  z218 := Tryz.sizeOf244
  v218 := Tryz.zeroValue244
  t222 := Tryz.underlying183
  a222 := Tryz.isAgg183
  z222 := Tryz.sizeOf183
  v222 := Tryz.zeroValue183
  t228 := Tryz.underlying253
  a228 := Tryz.isAgg253
  z228 := Tryz.sizeOf253
  v228 := Tryz.zeroValue253
  t229 := Tryz.underlying254
  a229 := Tryz.isAgg254
  z229 := Tryz.sizeOf254
  v229 := Tryz.zeroValue254 }
end Go.Proofs
end
section
namespace Px
open Go
set_option linter.unusedVariables false
set_option linter.unusedSimpArgs false
/-- A loop that counts up. -/
theorem zxd {σ ρ : Type} (L : Nat → Int → σ → Option ρ) (len : Nat) (Inv : Nat → σ → Prop) (G : Option ρ → Prop)
    (step : ∀ n i s, i < len → Inv i s → (∀ s', Inv (i + 1) s' → G (L n ((i : Int) + 1) s')) → G (L (n + 1) i s))
    (done : ∀ n s, Inv len s → G (L (n + 1) len s)) : ∀ n i s, i ≤ len → Inv i s → len - i < n → G (L n i s) := by
  intro n
  induction n with
  | zero => intro i s _ _ h; omega
  | succ n ih =>
    intro i s hi hI hn
    by_cases h : i = len
    · subst h; exact done n s hI
    · refine step n i s (by omega) hI fun s' hs' => ?_
      have := ih (i + 1) s' (by omega) hs' (by omega)
      simpa using this
/-- The same from the start. -/
theorem z01 {σ ρ : Type} (L : Nat → Int → σ → Option ρ) (len : Nat) (Inv : Nat → σ → Prop) (G : Option ρ → Prop)
    (step : ∀ n i s, i < len → Inv i s → (∀ s', Inv (i + 1) s' → G (L n ((i : Int) + 1) s')) → G (L (n + 1) i s))
    (done : ∀ n s, Inv len s → G (L (n + 1) len s)) (n : Nat) (s : σ) (h : Inv 0 s) (hn : len < n) : G (L n 0 s) := by
  simpa using zxd L len Inv G step done n 0 s (Nat.zero_le _) h (by omega)
theorem y6e (x : Int) : W x = if x % 18446744073709551616 ≥ 9223372036854775808 then x % 18446744073709551616 - 18446744073709551616 else x % 18446744073709551616 := by
  simp [W, IntKind.wrap, IntKind.bits, IntKind.signed]
theorem zts (x : Int) : U x = x % 18446744073709551616 := by
  simp [U, IntKind.wrap, IntKind.bits, IntKind.signed]
theorem W_id {x : Int} (h : -9223372036854775808 ≤ x) (h' : x ≤ 9223372036854775807) : W x = x := by
  rw [y6e]; split <;> omega
theorem U_id {x : Int} (h : 0 ≤ x) (h' : x ≤ 18446744073709551615) : U x = x := by
  rw [zts]; omega
theorem zm0 {α : Type} [Inhabited α] (ok : α → Bool) (l : List α) (i : Nat) (h : i < l.length) : (l.take (i + 1)).all ok = ((l.take i).all ok && ok (gt l (i : Int))) := by
  rw [List.take_succ_eq_append_getElem h, List.all_append]
  simp [gt, h]
theorem zbl {α : Type} [Inhabited α] (ok : α → Bool) (l : List α) (i : Nat) (h : i < l.length) : (l.take (i + 1)).any ok = ((l.take i).any ok || ok (gt l (i : Int))) := by
  rw [List.take_succ_eq_append_getElem h, List.any_append]
  simp [gt, h]
theorem z1a {α : Type} [Inhabited α] (l : List α) (i : Nat) (h : i < l.length) : l.take (i + 1) = l.take i ++ [gt l (i : Int)] := by
  rw [List.take_succ_eq_append_getElem h]
  simp [gt, h]
theorem zhe {α : Type} [Inhabited α] {l : List α} {i : Int} (h0 : 0 ≤ i) (h : i < (l.length : Int)) : gt l i ∈ l := by
  have hlt : i.toNat < l.length := by omega
  simp [gt, hlt]
theorem z8f {α : Type} [Inhabited α] {l : List α} {i : Nat} (h : i < l.length) : gt l (i : Int) = l[i] := by
  simp [gt, h]
theorem zrm {α : Type} [Inhabited α] (l : List α) (i : Nat) (h : i < l.length) : l.drop i = gt l (i : Int) :: l.drop (i + 1) := by
  rw [z8f h, List.getElem_cons_drop]
theorem y4i {α : Type} [Inhabited α] {l : List α} {x : α} (h : x ∈ l) : ∃ i : Nat, i < l.length ∧ gt l (i : Int) = x := by
  obtain ⟨i, hi, e⟩ := List.getElem_of_mem h
  exact ⟨i, hi, by rw [z8f hi, e]⟩
theorem z1i {α : Type} [Inhabited α] (l : List α) (i j : Int) (x : α) (hi : 0 ≤ i) (h : i < (l.length : Int)) (hj : 0 ≤ j) : gt (z0d l i x) j = if j = i then x else gt l j := by
  unfold gt z0d
  by_cases e : j = i
  · subst e
    have : j.toNat < l.length := by omega
    simp [List.getD, List.getElem?_set, this]
  · have : i.toNat ≠ j.toNat := by omega
    simp [List.getD, List.getElem?_set, this, e]
theorem z5l {α : Type} [Inhabited α] (n : Nat) (x : α) (j : Int) (hj : 0 ≤ j) (h : j < n) : gt (List.replicate n x) j = x := by
  have : j.toNat < n := by omega
  simp [gt, List.getD, List.getElem?_replicate, this]
/-- A loop over a list that remembers whether all its elements were in order. -/
theorem zib {α ρ : Type} [Inhabited α] (L : Nat → Int → Int → Option ρ) (k : Int → Option ρ) (l : List α) (ok : α → Bool)
    (step : ∀ (n i : Nat) (s : Int), i < l.length → L (n + 1) i s = L n ((i : Int) + 1) (bif ok (gt l i) then s else 1)) (done : ∀ n s, L (n + 1) l.length s = k s) :
    ∀ n s, l.length < n → L n 0 s = k (bif l.all ok then s else 1) := by
  intro n s hn
  refine zxd L l.length (fun i t => t = bif (l.take i).all ok then s else 1) (fun o => o = k (bif l.all ok then s else 1)) ?_ ?_ n 0 s (Nat.zero_le _) (by simp) (by omega)
  · intro n i t hi ht hs
    rw [step n i t hi]
    refine hs _ ?_
    rw [zm0 ok l i hi, ht]
    cases (l.take i).all ok <;> cases ok (gt l (i : Int)) <;> simp
  · intro n t ht
    rw [done, ht, List.take_length]
/-- A loop over a list that ends at the first element of a kind. -/
theorem zvi {α ρ : Type} [Inhabited α] (L : Nat → Int → Option ρ) (k : Option ρ) (l : List α) (p : α → Bool) (g : α → Option ρ)
    (step : ∀ n i : Nat, i < l.length → L (n + 1) i = bif p (gt l i) then g (gt l i) else L n ((i : Int) + 1)) (done : ∀ n, L (n + 1) l.length = k) :
    ∀ n, l.length < n → L n 0 = match l.find? p with | some x => g x | none => k := by
  intro n hn
  refine z01 (fun n i (_ : Unit) => L n i) l.length (fun i _ => ∀ x ∈ l.take i, p x = false) (fun o => o = match l.find? p with | some x => g x | none => k) ?_ ?_ n () (by simp) hn
  · intro n i _ hi hI hs
    simp only [step n i hi]
    cases e : p (gt l (i : Int)) with
    | false =>
      refine hs () ?_
      rw [z1a l i hi]
      intro x hx
      rcases List.mem_append.1 hx with h | h
      · exact hI x h
      · simp at h; rw [h]; exact e
    | true =>
      have : l.find? p = some (gt l (i : Int)) := by
        have h1 : l = l.take i ++ (gt l (i : Int) :: l.drop (i + 1)) := by
          rw [z8f hi, List.getElem_cons_drop, List.take_append_drop]
        generalize gt l (i : Int) = y at *
        rw [h1, List.find?_append, List.find?_eq_none.2 (fun x hx => by simp [hI x hx])]
        simp [List.find?_cons, e]
      rw [this]; rfl
  · intro n _ hI
    simp only [done]
    rw [List.take_length] at hI
    rw [List.find?_eq_none.2 (fun x hx => by simp [hI x hx])]
theorem zzm {α ρ : Type} (l : List α) (p : α → Bool) (r k : ρ) : (match l.find? p with | some _ => r | none => k) = bif l.any p then r else k := by
  induction l with
  | nil => rfl
  | cons x l ih =>
    rw [List.find?_cons, List.any_cons]
    cases p x
    · simpa using ih
    · rfl
theorem z3y {α ρ : Type} [Inhabited α] (L : Nat → Int → Option ρ) (k r : Option ρ) (l : List α) (p : α → Bool)
    (step : ∀ n i : Nat, i < l.length → L (n + 1) i = bif p (gt l i) then r else L n ((i : Int) + 1)) (done : ∀ n, L (n + 1) l.length = k)
    (n : Nat) (hn : l.length < n) : L n 0 = bif l.any p then r else k := by
  rw [zvi L k l p (fun _ => r) step done n hn, zzm]
def bet (a b c : Int) : Bool := decide (b ≤ a) && decide (a ≤ c)
theorem zqd {a b c : Int} : bet a b c = true ↔ b ≤ a ∧ a ≤ c := by simp [bet]
theorem zog {a b c : Int} (h : bet a b c = true) : b ≤ a ∧ a ≤ c := zqd.1 h
theorem mk_t (n : Int) (b : Nat) (h0 : 0 ≤ n) (h : n ≤ 100000) (hb : b ≤ 1000000) : z4l n b := by
  refine ⟨h0, ?_, by omega⟩
  have : (b : Int) * n ≤ 1000000 * 100000 := Int.mul_le_mul (by omega) h h0 (by omega)
  omega
theorem y2g {x y z : Int} : min2 x y < z ↔ x < z ∨ y < z := by unfold min2; split <;> omega
end Px
end
section
namespace Px
open Go
set_option linter.unusedVariables false
set_option linter.unusedSimpArgs false
theorem zr6 {a b : Int} : cmpI a b < 0 ↔ a < b := by unfold cmpI; (repeat' split) <;> omega
theorem zq9 {a b : Int} : cmpI a b = 0 ↔ a = b := by unfold cmpI; (repeat' split) <;> omega
theorem y4v {a b c d e : Int} : or5 a b c d e < 0 ↔ a < 0 ∨ (a = 0 ∧ (b < 0 ∨ (b = 0 ∧ (c < 0 ∨ (c = 0 ∧ (d < 0 ∨ (d = 0 ∧ e < 0))))))) := by
  unfold or5
  by_cases h1 : a = 0
  · by_cases h2 : b = 0
    · by_cases h3 : c = 0
      · by_cases h4 : d = 0
        · simp [h1, h2, h3, h4]
        · simp [h1, h2, h3, h4]
      · simp [h1, h2, h3]
    · simp [h1, h2]
  · simp [h1]
/-- Is an event before another one? -/
theorem zed {a b : z1} : cfEv a b < 0 ↔ a.visit.early < b.visit.early ∨ (a.visit.early = b.visit.early ∧ (a.visit.ref.railway < b.visit.ref.railway ∨ (a.visit.ref.railway = b.visit.ref.railway ∧ (a.visit.ref.no < b.visit.ref.no ∨ (a.visit.ref.no = b.visit.ref.no ∧
    (ordB a.second < ordB b.second ∨ (ordB a.second = ordB b.second ∧ a.report < b.report))))))) := by
  unfold cfEv
  rw [y4v, zr6, zr6, zr6, zq9, zq9, zq9]
  have e1 : ∀ x y : Int, (x - y < 0) = (x < y) := fun x y => propext ⟨fun h => by omega, fun h => by omega⟩
  have e2 : ∀ x y : Int, (x - y = 0) = (x = y) := fun x y => propext ⟨fun h => by omega, fun h => by omega⟩
  rw [e1, e1, e2]
theorem zzo : Sort.SWO (Proofs.ltOf fun a b : {y : z1 // okEv y = true} => cfEv a.1 b.1) where
  irrefl := fun x => by
    simp only [Proofs.ltOf, decide_eq_false_iff_not]
    rw [zed]
    omega
  trans := fun x y z h1 h2 => by
    simp only [Proofs.ltOf, decide_eq_true_eq] at *
    rw [zed] at *
    omega
  ntrans := fun x y z h1 h2 => by
    simp only [Proofs.ltOf, decide_eq_false_iff_not] at *
    rw [zed] at *
    omega
theorem zu2 (φ : Nat) (a b : Int) : z79 φ a b = some (cmpI a b, ()) := by
  unfold z79 cmpI
  simp only [bne_self_eq_false, Bool.false_eq_true, if_false, decide_eq_true_eq]
  split
  · rfl
  · split <;> rfl
theorem zyi (φ : Nat) (b : Bool) : z9k φ b = some (ordB b, ()) := by
  unfold z9k ordB
  split <;> rfl
theorem y69 (φ : Nat) (h : 6 ≤ φ) (a b c d e : Int) : zsi φ [a, b, c, d, e] = some (or5 a b c d e, ()) := by
  obtain ⟨n, rfl⟩ : ∃ n, φ = n + 6 := ⟨φ - 6, by omega⟩
  unfold zsi or5
  simp only [zf5, List.length_cons, List.length_nil]
  have w : ∀ x : Int, 0 ≤ x → x < 100 → W (x + 1) = x + 1 := fun x h1 h2 => W_id (by omega) (by omega)
  have g0 : gt [a, b, c, d, e] 0 = a := rfl
  have g1 : gt [a, b, c, d, e] 1 = b := rfl
  have g2 : gt [a, b, c, d, e] 2 = c := rfl
  have g3 : gt [a, b, c, d, e] 3 = d := rfl
  have g4 : gt [a, b, c, d, e] 4 = e := rfl
  rw [w 0 (by omega) (by omega), show (0 : Int) + 1 = 1 by rfl, w 1 (by omega) (by omega), show (1 : Int) + 1 = 2 by rfl, w 2 (by omega) (by omega), show (2 : Int) + 1 = 3 by rfl, w 3 (by omega) (by omega), show (3 : Int) + 1 = 4 by rfl, w 4 (by omega) (by omega), show (4 : Int) + 1 = 5 by rfl, g0, g1, g2, g3, g4]
  simp [ck]
  repeat' (split; try rfl)
  all_goals simp_all
theorem zp6 (φ : Nat) (h : 6 ≤ φ) (a b : z1) (ha : okEv a = true) (hb : okEv b = true) : z7m φ a b = some (cfEv a b, ()) := by
  simp only [okEv, decide_eq_true_eq] at ha hb
  unfold z7m cfEv
  simp only [zu2, zyi, Option.bind_some]
  have w1 : W (ordB a.second - ordB b.second) = ordB a.second - ordB b.second := by
    have : ∀ x : Bool, 0 ≤ ordB x ∧ ordB x ≤ 1 := fun x => by cases x <;> decide
    have h1 := this a.second
    have h2 := this b.second
    exact W_id (by omega) (by omega)
  rw [w1, W_id (by omega) (by omega), y69 φ h]
  rfl
theorem zqh (a b : z1) (ha : okEv a = true) (hb : okEv b = true) : z7m 10 a b = some (cfEv a b, ()) := zp6 10 (by omega) a b ha hb
end Px
end
section
set_option linter.unusedVariables false
set_option linter.unusedSimpArgs false
set_option maxHeartbeats 4000000
set_option maxRecDepth 100000
namespace Px
open Go Go.RowKit Go.Proofs
def z8o (φ : Nat) : H TV (RTup TT [.val 0]) := .x
def zbc (P : Program) (φ : Nat) : Env TV := ⟨P, lk [], lk [], lk []⟩
theorem zme (φ : Nat) (a) : (zbb φ).F a = fnX TV (zbc Tryz.prog φ) φ Tryz.f66 [0, 0] [.val 0] (z8o φ) a := by kernel_rfl
theorem zmy (φ : Nat) : fnO TV (zbc Tryz.prog φ) φ Tryz.f66 [.val 0] (z8o φ) := by
  unfold fnO
  show obl _ _ _ _ _ _ _
  unfold z8o
  repeat' (first | exact trivial | (refine ⟨?_, ?_⟩) | (intro _) | kernel_rfl)
theorem zn9 (φ : Nat) : z0v TV Tryz.prog 66 (zbb φ) :=
  z15 (N := zbc Tryz.prog φ) (zt trivial trivial trivial) (z8o φ) Tryz.func66 (by kernel_rfl) (zme φ) (zmy φ)
def zfr : Msp TV := ⟨3, 0, [], zgy⟩
theorem zjf : zwm TV Tryz.prog 92 zfr := fun l l' sv h => zp7 (ρ := Tryz.lays189_ren) Tryz.lays189 h
def z8v (φ : Nat) : H TV (RTup TT [.val 0]) := .x
def zba (P : Program) (φ : Nat) : Env TV := ⟨P, lk [], lk [], lk []⟩
theorem zm1 (φ : Nat) (a) : (zbj φ).F a = fnX TV (zba Tryz.prog φ) φ Tryz.f67 [2] [.val 0] (z8v φ) a := by kernel_rfl
theorem znm (φ : Nat) : fnO TV (zba Tryz.prog φ) φ Tryz.f67 [.val 0] (z8v φ) := by
  unfold fnO
  show obl _ _ _ _ _ _ _
  unfold z8v
  repeat' (first | exact trivial | (refine ⟨?_, ?_⟩) | (intro _) | kernel_rfl)
theorem zlo (φ : Nat) : z0v TV Tryz.prog 67 (zbj φ) :=
  z15 (N := zba Tryz.prog φ) (zt trivial trivial trivial) (z8v φ) Tryz.func67 (by kernel_rfl) (zm1 φ) (znm φ)
def zie (φ : Nat) : H TV (RTup TT [.val 0]) := (.seq .x (.seq .x (.seq (.seq .x (.body (.loop ⟨[(18, [(3, .val 0), (6, .val 5), (7, .val 0), (8, .val 0)])], []⟩ (fun n z => zf5 φ n z.1 z.2.1 z.2.2.1 z.2.2.2.1) (fun zk6 => .x)))) .x)))
def zmx (P : Program) (φ : Nat) : Env TV := ⟨P, lk [], lk [], lk []⟩
theorem y00 (φ : Nat) (a) : (zls φ).F a = fnX TV (zmx Tryz.prog φ) φ Tryz.f65 [5] [.val 0] (zie φ) a := by kernel_rfl
theorem y07 (φ : Nat) : fnO TV (zmx Tryz.prog φ) φ Tryz.f65 [.val 0] (zie φ) := by
  unfold fnO
  show obl _ _ _ _ _ _ _
  unfold zie
  repeat' (first | exact trivial | (refine ⟨?_, ?_⟩) | (intro _) | kernel_rfl)
theorem zzu (φ : Nat) : z0v TV Tryz.prog 65 (zls φ) :=
  z15 (N := zmx Tryz.prog φ) (zt trivial trivial trivial) (zie φ) Tryz.func65 (by kernel_rfl) (y00 φ) (y07 φ)
def z5a (φ : Nat) : H TV (RTup TT [.val 0]) := .x
def z86 (P : Program) (φ : Nat) : Env TV := ⟨P, lk [(66, zbb φ), (67, zbj φ), (65, zls φ)], lk [], lk []⟩
theorem zht (φ : Nat) (a) : (zc7 φ).F a = fnX TV (z86 Tryz.prog φ) φ Tryz.f64 [4, 4] [.val 0] (z5a φ) a := by kernel_rfl
theorem zhl (φ : Nat) : fnO TV (z86 Tryz.prog φ) φ Tryz.f64 [.val 0] (z5a φ) := by
  unfold fnO
  show obl _ _ _ _ _ _ _
  unfold z5a
  repeat' (first | exact trivial | (refine ⟨?_, ?_⟩) | (intro _) | kernel_rfl)
theorem zhw (φ : Nat) : z0v TV Tryz.prog 64 (zc7 φ) :=
  z15 (N := z86 Tryz.prog φ) (zt ⟨zn9 φ, zlo φ, zzu φ, trivial⟩ trivial trivial) (z5a φ) Tryz.func64 (by kernel_rfl) (zht φ) (zhl φ)
def zse : Msp TV := ⟨103, 4, [64], sortEv⟩
theorem zyv : zwm TV Tryz.prog 63 zse :=
  zwb (V := TV) (c := 4) (ρ := Tryz.sortEv_ren) Tryz.sortEv Tryz.isAgg103 (by rw [show TV.sz 4 = 11 by kernel_rfl]; exact Tryz.sizeOf103) (by kernel_rfl) (by kernel_rfl) ⟨Tryz.f64, Tryz.func64, by kernel_rfl, by kernel_rfl⟩ zzo fun a b ha hb =>
    (zhw 10 (a, b, ()) (cfEv a b, ()) (zqh a b ha hb)).mono fun x news ⟨B, hB, h1, h2⟩ => by
      cases B with
      | nil => exact ⟨h1, h2⟩
      | cons y B => cases hB
def z6h (φ : Nat) : H TV (RTup TT [.val 30]) := .x
def z9c (P : Program) (φ : Nat) : Env TV := ⟨P, lk [], lk [], lk []⟩
theorem zik (φ : Nat) (a) : (z91 φ).F a = fnX TV (z9c Tryz.prog φ) φ Tryz.f29 [] [.val 30] (z6h φ) a := by kernel_rfl
theorem zjv (φ : Nat) : fnO TV (z9c Tryz.prog φ) φ Tryz.f29 [.val 30] (z6h φ) := by
  unfold fnO
  show obl _ _ _ _ _ _ _
  unfold z6h
  repeat' (first | exact trivial | (refine ⟨?_, ?_⟩) | (intro _) | kernel_rfl)
theorem zje (φ : Nat) : z0v TV Tryz.prog 29 (z91 φ) :=
  z15 (N := z9c Tryz.prog φ) (zt trivial trivial trivial) (z6h φ) Tryz.func29 (by kernel_rfl) (zik φ) (zjv φ)
def z60 (φ : Nat) : H TV (RTup TT [.val 2]) := .x
def z94 (P : Program) (φ : Nat) : Env TV := ⟨P, lk [], lk [], lk []⟩
theorem zjm (φ : Nat) (a) : (z9q φ).F a = fnX TV (z94 Tryz.prog φ) φ Tryz.f93 [6] [.val 2] (z60 φ) a := by kernel_rfl
theorem zkb (φ : Nat) : fnO TV (z94 Tryz.prog φ) φ Tryz.f93 [.val 2] (z60 φ) := by
  unfold fnO
  show obl _ _ _ _ _ _ _
  unfold z60
  repeat' (first | exact trivial | (refine ⟨?_, ?_⟩) | (intro _) | kernel_rfl)
theorem zju (φ : Nat) : z0v TV Tryz.prog 93 (z9q φ) :=
  z15 (N := z94 Tryz.prog φ) (zt trivial trivial trivial) (z60 φ) Tryz.func93 (by kernel_rfl) (zjm φ) (zkb φ)
def z5t (φ : Nat) : H TV (RTup TT [.val 0]) := (.seq .x (.seq .x (.seq .x (.seq (.seq .x (.body (.loop ⟨[(84, [(1, .ptr 0 0), (3, .val 0), (20, .val 7), (21, .val 0), (22, .val 0)])], [.box 25 [.val 10]]⟩ (fun n z => z2c φ n z.1 z.2.1 z.2.2.1 z.2.2.2.1 z.2.2.2.2.1) (fun zk7 => .x)))) (.seq (.seq .x (.body (.loop ⟨[(84, [(3, .val 0), (31, .val 9), (32, .val 0), (33, .val 0)])], []⟩ (fun n z => z10 φ n z.1 z.2.1 z.2.2.1 z.2.2.2.1) (fun zk13 => .x)))) .x)))))
def z9f (P : Program) (φ : Nat) : Env TV := ⟨P, lk [(93, z9q φ)], lk [], lk []⟩
theorem ziu (φ : Nat) (a) : (z2r φ).F a = fnX TV (z9f Tryz.prog φ) φ Tryz.f56 [10] [.val 0] (z5t φ) a := by kernel_rfl
theorem zj4 (φ : Nat) : fnO TV (z9f Tryz.prog φ) φ Tryz.f56 [.val 0] (z5t φ) := by
  unfold fnO
  show obl _ _ _ _ _ _ _
  unfold z5t
  repeat' (first | exact trivial | (refine ⟨?_, ?_⟩) | (intro _) | kernel_rfl)
theorem z68 (φ : Nat) : z0v TV Tryz.prog 56 (z2r φ) :=
  z15 (N := z9f Tryz.prog φ) (zt ⟨zju φ, trivial⟩ trivial trivial) (z5t φ) Tryz.func56 (by kernel_rfl) (ziu φ) (zj4 φ)
def z5o (φ : Nat) : H TV (RTup TT [.val 2]) := .x
def z98 (P : Program) (φ : Nat) : Env TV := ⟨P, lk [], lk [], lk []⟩
theorem zj9 (φ : Nat) (a) : (z62 φ).F a = fnX TV (z98 Tryz.prog φ) φ Tryz.f58 [0, 0, 0] [.val 2] (z5o φ) a := by kernel_rfl
theorem zin (φ : Nat) : fnO TV (z98 Tryz.prog φ) φ Tryz.f58 [.val 2] (z5o φ) := by
  unfold fnO
  show obl _ _ _ _ _ _ _
  unfold z5o
  repeat' (first | exact trivial | (refine ⟨?_, ?_⟩) | (intro _) | kernel_rfl)
theorem zcu (φ : Nat) : z0v TV Tryz.prog 58 (z62 φ) :=
  z15 (N := z98 Tryz.prog φ) (zt trivial trivial trivial) (z5o φ) Tryz.func58 (by kernel_rfl) (zj9 φ) (zin φ)
def z8q (φ : Nat) : H TV (RTup TT [.val 0]) := (.seq .x (.seq .x (.seq .x (.seq .x (.seq (.seq .x (.body (.loop ⟨[(206, [(1, .ptr 0 0), (3, .ptr 1 0), (4, .func 94 [.ptr 1 0]), (41, .val 13), (42, .val 0), (43, .val 0)])], [.box 31 [.val 20], .box 47 [.val 0]]⟩ (fun n z => z2o φ n z.1 z.2.1 z.2.2.1 z.2.2.2.1 z.2.2.2.2.1) (fun zk7 => (.seq .x (.seq .x (.seq (.body (.seq .x (.seq (.seq .x (.body (.loop ⟨[(206, [(1, .ptr 0 0), (3, .ptr 1 0), (4, .func 94 [.ptr 1 0]), (6, .ptr 2 0), (41, .val 13), (42, .val 0), (43, .val 0), (55, .own 3), (56, .val 0), (57, .val 0)])], [.box 31 [.val 20], .box 47 [.val 0], .box 152 [.val 12], .row 3 0]⟩ (fun n z => z18 φ (fun a0 a1 a2 a3 a4 => zk7 (a0, a1, a2, a3, a4, ())) n z.1 z.2.1 z.2.2.1 z.2.2.2.1 z.2.2.2.2.1 z.2.2.2.2.2.1 z.2.2.2.2.2.2.1 z.2.2.2.2.2.2.2.1 z.2.2.2.2.2.2.2.2.1) (fun zk17 => .x)))) .x))) .x))))))) (.seq (.seq .x (.body (.loop ⟨[(206, [(1, .ptr 0 0), (3, .ptr 1 0), (4, .func 94 [.ptr 1 0]), (83, .val 15), (84, .val 0), (85, .val 0)])], [.box 31 [.val 20], .box 47 [.val 0]]⟩ (fun n z => z03 φ n z.1 z.2.1 z.2.2.1 z.2.2.2.1 z.2.2.2.2.1) (fun zk27 => .x)))) (.seq (.seq .x (.body (.loop ⟨[(206, [(1, .ptr 0 0), (3, .ptr 1 0), (4, .func 94 [.ptr 1 0]), (120, .val 17), (121, .val 0), (122, .val 0)])], [.box 31 [.val 20], .box 47 [.val 0]]⟩ (fun n z => z0h φ n z.1 z.2.1 z.2.2.1 z.2.2.2.1 z.2.2.2.2.1) (fun zk40 => .x)))) (.seq .x (.seq (.seq .x (.body (.loop ⟨[(206, [(3, .ptr 0 0), (4, .func 94 [.ptr 0 0]), (13, .ptr 1 0), (158, .val 19), (159, .val 0), (160, .val 0)])], [.box 47 [.val 0], .box 195 [.val 31]]⟩ (fun n z => zj φ n z.1 z.2.1 z.2.2.1 z.2.2.2.1 z.2.2.2.2.1) (fun zk49 => .x)))) .x)))))))))
def zbv (P : Program) (φ : Nat) : Env TV := ⟨P, lk [(58, z62 φ)], lk [], lk []⟩
theorem zlr (φ : Nat) (a) : (zbs φ).F a = fnX TV (zbv Tryz.prog φ) φ Tryz.f57 [20] [.val 0] (z8q φ) a := by kernel_rfl
theorem znc (φ : Nat) : fnO TV (zbv Tryz.prog φ) φ Tryz.f57 [.val 0] (z8q φ) := by
  unfold fnO
  show obl _ _ _ _ _ _ _
  unfold z8q
  repeat' (first | exact trivial | (refine ⟨?_, ?_⟩) | (intro _) | kernel_rfl)
theorem zmq (φ : Nat) : z0v TV Tryz.prog 57 (zbs φ) :=
  z15 (N := zbv Tryz.prog φ) (zt ⟨zcu φ, trivial⟩ trivial trivial) (z8q φ) Tryz.func57 (by kernel_rfl) (zlr φ) (znc φ)
def z58 (φ : Nat) : H TV (RTup TT [.val 0]) := (.seq .x (.seq (.seq .x (.body (.loop ⟨[(45, [(1, .ptr 0 0), (9, .val 26), (10, .val 0)])], [.box 126 [.val 27]]⟩ (fun n z => z1x φ n z.1 z.2.1 z.2.2.1) (fun zk5 => .x)))) (.seq .x (.seq (.seq .x (.body (.loop ⟨[(45, [(5, .val 0), (30, .val 5), (31, .val 0), (32, .val 0)])], []⟩ (fun n z => z1j φ n z.1 z.2.1 z.2.2.1 z.2.2.2.1) (fun zk10 => .x)))) .x))))
def z8b (P : Program) (φ : Nat) : Env TV := ⟨P, lk [], lk [], lk []⟩
theorem zhs (φ : Nat) (a) : (z89 φ).F a = fnX TV (z8b Tryz.prog φ) φ Tryz.f59 [27] [.val 0] (z58 φ) a := by kernel_rfl
theorem zhy (φ : Nat) : fnO TV (z8b Tryz.prog φ) φ Tryz.f59 [.val 0] (z58 φ) := by
  unfold fnO
  show obl _ _ _ _ _ _ _
  unfold z58
  repeat' (first | exact trivial | (refine ⟨?_, ?_⟩) | (intro _) | kernel_rfl)
theorem zhx (φ : Nat) : z0v TV Tryz.prog 59 (z89 φ) :=
  z15 (N := z8b Tryz.prog φ) (zt trivial trivial trivial) (z58 φ) Tryz.func59 (by kernel_rfl) (zhs φ) (zhy φ)
def za4 (φ : Nat) : H TV (RTup TT [.val 11, .val 11]) := .x
def zcz (P : Program) (φ : Nat) : Env TV := ⟨P, lk [], lk [], lk []⟩
theorem zoy (φ : Nat) (a) : (zch φ).F a = fnX TV (zcz Tryz.prog φ) φ Tryz.f142 [11, 11] [.val 11, .val 11] (za4 φ) a := by kernel_rfl
theorem zpl (φ : Nat) : fnO TV (zcz Tryz.prog φ) φ Tryz.f142 [.val 11, .val 11] (za4 φ) := by
  unfold fnO
  show obl _ _ _ _ _ _ _
  unfold za4
  repeat' (first | exact trivial | (refine ⟨?_, ?_⟩) | (intro _) | kernel_rfl)
theorem zob (φ : Nat) : z0v TV Tryz.prog 142 (zch φ) :=
  z15 (N := zcz Tryz.prog φ) (zt trivial trivial trivial) (za4 φ) Tryz.func142 (by kernel_rfl) (zoy φ) (zpl φ)
def z2h (φ : Nat) : H TV (RTup TT [.val 0]) := (.seq .x (.seq (.ins 1 125 (.seq .x (.seq (.join ⟨[(25, [(0, .val 11), (2, .val 0)]), (6, [])], []⟩ (fun z => z0z φ z.1 z.2.1) (.seq .x .x)) (.seq (.join ⟨[(25, [(0, .val 11), (2, .val 0)]), (6, [])], []⟩ (fun z => z0y φ z.1 z.2.1) (.seq .x .x)) (.seq (.join ⟨[(25, [(0, .val 11), (2, .val 0)]), (6, [])], []⟩ (fun z => z0s φ z.1 z.2.1) (.seq .x .x)) .x)))) .x) .x))
def z44 (P : Program) (φ : Nat) : Env TV := ⟨P, lk [], lk [], lk []⟩
theorem zd3 (φ : Nat) (a) : (z42 φ).F a = fnX TV (z44 Tryz.prog φ) φ Tryz.f162 [11] [.val 0] (z2h φ) a := by kernel_rfl
theorem zd8 (φ : Nat) : fnO TV (z44 Tryz.prog φ) φ Tryz.f162 [.val 0] (z2h φ) := by
  unfold fnO
  show obl _ _ _ _ _ _ _
  unfold z2h
  repeat' (first | exact trivial | (refine ⟨?_, ?_⟩) | (intro _) | kernel_rfl)
theorem zd7 (φ : Nat) : z0v TV Tryz.prog 162 (z42 φ) :=
  z15 (N := z44 Tryz.prog φ) (zt trivial trivial trivial) (z2h φ) Tryz.func162 (by kernel_rfl) (zd3 φ) (zd8 φ)
def za1 (φ : Nat) : H TV (RTup TT [.val 11, .val 11]) := (.seq .x (.seq .x (.seq .x (.seq .x (.seq .x (.seq .x (.seq .x (.seq .x (.seq .x (.seq .x (.seq .x (.seq .x (.seq .x (.seq .x (.seq (.join ⟨[(135, [(2, .val 11), (8, .val 11), (9, .val 11), (10, .val 11), (11, .val 11), (13, .val 11), (14, .val 11), (15, .val 11)])], []⟩ (fun z => z4q φ z.1 z.2.1 z.2.2.1 z.2.2.2.1 z.2.2.2.2.1 z.2.2.2.2.2.1 z.2.2.2.2.2.2.1 z.2.2.2.2.2.2.2.1) (.body (.loop ⟨[(135, [(2, .val 11), (8, .val 11), (9, .val 11), (10, .val 11), (11, .val 11), (13, .val 11), (14, .val 11), (15, .val 11), (16, .val 11)])], []⟩ (fun n z => z4t φ n z.1 z.2.1 z.2.2.1 z.2.2.2.1 z.2.2.2.2.1 z.2.2.2.2.2.1 z.2.2.2.2.2.2.1 z.2.2.2.2.2.2.2.1 z.2.2.2.2.2.2.2.2.1) (fun zk40 => .x)))) (.seq .x (.seq .x (.seq .x (.seq (.join ⟨[(135, [(2, .val 11), (8, .val 11), (14, .val 11), (15, .val 11), (17, .val 11), (18, .val 11)])], []⟩ (fun z => z4n φ z.1 z.2.1 z.2.2.1 z.2.2.2.1 z.2.2.2.2.1 z.2.2.2.2.2.1) (.body (.loop ⟨[(135, [(2, .val 11), (8, .val 11), (9, .val 11), (10, .val 11), (14, .val 11), (15, .val 11), (16, .val 11), (17, .val 11), (18, .val 11)])], []⟩ (fun n z => z4z φ n z.1 z.2.1 z.2.2.1 z.2.2.2.1 z.2.2.2.2.1 z.2.2.2.2.2.1 z.2.2.2.2.2.2.1 z.2.2.2.2.2.2.2.1 z.2.2.2.2.2.2.2.2.1) (fun zk30 => .x)))) .x)))))))))))))))))))
def zcv (P : Program) (φ : Nat) : Env TV := ⟨P, lk [(162, z42 φ)], lk [], lk []⟩
theorem zoh (φ : Nat) (a) : (zdc φ).F a = fnX TV (zcv Tryz.prog φ) φ Tryz.f153 [11, 11, 11] [.val 11, .val 11] (za1 φ) a := by kernel_rfl
theorem zo4 (φ : Nat) : fnO TV (zcv Tryz.prog φ) φ Tryz.f153 [.val 11, .val 11] (za1 φ) := by
  unfold fnO
  show obl _ _ _ _ _ _ _
  unfold za1
  repeat' (first | exact trivial | (refine ⟨?_, ?_⟩) | (intro _) | kernel_rfl)
theorem znv (φ : Nat) : z0v TV Tryz.prog 153 (zdc φ) :=
  z15 (N := zcv Tryz.prog φ) (zt ⟨zd7 φ, trivial⟩ trivial trivial) (za1 φ) Tryz.func153 (by kernel_rfl) (zoh φ) (zo4 φ)
def zdp (φ : Nat) : H TV (RTup TT [.val 11]) := (.seq .x (.seq .x (.seq .x (.seq (.seq (.ins 1 125 (.seq .x (.seq (.join ⟨[(25, [(0, .val 11), (2, .val 0)]), (33, [(0, .val 11), (1, .val 11), (5, .func 152 [.ptr 0 0]), (6, .val 11)])], [.box 68 [.val 11]]⟩ (fun z => z9j φ z.1 z.2.1 z.2.2.1 z.2.2.2.1 z.2.2.2.2.1 z.2.2.2.2.2.1) (.seq .x .x)) (.seq (.join ⟨[(25, [(0, .val 11), (2, .val 0)]), (33, [(0, .val 11), (1, .val 11), (5, .func 152 [.ptr 0 0]), (6, .val 11)])], [.box 68 [.val 11]]⟩ (fun z => z7x φ z.1 z.2.1 z.2.2.1 z.2.2.2.1 z.2.2.2.2.1 z.2.2.2.2.2.1) (.seq .x .x)) (.seq (.join ⟨[(25, [(0, .val 11), (2, .val 0)]), (33, [(0, .val 11), (1, .val 11), (5, .func 152 [.ptr 0 0]), (6, .val 11)])], [.box 68 [.val 11]]⟩ (fun z => z80 φ z.1 z.2.1 z.2.2.1 z.2.2.2.1 z.2.2.2.2.1 z.2.2.2.2.2.1) (.seq .x .x)) .x)))) .x) (.body (.loop ⟨[(33, [(0, .val 11), (1, .val 11), (5, .func 152 [.ptr 0 0]), (6, .val 11), (10, .val 0), (11, .val 0)])], [.box 68 [.val 11]]⟩ (fun n z => z05 φ n z.1 z.2.1 z.2.2.1 z.2.2.2.1 z.2.2.2.2.1 z.2.2.2.2.2.1) (fun zk30 => (.seq .x (.seq .x (.seq (.body (.seq .x (.seq .x (.seq (.ins 2 125 (.seq .x (.seq (.join ⟨[(25, [(0, .val 11), (2, .val 0)]), (33, [(0, .val 11), (1, .val 11), (5, .func 152 [.ptr 0 0]), (6, .val 11), (7, .val 0), (10, .val 0), (11, .val 0), (18, .val 11)])], [.box 68 [.val 11]]⟩ (fun z => z2e φ (fun a0 a1 a2 a3 a4 a5 => zk30 (a0, a1, a2, a3, a4, a5, ())) z.1 z.2.1 z.2.2.1 z.2.2.2.1 z.2.2.2.2.1 z.2.2.2.2.2.1 z.2.2.2.2.2.2.1 z.2.2.2.2.2.2.2.1 z.2.2.2.2.2.2.2.2.1 z.2.2.2.2.2.2.2.2.2.1) (.seq .x .x)) (.seq (.join ⟨[(25, [(0, .val 11), (2, .val 0)]), (33, [(0, .val 11), (1, .val 11), (5, .func 152 [.ptr 0 0]), (6, .val 11), (7, .val 0), (10, .val 0), (11, .val 0), (18, .val 11)])], [.box 68 [.val 11]]⟩ (fun z => z7u φ (fun a0 a1 a2 a3 a4 a5 => zk30 (a0, a1, a2, a3, a4, a5, ())) z.1 z.2.1 z.2.2.1 z.2.2.2.1 z.2.2.2.2.1 z.2.2.2.2.2.1 z.2.2.2.2.2.2.1 z.2.2.2.2.2.2.2.1 z.2.2.2.2.2.2.2.2.1 z.2.2.2.2.2.2.2.2.2.1) (.seq .x .x)) (.seq (.join ⟨[(25, [(0, .val 11), (2, .val 0)]), (33, [(0, .val 11), (1, .val 11), (5, .func 152 [.ptr 0 0]), (6, .val 11), (7, .val 0), (10, .val 0), (11, .val 0), (18, .val 11)])], [.box 68 [.val 11]]⟩ (fun z => z7w φ (fun a0 a1 a2 a3 a4 a5 => zk30 (a0, a1, a2, a3, a4, a5, ())) z.1 z.2.1 z.2.2.1 z.2.2.2.1 z.2.2.2.2.1 z.2.2.2.2.2.1 z.2.2.2.2.2.2.1 z.2.2.2.2.2.2.2.1 z.2.2.2.2.2.2.2.2.1 z.2.2.2.2.2.2.2.2.2.1) (.seq .x .x)) .x)))) .x) .x)))) .x))))))) .x))))
def zg7 (P : Program) (φ : Nat) : Env TV := ⟨P, lk [(142, zch φ), (153, zdc φ)], lk [], lk []⟩
theorem zte (φ : Nat) (a) : (zgn φ).F a = fnX TV (zg7 Tryz.prog φ) φ Tryz.f95 [11, 11] [.val 11] (zdp φ) a := by kernel_rfl
theorem ztq (φ : Nat) : fnO TV (zg7 Tryz.prog φ) φ Tryz.f95 [.val 11] (zdp φ) := by
  unfold fnO
  show obl _ _ _ _ _ _ _
  unfold zdp
  repeat' (first | exact trivial | (refine ⟨?_, ?_⟩) | (intro _) | kernel_rfl)
theorem ztd (φ : Nat) : z0v TV Tryz.prog 95 (zgn φ) :=
  z15 (N := zg7 Tryz.prog φ) (zt ⟨zob φ, znv φ, trivial⟩ trivial trivial) (zdp φ) Tryz.func95 (by kernel_rfl) (zte φ) (ztq φ)
def z9z (φ : Nat) : H TV (RTup TT [.val 2]) := .x
def zd2 (P : Program) (φ : Nat) : Env TV := ⟨P, lk [(95, zgn φ)], lk [], lk []⟩
theorem zpp (φ : Nat) (a) : (zck φ).F a = fnX TV (zd2 Tryz.prog φ) φ Tryz.f60 [11] [.val 2] (z9z φ) a := by kernel_rfl
theorem zp9 (φ : Nat) : fnO TV (zd2 Tryz.prog φ) φ Tryz.f60 [.val 2] (z9z φ) := by
  unfold fnO
  show obl _ _ _ _ _ _ _
  unfold z9z
  repeat' (first | exact trivial | (refine ⟨?_, ?_⟩) | (intro _) | kernel_rfl)
theorem zny (φ : Nat) : z0v TV Tryz.prog 60 (zck φ) :=
  z15 (N := zd2 Tryz.prog φ) (zt ⟨ztd φ, trivial⟩ trivial trivial) (z9z φ) Tryz.func60 (by kernel_rfl) (zpp φ) (zp9 φ)
def z4b (φ : Nat) : H TV (RTup TT [.val 0]) := (.seq .x (.seq .x (.seq .x (.seq .x (.seq .x (.seq .x (.seq (.seq .x (.body (.loop ⟨[(193, [(1, .ptr 0 0), (5, .val 7), (6, .val 0), (7, .val 2), (57, .val 22), (58, .val 0), (59, .val 0)])], [.box 36 [.val 30]]⟩ (fun n z => z12 φ n z.1 z.2.1 z.2.2.1 z.2.2.2.1 z.2.2.2.2.1 z.2.2.2.2.2.1 z.2.2.2.2.2.2.1) (fun zk11 => .x)))) (.seq (.seq .x (.body (.loop ⟨[(193, [(1, .ptr 0 0), (5, .val 7), (6, .val 0), (7, .val 2), (92, .val 24), (93, .val 0), (94, .val 0)])], [.box 36 [.val 30]]⟩ (fun n z => z0m φ n z.1 z.2.1 z.2.2.1 z.2.2.2.1 z.2.2.2.2.1 z.2.2.2.2.2.1 z.2.2.2.2.2.2.1) (fun zk20 => .x)))) (.seq (.seq .x (.body (.loop ⟨[(193, [(1, .ptr 0 0), (5, .val 7), (6, .val 0), (7, .val 2), (120, .val 15), (121, .val 0), (122, .val 0)])], [.box 36 [.val 30]]⟩ (fun n z => z0k φ n z.1 z.2.1 z.2.2.1 z.2.2.2.1 z.2.2.2.2.1 z.2.2.2.2.2.1 z.2.2.2.2.2.2.1) (fun zk29 => .x)))) (.seq (.seq .x (.body (.loop ⟨[(193, [(1, .ptr 0 0), (6, .val 0), (7, .val 2), (135, .val 7), (136, .val 0), (137, .val 0)])], [.box 36 [.val 30]]⟩ (fun n z => z0l φ n z.1 z.2.1 z.2.2.1 z.2.2.2.1 z.2.2.2.2.1 z.2.2.2.2.2.1) (fun zk36 => .x)))) (.seq (.seq .x (.body (.loop ⟨[(193, [(1, .ptr 0 0), (6, .val 0), (7, .val 2), (157, .val 9), (158, .val 0), (159, .val 0)])], [.box 36 [.val 30]]⟩ (fun n z => z0p φ n z.1 z.2.1 z.2.2.1 z.2.2.2.1 z.2.2.2.2.1 z.2.2.2.2.2.1) (fun zk43 => .x)))) (.seq (.seq .x (.body (.loop ⟨[(193, [(7, .val 2), (172, .val 29), (173, .val 0), (174, .val 0)])], []⟩ (fun n z => z0o φ n z.1 z.2.1 z.2.2.1 z.2.2.2.1) (fun zk48 => .x)))) .x))))))))))))
def z6z (P : Program) (φ : Nat) : Env TV := ⟨P, lk [(56, z2r φ), (57, zbs φ), (58, z62 φ), (59, z89 φ), (60, zck φ)], lk [], lk []⟩
theorem zgz (φ : Nat) (a) : (z1y φ).F a = fnX TV (z6z Tryz.prog φ) φ Tryz.f30 [30] [.val 0] (z4b φ) a := by kernel_rfl
theorem zh1 (φ : Nat) : fnO TV (z6z Tryz.prog φ) φ Tryz.f30 [.val 0] (z4b φ) := by
  unfold fnO
  show obl _ _ _ _ _ _ _
  unfold z4b
  repeat' (first | exact trivial | (refine ⟨?_, ?_⟩) | (intro _) | kernel_rfl)
theorem z4h (φ : Nat) : z0v TV Tryz.prog 30 (z1y φ) :=
  z15 (N := z6z Tryz.prog φ) (zt ⟨z68 φ, zmq φ, zcu φ, zhx φ, zny φ, trivial⟩ trivial trivial) (z4b φ) Tryz.func30 (by kernel_rfl) (zgz φ) (zh1 φ)
def z6a (φ : Nat) : H TV (RTup TT [.val 2]) := .x
def z96 (P : Program) (φ : Nat) : Env TV := ⟨P, lk [], lk [], lk []⟩
theorem zjn (φ : Nat) (a) : (z90 φ).F a = fnX TV (z96 Tryz.prog φ) φ Tryz.f48 [35] [.val 2] (z6a φ) a := by kernel_rfl
theorem zih (φ : Nat) : fnO TV (z96 Tryz.prog φ) φ Tryz.f48 [.val 2] (z6a φ) := by
  unfold fnO
  show obl _ _ _ _ _ _ _
  unfold z6a
  repeat' (first | exact trivial | (refine ⟨?_, ?_⟩) | (intro _) | kernel_rfl)
theorem zj7 (φ : Nat) : z0v TV Tryz.prog 48 (z90 φ) :=
  z15 (N := z96 Tryz.prog φ) (zt trivial trivial trivial) (z6a φ) Tryz.func48 (by kernel_rfl) (zjn φ) (zih φ)
def zbe (φ : Nat) : H TV (RTup TT [.val 2]) := (.seq .x (.seq (.seq .x (.body (.loop ⟨[(43, [(0, .val 34), (1, .val 2), (7, .val 34), (8, .val 0), (9, .val 0)])], []⟩ (fun n z => z5i φ n z.1 z.2.1 z.2.2.1 z.2.2.2.1 z.2.2.2.2.1) (fun zk8 => .x)))) .x))
def ze7 (P : Program) (φ : Nat) : Env TV := ⟨P, lk [], lk [], lk []⟩
theorem zr7 (φ : Nat) (a) : (zeg φ).F a = fnX TV (ze7 Tryz.prog φ) φ Tryz.f121 [34, 2] [.val 2] (zbe φ) a := by kernel_rfl
theorem zrf (φ : Nat) : fnO TV (ze7 Tryz.prog φ) φ Tryz.f121 [.val 2] (zbe φ) := by
  unfold fnO
  show obl _ _ _ _ _ _ _
  unfold zbe
  repeat' (first | exact trivial | (refine ⟨?_, ?_⟩) | (intro _) | kernel_rfl)
theorem zql (φ : Nat) : z0v TV Tryz.prog 121 (zeg φ) :=
  z15 (N := ze7 Tryz.prog φ) (zt trivial trivial trivial) (zbe φ) Tryz.func121 (by kernel_rfl) (zr7 φ) (zrf φ)
def za3 (φ : Nat) : H TV (RTup TT [.val 2]) := (.seq .x (.seq .x (.seq (.join ⟨[(46, [(5, .ptr 0 0)])], [.box 182 [.val 36]]⟩ (fun z => za φ z.1) (.seq .x (.cond (.ins 0 85 (.seq .x (.seq .x (.seq .x (.seq .x (.body (.seq .x (.cond .x (.seq .x (.cond (.seq (.ins 1 117 (.seq .x (.seq (.join ⟨[(66, [(0, .ptr 0 0), (1, .val 0), (4, .ptr 1 0)]), (135, [(0, .ptr 0 0)]), (46, [(5, .ptr 0 0)])], [.box 182 [.val 36], .box 148 [.val 6]]⟩ (fun z => z5r φ z.1 z.2.1 z.2.2.1) (.seq .x .x)) .x)) .x) .x) (.seq (.join ⟨[(135, [(0, .ptr 0 0), (2, .ptr 0 9), (20, .val 0), (43, .val 2)]), (46, [(5, .ptr 0 0)])], [.box 182 [.val 36]]⟩ (fun z => z4v φ z.1 z.2.1 z.2.2.1) (.seq .x .x)) (.cond (.seq (.ins 1 117 (.seq .x (.seq (.join ⟨[(66, [(0, .ptr 0 0), (1, .val 0), (4, .ptr 1 0)]), (135, [(0, .ptr 0 0), (2, .ptr 0 9)]), (46, [(5, .ptr 0 0)])], [.box 182 [.val 36], .box 148 [.val 6]]⟩ (fun z => z4w φ z.1 z.2.1 z.2.2.1) (.seq .x .x)) .x)) .x) .x) (.seq .x (.cond (.seq .x (.seq .x (.seq (.ins 1 117 (.seq .x (.seq (.join ⟨[(66, [(0, .ptr 0 0), (1, .val 0), (4, .ptr 1 0)]), (135, [(0, .ptr 0 0), (2, .ptr 0 9)]), (46, [(5, .ptr 0 0)])], [.box 182 [.val 36], .box 148 [.val 6]]⟩ (fun z => z4o φ z.1 z.2.1 z.2.2.1) (.seq .x .x)) .x)) .x) .x))) (.seq (.join ⟨[(135, [(0, .ptr 0 0), (2, .ptr 0 9), (116, .val 2)]), (46, [(5, .ptr 0 0)])], [.box 182 [.val 36]]⟩ (fun z => z4u φ z.1 z.2.1) (.seq .x .x)) (.cond (.seq (.ins 1 117 (.seq .x (.seq (.join ⟨[(66, [(0, .ptr 0 0), (1, .val 0), (4, .ptr 1 0)]), (135, [(0, .ptr 0 0), (2, .ptr 0 9)]), (46, [(5, .ptr 0 0)])], [.box 182 [.val 36], .box 148 [.val 6]]⟩ (fun z => z4m φ z.1 z.2.1 z.2.2.1) (.seq .x .x)) .x)) .x) .x) .x))))))))))))))) .x) (.ins 0 86 (.seq .x (.seq .x (.body (.seq .x (.cond .x (.seq .x (.cond (.seq .x (.seq (.ins 1 117 (.seq .x (.seq (.join ⟨[(66, [(0, .ptr 0 0), (1, .val 0), (4, .ptr 1 0)]), (168, [(0, .ptr 0 0), (2, .ptr 0 9)]), (46, [(5, .ptr 0 0)])], [.box 182 [.val 36], .box 148 [.val 6]]⟩ (fun z => z4s φ z.1 z.2.1 z.2.2.1) (.seq .x .x)) .x)) .x) .x)) (.seq .x (.cond .x (.seq (.join ⟨[(168, [(0, .ptr 0 0), (2, .ptr 0 9), (9, .val 0), (91, .val 2)]), (46, [(5, .ptr 0 0)])], [.box 182 [.val 36]]⟩ (fun z => z2k φ z.1 z.2.1 z.2.2.1) (.seq .x .x)) (.cond .x (.seq .x (.cond .x (.seq .x (.cond (.seq .x (.seq (.ins 1 117 (.seq .x (.seq (.join ⟨[(66, [(0, .ptr 0 0), (1, .val 0), (4, .ptr 1 0)]), (168, [(0, .ptr 0 0), (2, .ptr 0 9)]), (46, [(5, .ptr 0 0)])], [.box 182 [.val 36], .box 148 [.val 6]]⟩ (fun z => z4r φ z.1 z.2.1 z.2.2.1) (.seq .x .x)) .x)) .x) .x)) .x))))))))))))))) .x)))) (.seq (.seq .x (.body (.unr 12 .x))) .x))))
def zci (P : Program) (φ : Nat) : Env TV := ⟨P, lk [(121, zeg φ)], lk [], lk []⟩
theorem zpk (φ : Nat) (a) : (zd6 φ).F a = fnX TV (zci Tryz.prog φ) φ Tryz.f49 [30, 35] [.val 2] (za3 φ) a := by kernel_rfl
theorem znx (φ : Nat) : fnO TV (zci Tryz.prog φ) φ Tryz.f49 [.val 2] (za3 φ) := by
  unfold fnO
  show obl _ _ _ _ _ _ _
  unfold za3
  repeat' (first | exact trivial | (refine ⟨?_, ?_⟩) | (intro _) | kernel_rfl)
theorem zo9 (φ : Nat) : z0v TV Tryz.prog 49 (zd6 φ) :=
  z15 (N := zci Tryz.prog φ) (zt ⟨zql φ, trivial⟩ trivial trivial) (za3 φ) Tryz.func49 (by kernel_rfl) (zpk φ) (znx φ)
def zbi (φ : Nat) : H TV (RTup TT [.val 0]) := .x
def zem (P : Program) (φ : Nat) : Env TV := ⟨P, lk [(30, z1y φ), (48, z90 φ), (49, zd6 φ)], lk [], lk []⟩
theorem zqj (φ : Nat) (a) : (zb8 φ).F a = fnX TV (zem Tryz.prog φ) φ Tryz.f20 [30, 35] [.val 0] (zbi φ) a := by kernel_rfl
theorem zqo (φ : Nat) : fnO TV (zem Tryz.prog φ) φ Tryz.f20 [.val 0] (zbi φ) := by
  unfold fnO
  show obl _ _ _ _ _ _ _
  unfold zbi
  repeat' (first | exact trivial | (refine ⟨?_, ?_⟩) | (intro _) | kernel_rfl)
theorem zj6 (φ : Nat) : z0v TV Tryz.prog 20 (zb8 φ) :=
  z15 (N := zem Tryz.prog φ) (zt ⟨z4h φ, zj7 φ, zo9 φ, trivial⟩ trivial trivial) (zbi φ) Tryz.func20 (by kernel_rfl) (zqj φ) (zqo φ)
def z5q (φ : Nat) : H TV (RTup TT [.val 5]) := (.seq .x (.seq .x (.seq (.seq .x (.body (.loop ⟨[(26, [(2, .ptr 0 0), (5, .own 1), (8, .val 38), (9, .val 0), (10, .val 0)])], [.box 36 [.val 30], .row 3 0]⟩ (fun n z => z1p φ n z.1 z.2.1 z.2.2.1 z.2.2.2.1 z.2.2.2.2.1) (fun zk8 => .x)))) .x)))
def z9i (P : Program) (φ : Nat) : Env TV := ⟨P, lk [(20, zb8 φ)], lk [], lk []⟩
theorem zja (φ : Nat) (a) : (z9m φ).F a = fnX TV (z9i Tryz.prog φ) φ Tryz.f61 [30, 38] [.val 5] (z5q φ) a := by kernel_rfl
theorem zjb (φ : Nat) : fnO TV (z9i Tryz.prog φ) φ Tryz.f61 [.val 5] (z5q φ) := by
  unfold fnO
  show obl _ _ _ _ _ _ _
  unfold z5q
  repeat' (first | exact trivial | (refine ⟨?_, ?_⟩) | (intro _) | kernel_rfl)
theorem zig (φ : Nat) : z0v TV Tryz.prog 61 (z9m φ) :=
  z15 (N := z9i Tryz.prog φ) (zt ⟨zj6 φ, trivial⟩ trivial trivial) (z5q φ) Tryz.func61 (by kernel_rfl) (zja φ) (zjb φ)
def z3s (φ : Nat) : H TV (RTup TT [.val 4]) := .x
def z6i (P : Program) (φ : Nat) : Env TV := ⟨P, lk [], lk [], lk []⟩
theorem zff (φ : Nat) (a b) : (z65 φ).F a b = fnXc TV (z6i Tryz.prog φ) φ Tryz.f96 [0, 0] [35, 37, 0] [.val 4] (z3s φ) a b := by kernel_rfl
theorem zev (φ : Nat) : fnO TV (z6i Tryz.prog φ) φ Tryz.f96 [.val 4] (z3s φ) := by
  unfold fnO
  show obl _ _ _ _ _ _ _
  unfold z3s
  repeat' (first | exact trivial | (refine ⟨?_, ?_⟩) | (intro _) | kernel_rfl)
theorem zew (φ : Nat) : y06 TV Tryz.prog 96 (z65 φ) :=
  y4h (N := z6i Tryz.prog φ) (zt trivial trivial trivial) (z3s φ) Tryz.func96 (by kernel_rfl) (zff φ) (zev φ)
theorem zcr (φ : Nat) (x14 : Item) (x15 : z6) (x16 : Int) : z0x (z1g φ x14 x15 x16) (z5d φ x14 x15 x16) := by
  unfold z1g z5d
  repeat' (first | exact z0x.one | exact z0x.nil | refine z0x.cons ?_ ?_ | refine z0x.ck ?_ | exact z0x.same (n := 2) rfl | exact z0x.same (n := 3) rfl | exact z0x.same (n := 4) rfl | exact z0x.same (n := 6) rfl | refine z0x.bind fun _ => ?_)
def z57 (φ : Nat) : H TV (RTup TT [.val 39]) := (.seq .x (.seq .x (.seq .x (.seq (.seq .x (.body (.seq .x (.cond .x (.seq (.join ⟨[(68, [(7, .ptr 0 0), (8, .func 96 [.ptr 0 0, .ptr 1 0, .ptr 2 0]), (16, .val 0), (35, .val 2)])], [.box 61 [.val 35], .box 63 [.val 37], .box 3 [.val 0]]⟩ (fun z => zx φ z.1 z.2.1 z.2.2.1 z.2.2.2.1 z.2.2.2.2.1) (.seq .x .x)) (.cond (.seq (.join ⟨[(68, [(10, .ptr 0 0), (11, .ptr 1 0)])], [.box 103 [.val 4], .box 103 [.val 4]]⟩ (fun z => z1h φ z.1 z.2.1) (.alt ⟨[(68, [(7, .ptr 0 0), (8, .func 96 [.ptr 0 0, .ptr 1 0, .ptr 2 0])])], [.box 61 [.val 35], .box 63 [.val 37], .box 3 [.val 0]]⟩ (fun z => z1g φ z.1 z.2.1 z.2.2.1) (fun z => z5d φ z.1 z.2.1 z.2.2.1))) .x) (.seq (.join ⟨[(68, [(7, .ptr 0 0), (8, .func 96 [.ptr 0 0, .ptr 1 0, .ptr 2 0]), (56, .val 2)])], [.box 61 [.val 35], .box 63 [.val 37], .box 3 [.val 0]]⟩ (fun z => zw φ z.1 z.2.1 z.2.2.1 z.2.2.2.1) (.seq .x .x)) .x))))))) .x))))
def z8a (P : Program) (φ : Nat) : Env TV := ⟨P, lk [], lk [], lk [(96, z65 φ)]⟩
theorem zhq (φ : Nat) (a) : (z8d φ).F a = fnX TV (z8a Tryz.prog φ) φ Tryz.f62 [30, 37, 0] [.val 39] (z57 φ) a := by kernel_rfl
theorem zi2 (φ : Nat) : fnO TV (z8a Tryz.prog φ) φ Tryz.f62 [.val 39] (z57 φ) := by
  unfold fnO
  show obl _ _ _ _ _ _ _
  unfold z57
  repeat' (first | exact trivial | (refine ⟨?_, ?_⟩) | (intro _) | kernel_rfl | exact zcr ..)
theorem zhp (φ : Nat) : z0v TV Tryz.prog 62 (z8d φ) :=
  z15 (N := z8a Tryz.prog φ) (zt trivial trivial ⟨zew φ, trivial⟩) (z57 φ) Tryz.func62 (by kernel_rfl) (zhq φ) (zi2 φ)
def z7s (φ : Nat) : H TV (RTup TT [.val 40]) := (.seq .x (.seq .x (.seq (.seq .x (.body (.loop ⟨[(63, [(1, .val 38), (2, .ptr 0 0), (5, .own 1), (19, .val 5), (20, .val 0), (21, .val 0)])], [.box 36 [.val 30], .nst 101 103 39 none]⟩ (fun n z => z1l φ n z.1 z.2.1 z.2.2.1 z.2.2.2.1 z.2.2.2.2.1 z.2.2.2.2.2.1) (fun zk10 => (.seq .x (.seq .x (.seq (.body (.seq .x (.seq .x (.seq .x (.cond (.seq .x (.foc (5, none) (9, none) .x)) .x))))) .x))))))) (.seq (.seq .x (.body (.loop ⟨[(63, [(5, .own 0), (51, .own 0), (52, .val 0), (53, .val 0)])], [.nst 101 103 39 none]⟩ (fun n z => z0w φ n z.1 z.2.1 z.2.2.1) (fun zk15 => (.seq .x (.seq .x (.seq (.body (.seq (.foc (5, none) (53, none) .x) (.seq .x (.ins 1 68 (.seq .x (.seq .x (.body (.loop ⟨[(48, [(0, .own 0), (2, .own 1), (6, .val 0), (7, .val 0)]), (63, [(5, .own 2), (51, .own 2), (52, .val 0), (53, .val 0)])], [.row 103 4, .map 0 2, .nst 101 103 39 (some 0)]⟩ (fun n z => z0j φ (fun a0 a1 a2 => zk15 (a0, a1, a2, ())) n z.1 z.2.1 z.2.2.1 z.2.2.2.1 z.2.2.2.2.1 z.2.2.2.2.2.1 z.2.2.2.2.2.2.1 z.2.2.2.2.2.2.2.1) (fun zk25 => (.seq .x (.seq .x (.seq (.body (.seq .x (.seq (.join ⟨[(48, [(0, .own 0), (2, .own 1), (3, .val 0), (6, .val 0), (7, .val 0)]), (63, [(5, .own 2), (51, .own 2), (52, .val 0), (53, .val 0)])], [.row 103 4, .map 0 2, .nst 101 103 39 (some 0)]⟩ (fun z => z2d φ (fun a0 a1 a2 a3 a4 a5 a6 a7 => zk25 (a0, a1, a2, a3, a4, a5, a6, a7, ())) z.1 z.2.1 z.2.2.1 z.2.2.2.1 z.2.2.2.2.1 z.2.2.2.2.2.1 z.2.2.2.2.2.2.1 z.2.2.2.2.2.2.2.1 z.2.2.2.2.2.2.2.2.1) (.seq .x .x)) .x))) .x)))))))) .x)))) .x))))))) .x))))
def zai (P : Program) (φ : Nat) : Env TV := ⟨P, lk [(61, z9m φ), (62, z8d φ)], lk [(63, zse)], lk []⟩
theorem zkh (φ : Nat) (a) : (z52 φ).F a = fnX TV (zai Tryz.prog φ) φ Tryz.f31 [30, 38] [.val 40] (z7s φ) a := by kernel_rfl
theorem zke (φ : Nat) : fnO TV (zai Tryz.prog φ) φ Tryz.f31 [.val 40] (z7s φ) := by
  unfold fnO
  show obl _ _ _ _ _ _ _
  unfold z7s
  repeat' (first | exact trivial | (refine ⟨?_, ?_⟩) | (intro _) | kernel_rfl)
theorem zag (φ : Nat) : z0v TV Tryz.prog 31 (z52 φ) :=
  z15 (N := zai Tryz.prog φ) (zt ⟨zig φ, zhp φ, trivial⟩ ⟨zyv, trivial⟩ trivial) (z7s φ) Tryz.func31 (by kernel_rfl) (zkh φ) (zke φ)
def z8w (φ : Nat) : H TV (RTup TT [.val 41]) := (.seq .x (.seq .x (.seq .x (.seq (.seq .x (.body (.loop ⟨[(43, [(7, .own 0), (30, .val 39), (31, .val 0), (32, .val 0)])], [.row 91 3]⟩ (fun n z => z2v φ n z.1 z.2.1 z.2.2.1 z.2.2.2.1) (fun zk10 => .x)))) .x))))
def zc1 (P : Program) (φ : Nat) : Env TV := ⟨P, lk [(30, z1y φ), (31, z52 φ)], lk [], lk []⟩
theorem zmz (φ : Nat) (a) : (z8i φ).F a = fnX TV (zc1 Tryz.prog φ) φ Tryz.f16 [30, 38, 0] [.val 41] (z8w φ) a := by kernel_rfl
theorem znp (φ : Nat) : fnO TV (zc1 Tryz.prog φ) φ Tryz.f16 [.val 41] (z8w φ) := by
  unfold fnO
  show obl _ _ _ _ _ _ _
  unfold z8w
  repeat' (first | exact trivial | (refine ⟨?_, ?_⟩) | (intro _) | kernel_rfl)
theorem zf0 (φ : Nat) : z0v TV Tryz.prog 16 (z8i φ) :=
  z15 (N := zc1 Tryz.prog φ) (zt ⟨z4h φ, zag φ, trivial⟩ trivial trivial) (z8w φ) Tryz.func16 (by kernel_rfl) (zmz φ) (znp φ)
def z4g (φ : Nat) : H TV (RTup TT [.val 0, .val 0]) := (.seq .x (.seq (.ins 4 53 (.seq .x (.seq .x (.seq (.seq .x (.body (.loop ⟨[(77, [(2, .ptr 0 0), (4, .ptr 1 0), (19, .own 2), (20, .val 0), (21, .val 0)]), (30, [(1, .val 0), (2, .val 0), (3, .ptr 3 0)])], [.box 25 [.val 10], .box 142 [.own 4, .raw (.map none)], .row 3 0, .box 25 [.val 10], .row 66 5]⟩ (fun n z => z11 φ n z.1 z.2.1 z.2.2.1 z.2.2.2.1 z.2.2.2.2.1 z.2.2.2.2.2.1 z.2.2.2.2.2.2.1 z.2.2.2.2.2.2.2.1) (fun zk13 => .x)))) (.seq .x (.seq .x (.seq (.seq .x (.body (.loop ⟨[(77, [(4, .ptr 0 0), (8, .func 91 [.ptr 0 0, .ptr 1 0]), (44, .val 9), (45, .val 0), (46, .val 0)]), (30, [(1, .val 0), (2, .val 0), (3, .ptr 2 0)])], [.box 142 [.own 3, .own 4], .box 25 [.val 10], .box 25 [.val 10], .nst 66 3 5 none, .map 42 0]⟩ (fun n z => zf φ n z.1 z.2.1 z.2.2.1 z.2.2.2.1 z.2.2.2.2.1 z.2.2.2.2.2.1 z.2.2.2.2.2.2.1 z.2.2.2.2.2.2.2.1 z.2.2.2.2.2.2.2.2.1) (fun zk23 => (.seq .x (.seq .x (.seq (.body (.seq .x (.seq (.ins 6 91 (.seq .x (.seq .x (.seq (.join ⟨[(56, [(2, .val 0), (3, .ptr 0 0), (4, .ptr 1 0), (8, .ptr 2 0), (9, .val 0), (10, .val 2)]), (77, [(4, .ptr 0 0), (8, .func 91 [.ptr 0 0, .ptr 1 0]), (9, .val 0), (10, .ptr 3 0), (44, .val 9), (45, .val 0), (46, .val 0)]), (30, [(1, .val 0), (2, .val 0), (3, .ptr 4 0)])], [.box 142 [.own 5, .own 6], .box 25 [.val 10], .box 190 [.val 42], .box 150 [.val 8], .box 25 [.val 10], .nst 66 3 5 none, .map 42 0]⟩ (fun z => z27 φ (fun a0 a1 a2 a3 a4 a5 a6 a7 a8 => zk23 (a0, a1, a2, a3, a4, a5, a6, a7, a8, ())) z.1 z.2.1 z.2.2.1 z.2.2.2.1 z.2.2.2.2.1 z.2.2.2.2.2.1 z.2.2.2.2.2.2.1 z.2.2.2.2.2.2.2.1 z.2.2.2.2.2.2.2.2.1 z.2.2.2.2.2.2.2.2.2.1 z.2.2.2.2.2.2.2.2.2.2.1 z.2.2.2.2.2.2.2.2.2.2.2.1 z.2.2.2.2.2.2.2.2.2.2.2.2.1 z.2.2.2.2.2.2.2.2.2.2.2.2.2.1 z.2.2.2.2.2.2.2.2.2.2.2.2.2.2.1) (.seq .x (.cond (.foc (3, some 0) (0, none) .x) .x))) .x))) .x) (.ins 6 91 (.seq .x (.seq .x (.seq (.join ⟨[(56, [(2, .val 0), (3, .ptr 0 0), (4, .ptr 1 0), (8, .ptr 2 0), (9, .val 0), (10, .val 2)]), (77, [(4, .ptr 0 0), (8, .func 91 [.ptr 0 0, .ptr 1 0]), (44, .val 9), (45, .val 0), (46, .val 0)]), (30, [(1, .val 0), (2, .val 0), (3, .ptr 3 0)])], [.box 142 [.own 4, .own 5], .box 25 [.val 10], .box 190 [.val 42], .box 25 [.val 10], .nst 66 3 5 none, .map 42 0]⟩ (fun z => z26 φ (fun a0 a1 a2 a3 a4 a5 a6 a7 a8 => zk23 (a0, a1, a2, a3, a4, a5, a6, a7, a8, ())) z.1 z.2.1 z.2.2.1 z.2.2.2.1 z.2.2.2.2.1 z.2.2.2.2.2.1 z.2.2.2.2.2.2.1 z.2.2.2.2.2.2.2.1 z.2.2.2.2.2.2.2.2.1 z.2.2.2.2.2.2.2.2.2.1 z.2.2.2.2.2.2.2.2.2.2.1 z.2.2.2.2.2.2.2.2.2.2.2.1 z.2.2.2.2.2.2.2.2.2.2.2.2.1) (.seq .x (.cond (.foc (3, some 0) (0, none) .x) .x))) .x))) .x)))) .x))))))) (.seq (.seq .x (.body (.loop ⟨[(77, [(4, .ptr 0 0), (67, .own 1), (68, .val 0), (69, .val 0)]), (30, [(1, .val 0), (2, .val 0), (3, .ptr 2 0)])], [.box 142 [.own 1, .own 3], .nst 66 3 5 none, .box 25 [.val 10], .map 42 0]⟩ (fun n z => z0n φ n z.1 z.2.1 z.2.2.1 z.2.2.2.1 z.2.2.2.2.1 z.2.2.2.2.2.1 z.2.2.2.2.2.2.1) (fun zk75 => (.seq .x (.seq .x (.seq (.body (.seq (.foc (67, none) (69, none) .x) .x)) .x))))))) .x))))))) .x) (.seq .x (.seq (.seq (.ins 3 54 (.seq .x (.seq .x (.seq .x (.seq (.seq .x (.body (.loop ⟨[(118, [(2, .val 0), (3, .ptr 0 0), (4, .ptr 1 0), (7, .own 2), (8, .own 3), (23, .val 0), (24, .val 0)]), (30, [(2, .val 0)])], [.box 25 [.val 10], .box 142 [.own 4, .own 5], .row 3 0, .row 4 2, .nst 66 3 5 none, .map 42 0]⟩ (fun n z => zm φ n z.1 z.2.1 z.2.2.1 z.2.2.2.1 z.2.2.2.2.1 z.2.2.2.2.2.1 z.2.2.2.2.2.2.1 z.2.2.2.2.2.2.2.1 z.2.2.2.2.2.2.2.2.1) (fun zk86 => .x)))) (.seq .x (.body (.loop ⟨[(118, [(3, .ptr 0 0), (4, .ptr 1 0), (7, .own 2), (8, .own 3)]), (30, [(2, .val 0)])], [.box 25 [.val 10], .box 142 [.own 4, .own 5], .row 3 0, .row 4 2, .nst 66 3 5 none, .map 42 0]⟩ (fun n z => zh φ n z.1 z.2.1 z.2.2.1 z.2.2.2.1 z.2.2.2.2.1 z.2.2.2.2.2.1) (fun zk93 => (.body (.seq .x (.seq (.seq .x (.body (.loop ⟨[(118, [(3, .ptr 0 0), (4, .ptr 1 0), (7, .own 2), (8, .own 3), (10, .val 0), (35, .val 0), (36, .val 0)]), (30, [(2, .val 0)])], [.box 25 [.val 10], .box 142 [.own 4, .own 5], .row 3 0, .row 4 2, .nst 66 3 5 none, .map 42 0]⟩ (fun n z => z0a φ (fun a0 a1 a2 a3 a4 a5 => zk93 (a0, a1, a2, a3, a4, a5, ())) n z.1 z.2.1 z.2.2.1 z.2.2.2.1 z.2.2.2.2.1 z.2.2.2.2.2.1 z.2.2.2.2.2.2.1 z.2.2.2.2.2.2.2.1 z.2.2.2.2.2.2.2.2.1) (fun zk103 => .x)))) (.seq .x (.seq .x (.seq (.foc (4, some 0) (10, none) .x) (.body (.loop ⟨[(118, [(3, .ptr 0 0), (4, .ptr 1 0), (7, .own 2), (8, .own 3), (10, .val 0), (78, .own 4), (79, .val 0), (80, .val 0)]), (30, [(2, .val 0)])], [.box 25 [.val 10], .box 142 [.own 5, .own 6], .row 3 0, .row 4 2, .row 3 0, .nst 66 3 5 (some 4), .map 42 0]⟩ (fun n z => z09 φ (fun a0 a1 a2 a3 a4 a5 => zk93 (a0, a1, a2, a3, a4, a5, ())) n z.1 z.2.1 z.2.2.1 z.2.2.2.1 z.2.2.2.2.1 z.2.2.2.2.2.1 z.2.2.2.2.2.2.1 z.2.2.2.2.2.2.2.1 z.2.2.2.2.2.2.2.2.1 z.2.2.2.2.2.2.2.2.2.1 z.2.2.2.2.2.2.2.2.2.2.1) (fun zk115 => .x))))))))))))))))) .x) .x) .x))))
def z78 (P : Program) (φ : Nat) : Env TV := ⟨P, lk [(56, z2r φ)], lk [(92, zfr)], lk []⟩
theorem zgs (φ : Nat) (a) : (z7g φ).F a = fnX TV (z78 Tryz.prog φ) φ Tryz.f27 [10, 0, 0] [.val 0, .val 0] (z4g φ) a := by kernel_rfl
theorem zgo (φ : Nat) : fnO TV (z78 Tryz.prog φ) φ Tryz.f27 [.val 0, .val 0] (z4g φ) := by
  unfold fnO
  show obl _ _ _ _ _ _ _
  unfold z4g
  repeat' (first | exact trivial | (refine ⟨?_, ?_⟩) | (intro _) | kernel_rfl)
theorem zgb (φ : Nat) : z0v TV Tryz.prog 27 (z7g φ) :=
  z15 (N := z78 Tryz.prog φ) (zt ⟨z68 φ, trivial⟩ ⟨zjf, trivial⟩ trivial) (z4g φ) Tryz.func27 (by kernel_rfl) (zgs φ) (zgo φ)
def z7k (φ : Nat) : H TV (RTup TT [.val 0]) := .x
def zal (P : Program) (φ : Nat) : Env TV := ⟨P, lk [(27, z7g φ)], lk [], lk []⟩
theorem zkj (φ : Nat) (a) : (zab φ).F a = fnX TV (zal Tryz.prog φ) φ Tryz.f33 [10, 3, 3] [.val 0] (z7k φ) a := by kernel_rfl
theorem zkl (φ : Nat) : fnO TV (zal Tryz.prog φ) φ Tryz.f33 [.val 0] (z7k φ) := by
  unfold fnO
  show obl _ _ _ _ _ _ _
  unfold z7k
  repeat' (first | exact trivial | (refine ⟨?_, ?_⟩) | (intro _) | kernel_rfl)
theorem zkv (φ : Nat) : z0v TV Tryz.prog 33 (zab φ) :=
  z15 (N := zal Tryz.prog φ) (zt ⟨zgb φ, trivial⟩ trivial trivial) (z7k φ) Tryz.func33 (by kernel_rfl) (zkj φ) (zkl φ)
def z8x (φ : Nat) : H TV (RTup TT [.val 49, .val 0]) := (.seq .x (.seq .x (.seq .x (.seq .x (.seq .x (.seq (.seq .x (.body (.loop ⟨[(257, [(2, .ptr 0 0), (4, .ptr 1 0), (7, .val 40), (8, .ptr 2 0), (9, .own 3), (40, .val 40), (41, .val 0), (42, .val 0)])], [.box 36 [.val 30], .box 46 [.val 0, .own 4, .own 5, .own 6], .box 99 [.val 0, .own 7, .own 8, .own 9], .map 0 0, .row 94 43, .row 108 45, .row 87 47, .row 94 43, .row 108 45, .row 87 47]⟩ (fun n z => z1d φ n z.1 z.2.1 z.2.2.1 z.2.2.2.1 z.2.2.2.2.1 z.2.2.2.2.2.1 z.2.2.2.2.2.2.1 z.2.2.2.2.2.2.2.1 z.2.2.2.2.2.2.2.2.1 z.2.2.2.2.2.2.2.2.2.1 z.2.2.2.2.2.2.2.2.2.2.1 z.2.2.2.2.2.2.2.2.2.2.2.1 z.2.2.2.2.2.2.2.2.2.2.2.2.1 z.2.2.2.2.2.2.2.2.2.2.2.2.2.1) (fun zk19 => (.seq .x (.seq .x (.seq (.body (.seq .x (.seq .x (.body (.loop ⟨[(257, [(2, .ptr 0 0), (4, .ptr 1 0), (7, .val 40), (8, .ptr 2 0), (9, .own 3), (40, .val 40), (41, .val 0), (42, .val 0), (46, .val 39), (47, .val 0), (48, .val 0)])], [.box 36 [.val 30], .box 46 [.val 0, .own 4, .own 5, .own 6], .box 99 [.val 0, .own 7, .own 8, .own 9], .map 0 0, .row 94 43, .row 108 45, .row 87 47, .row 94 43, .row 108 45, .row 87 47]⟩ (fun n z => z17 φ (fun a0 a1 a2 a3 a4 a5 a6 a7 a8 a9 a10 a11 a12 a13 => zk19 (a0, a1, a2, a3, a4, a5, a6, a7, a8, a9, a10, a11, a12, a13, ())) n z.1 z.2.1 z.2.2.1 z.2.2.2.1 z.2.2.2.2.1 z.2.2.2.2.2.1 z.2.2.2.2.2.2.1 z.2.2.2.2.2.2.2.1 z.2.2.2.2.2.2.2.2.1 z.2.2.2.2.2.2.2.2.2.1 z.2.2.2.2.2.2.2.2.2.2.1 z.2.2.2.2.2.2.2.2.2.2.2.1 z.2.2.2.2.2.2.2.2.2.2.2.2.1 z.2.2.2.2.2.2.2.2.2.2.2.2.2.1 z.2.2.2.2.2.2.2.2.2.2.2.2.2.2.1 z.2.2.2.2.2.2.2.2.2.2.2.2.2.2.2.1 z.2.2.2.2.2.2.2.2.2.2.2.2.2.2.2.2.1) (fun zk37 => .x)))))) .x))))))) (.seq (.seq .x (.body (.loop ⟨[(257, [(2, .ptr 0 0), (4, .ptr 1 0), (7, .val 40), (8, .ptr 2 0), (9, .own 3), (61, .val 22), (62, .val 0), (63, .val 0)])], [.box 36 [.val 30], .box 46 [.val 0, .own 4, .own 5, .own 6], .box 99 [.val 0, .own 7, .own 8, .own 9], .map 0 0, .row 94 43, .row 108 45, .row 87 47, .row 94 43, .row 108 45, .row 87 47]⟩ (fun n z => z0u φ n z.1 z.2.1 z.2.2.1 z.2.2.2.1 z.2.2.2.2.1 z.2.2.2.2.2.1 z.2.2.2.2.2.2.1 z.2.2.2.2.2.2.2.1 z.2.2.2.2.2.2.2.2.1 z.2.2.2.2.2.2.2.2.2.1 z.2.2.2.2.2.2.2.2.2.2.1 z.2.2.2.2.2.2.2.2.2.2.2.1 z.2.2.2.2.2.2.2.2.2.2.2.2.1 z.2.2.2.2.2.2.2.2.2.2.2.2.2.1) (fun zk52 => (.seq .x (.seq .x (.seq (.body (.seq .x (.seq .x (.seq .x (.cond (.seq .x (.seq (.ins 20 32 (.seq .x (.seq .x (.body (.loop ⟨[(39, [(0, .ptr 0 0), (4, .ptr 1 0), (8, .own 2), (9, .val 0), (10, .val 0)]), (257, [(2, .ptr 3 0), (4, .ptr 4 0), (7, .val 40), (8, .ptr 0 0), (9, .own 5), (61, .val 22), (62, .val 0), (63, .val 0), (82, .ptr 0 0), (83, .val 45), (84, .ptr 0 0), (85, .ptr 0 0), (86, .ptr 0 0), (87, .ptr 0 0), (88, .val 0), (89, .ptr 6 1), (90, .val 0), (91, .val 0), (92, .val 43), (93, .ptr 0 0), (94, .ptr 0 0), (95, .ptr 0 0), (96, .ptr 0 0), (97, .val 0), (98, .ptr 6 2), (99, .val 0), (100, .val 43), (101, .own 2)])], [.box 99 [.val 0, .own 7, .own 8, .own 9], .box 108 [.val 45], .row 94 43, .box 36 [.val 30], .box 46 [.val 0, .own 10, .own 11, .own 12], .map 0 0, .box 105 [.val 21], .row 94 43, .row 108 45, .row 87 47, .row 94 43, .row 108 45, .row 87 47]⟩ (fun n z => z21 φ (fun a0 a1 a2 a3 a4 a5 a6 a7 a8 a9 a10 a11 a12 a13 => zk52 (a0, a1, a2, a3, a4, a5, a6, a7, a8, a9, a10, a11, a12, a13, ())) n z.1 z.2.1 z.2.2.1 z.2.2.2.1 z.2.2.2.2.1 z.2.2.2.2.2.1 z.2.2.2.2.2.2.1 z.2.2.2.2.2.2.2.1 z.2.2.2.2.2.2.2.2.1 z.2.2.2.2.2.2.2.2.2.1 z.2.2.2.2.2.2.2.2.2.2.1 z.2.2.2.2.2.2.2.2.2.2.2.1 z.2.2.2.2.2.2.2.2.2.2.2.2.1 z.2.2.2.2.2.2.2.2.2.2.2.2.2.1 z.2.2.2.2.2.2.2.2.2.2.2.2.2.2.1 z.2.2.2.2.2.2.2.2.2.2.2.2.2.2.2.1 z.2.2.2.2.2.2.2.2.2.2.2.2.2.2.2.2.1 z.2.2.2.2.2.2.2.2.2.2.2.2.2.2.2.2.2.1 z.2.2.2.2.2.2.2.2.2.2.2.2.2.2.2.2.2.2.1 z.2.2.2.2.2.2.2.2.2.2.2.2.2.2.2.2.2.2.2.1 z.2.2.2.2.2.2.2.2.2.2.2.2.2.2.2.2.2.2.2.2.1 z.2.2.2.2.2.2.2.2.2.2.2.2.2.2.2.2.2.2.2.2.2.1 z.2.2.2.2.2.2.2.2.2.2.2.2.2.2.2.2.2.2.2.2.2.2.1 z.2.2.2.2.2.2.2.2.2.2.2.2.2.2.2.2.2.2.2.2.2.2.2.1 z.2.2.2.2.2.2.2.2.2.2.2.2.2.2.2.2.2.2.2.2.2.2.2.2.1 z.2.2.2.2.2.2.2.2.2.2.2.2.2.2.2.2.2.2.2.2.2.2.2.2.2.1 z.2.2.2.2.2.2.2.2.2.2.2.2.2.2.2.2.2.2.2.2.2.2.2.2.2.2.1) (fun zk80 => .x))))) .x) .x)) .x))))) .x))))))) (.seq (.seq .x (.body (.loop ⟨[(257, [(2, .ptr 0 0), (4, .ptr 1 0), (8, .ptr 2 0), (9, .own 3), (113, .val 40), (114, .val 0), (115, .val 0)])], [.box 36 [.val 30], .box 46 [.val 0, .own 4, .own 5, .own 6], .box 99 [.val 0, .own 7, .own 8, .own 9], .map 0 0, .row 94 43, .row 108 45, .row 87 47, .row 94 43, .row 108 45, .row 87 47]⟩ (fun n z => z1b φ n z.1 z.2.1 z.2.2.1 z.2.2.2.1 z.2.2.2.2.1 z.2.2.2.2.2.1 z.2.2.2.2.2.2.1 z.2.2.2.2.2.2.2.1 z.2.2.2.2.2.2.2.2.1 z.2.2.2.2.2.2.2.2.2.1 z.2.2.2.2.2.2.2.2.2.2.1 z.2.2.2.2.2.2.2.2.2.2.2.1 z.2.2.2.2.2.2.2.2.2.2.2.2.1) (fun zk94 => (.seq .x (.seq .x (.seq (.body (.seq .x (.seq .x (.body (.loop ⟨[(257, [(2, .ptr 0 0), (4, .ptr 1 0), (8, .ptr 2 0), (9, .own 3), (19, .val 39), (113, .val 40), (114, .val 0), (115, .val 0), (119, .val 39), (120, .val 0), (121, .val 0)])], [.box 36 [.val 30], .box 46 [.val 0, .own 4, .own 5, .own 6], .box 99 [.val 0, .own 7, .own 8, .own 9], .map 0 0, .row 94 43, .row 108 45, .row 87 47, .row 94 43, .row 108 45, .row 87 47]⟩ (fun n z => z02 φ (fun a0 a1 a2 a3 a4 a5 a6 a7 a8 a9 a10 a11 a12 => zk94 (a0, a1, a2, a3, a4, a5, a6, a7, a8, a9, a10, a11, a12, ())) n z.1 z.2.1 z.2.2.1 z.2.2.2.1 z.2.2.2.2.1 z.2.2.2.2.2.1 z.2.2.2.2.2.2.1 z.2.2.2.2.2.2.2.1 z.2.2.2.2.2.2.2.2.1 z.2.2.2.2.2.2.2.2.2.1 z.2.2.2.2.2.2.2.2.2.2.1 z.2.2.2.2.2.2.2.2.2.2.2.1 z.2.2.2.2.2.2.2.2.2.2.2.2.1 z.2.2.2.2.2.2.2.2.2.2.2.2.2.1 z.2.2.2.2.2.2.2.2.2.2.2.2.2.2.1 z.2.2.2.2.2.2.2.2.2.2.2.2.2.2.2.1 z.2.2.2.2.2.2.2.2.2.2.2.2.2.2.2.2.1) (fun zk112 => (.seq .x (.seq .x (.seq (.body (.seq .x (.seq .x (.seq .x (.seq .x (.seq (.join ⟨[(257, [(2, .ptr 0 0), (4, .ptr 1 0), (8, .ptr 2 0), (9, .own 3), (19, .val 39), (20, .val 0), (21, .ptr 4 0), (22, .val 0), (113, .val 40), (114, .val 0), (115, .val 0), (119, .val 39), (120, .val 0), (121, .val 0)])], [.box 36 [.val 30], .box 46 [.val 0, .own 5, .own 6, .own 7], .box 99 [.val 0, .own 8, .own 9, .own 10], .map 0 0, .box 103 [.val 4], .row 94 43, .row 108 45, .row 87 47, .row 94 43, .row 108 45, .row 87 47]⟩ (fun z => z0i φ (fun a0 a1 a2 a3 a4 a5 a6 a7 a8 a9 a10 a11 a12 a13 a14 a15 a16 => zk112 (a0, a1, a2, a3, a4, a5, a6, a7, a8, a9, a10, a11, a12, a13, a14, a15, a16, ())) z.1 z.2.1 z.2.2.1 z.2.2.2.1 z.2.2.2.2.1 z.2.2.2.2.2.1 z.2.2.2.2.2.2.1 z.2.2.2.2.2.2.2.1 z.2.2.2.2.2.2.2.2.1 z.2.2.2.2.2.2.2.2.2.1 z.2.2.2.2.2.2.2.2.2.2.1 z.2.2.2.2.2.2.2.2.2.2.2.1 z.2.2.2.2.2.2.2.2.2.2.2.2.1 z.2.2.2.2.2.2.2.2.2.2.2.2.2.1 z.2.2.2.2.2.2.2.2.2.2.2.2.2.2.1 z.2.2.2.2.2.2.2.2.2.2.2.2.2.2.2.1 z.2.2.2.2.2.2.2.2.2.2.2.2.2.2.2.2.1 z.2.2.2.2.2.2.2.2.2.2.2.2.2.2.2.2.2.1 z.2.2.2.2.2.2.2.2.2.2.2.2.2.2.2.2.2.2.1 z.2.2.2.2.2.2.2.2.2.2.2.2.2.2.2.2.2.2.2.1) (.seq .x (.cond (.ins 10 32 (.seq .x (.seq .x (.body (.loop ⟨[(39, [(0, .ptr 0 0), (4, .ptr 1 0), (8, .own 2), (9, .val 0), (10, .val 0)]), (257, [(2, .ptr 3 0), (4, .ptr 4 0), (8, .ptr 0 0), (9, .own 5), (19, .val 39), (20, .val 0), (21, .ptr 6 0), (22, .val 0), (113, .val 40), (114, .val 0), (115, .val 0), (119, .val 39), (120, .val 0), (121, .val 0)])], [.box 99 [.val 0, .own 7, .own 8, .own 9], .box 108 [.val 45], .row 94 43, .box 36 [.val 30], .box 46 [.val 0, .own 10, .own 11, .own 12], .map 0 0, .box 103 [.val 4], .row 94 43, .row 108 45, .row 87 47, .row 94 43, .row 108 45, .row 87 47]⟩ (fun n z => z1n φ (fun a0 a1 a2 a3 a4 a5 a6 a7 a8 a9 a10 a11 a12 a13 a14 a15 a16 => zk112 (a0, a1, a2, a3, a4, a5, a6, a7, a8, a9, a10, a11, a12, a13, a14, a15, a16, ())) n z.1 z.2.1 z.2.2.1 z.2.2.2.1 z.2.2.2.2.1 z.2.2.2.2.2.1 z.2.2.2.2.2.2.1 z.2.2.2.2.2.2.2.1 z.2.2.2.2.2.2.2.2.1 z.2.2.2.2.2.2.2.2.2.1 z.2.2.2.2.2.2.2.2.2.2.1 z.2.2.2.2.2.2.2.2.2.2.2.1 z.2.2.2.2.2.2.2.2.2.2.2.2.1 z.2.2.2.2.2.2.2.2.2.2.2.2.2.1 z.2.2.2.2.2.2.2.2.2.2.2.2.2.2.1 z.2.2.2.2.2.2.2.2.2.2.2.2.2.2.2.1 z.2.2.2.2.2.2.2.2.2.2.2.2.2.2.2.2.1 z.2.2.2.2.2.2.2.2.2.2.2.2.2.2.2.2.2.1 z.2.2.2.2.2.2.2.2.2.2.2.2.2.2.2.2.2.2.1 z.2.2.2.2.2.2.2.2.2.2.2.2.2.2.2.2.2.2.2.1 z.2.2.2.2.2.2.2.2.2.2.2.2.2.2.2.2.2.2.2.2.1 z.2.2.2.2.2.2.2.2.2.2.2.2.2.2.2.2.2.2.2.2.2.1 z.2.2.2.2.2.2.2.2.2.2.2.2.2.2.2.2.2.2.2.2.2.2.1 z.2.2.2.2.2.2.2.2.2.2.2.2.2.2.2.2.2.2.2.2.2.2.2.1) (fun zk195 => .x))))) .x) (.seq .x (.ins 16 32 (.seq .x (.seq .x (.body (.loop ⟨[(39, [(0, .ptr 0 0), (4, .ptr 1 0), (8, .own 2), (9, .val 0), (10, .val 0)]), (257, [(2, .ptr 3 0), (4, .ptr 4 0), (8, .ptr 0 0), (9, .own 5), (19, .val 39), (20, .val 0), (21, .ptr 6 0), (22, .val 0), (113, .val 40), (114, .val 0), (115, .val 0), (119, .val 39), (120, .val 0), (121, .val 0)])], [.box 99 [.val 0, .own 7, .own 8, .own 9], .box 108 [.val 45], .row 94 43, .box 36 [.val 30], .box 46 [.val 0, .own 10, .own 11, .own 12], .map 0 0, .box 103 [.val 4], .row 94 43, .row 108 45, .row 87 47, .row 94 43, .row 108 45, .row 87 47]⟩ (fun n z => z1k φ (fun a0 a1 a2 a3 a4 a5 a6 a7 a8 a9 a10 a11 a12 a13 a14 a15 a16 => zk112 (a0, a1, a2, a3, a4, a5, a6, a7, a8, a9, a10, a11, a12, a13, a14, a15, a16, ())) n z.1 z.2.1 z.2.2.1 z.2.2.2.1 z.2.2.2.2.1 z.2.2.2.2.2.1 z.2.2.2.2.2.2.1 z.2.2.2.2.2.2.2.1 z.2.2.2.2.2.2.2.2.1 z.2.2.2.2.2.2.2.2.2.1 z.2.2.2.2.2.2.2.2.2.2.1 z.2.2.2.2.2.2.2.2.2.2.2.1 z.2.2.2.2.2.2.2.2.2.2.2.2.1 z.2.2.2.2.2.2.2.2.2.2.2.2.2.1 z.2.2.2.2.2.2.2.2.2.2.2.2.2.2.1 z.2.2.2.2.2.2.2.2.2.2.2.2.2.2.2.1 z.2.2.2.2.2.2.2.2.2.2.2.2.2.2.2.2.1 z.2.2.2.2.2.2.2.2.2.2.2.2.2.2.2.2.2.1 z.2.2.2.2.2.2.2.2.2.2.2.2.2.2.2.2.2.2.1 z.2.2.2.2.2.2.2.2.2.2.2.2.2.2.2.2.2.2.2.1 z.2.2.2.2.2.2.2.2.2.2.2.2.2.2.2.2.2.2.2.2.1 z.2.2.2.2.2.2.2.2.2.2.2.2.2.2.2.2.2.2.2.2.2.1 z.2.2.2.2.2.2.2.2.2.2.2.2.2.2.2.2.2.2.2.2.2.2.1 z.2.2.2.2.2.2.2.2.2.2.2.2.2.2.2.2.2.2.2.2.2.2.2.1) (fun zk220 => .x))))) .x))))) (.seq .x (.cond (.seq .x (.ins 19 32 (.seq .x (.seq .x (.body (.loop ⟨[(39, [(0, .ptr 0 0), (4, .ptr 1 0), (8, .own 2), (9, .val 0), (10, .val 0)]), (257, [(2, .ptr 3 0), (4, .ptr 4 0), (8, .ptr 0 0), (9, .own 5), (19, .val 39), (113, .val 40), (114, .val 0), (115, .val 0), (119, .val 39), (120, .val 0), (121, .val 0), (215, .ptr 0 0), (216, .ptr 6 2), (217, .val 1), (218, .ptr 7 0), (219, .ptr 7 2), (220, .val 1), (221, .val 45), (222, .val 0), (223, .val 0), (224, .val 0), (225, .ptr 3 0), (226, .val 10), (227, .val 3), (228, .ptr 7 0), (229, .val 3), (230, .val 0), (231, .val 0), (232, .val 43), (233, .own 2)])], [.box 99 [.val 0, .own 8, .own 9, .own 10], .box 108 [.val 45], .row 94 43, .box 36 [.val 30], .box 46 [.val 0, .own 11, .own 12, .own 13], .map 0 0, .box 91 [.val 3], .box 103 [.val 4], .row 94 43, .row 108 45, .row 87 47, .row 94 43, .row 108 45, .row 87 47]⟩ (fun n z => z1q φ (fun a0 a1 a2 a3 a4 a5 a6 a7 a8 a9 a10 a11 a12 a13 a14 a15 a16 => zk112 (a0, a1, a2, a3, a4, a5, a6, a7, a8, a9, a10, a11, a12, a13, a14, a15, a16, ())) n z.1 z.2.1 z.2.2.1 z.2.2.2.1 z.2.2.2.2.1 z.2.2.2.2.2.1 z.2.2.2.2.2.2.1 z.2.2.2.2.2.2.2.1 z.2.2.2.2.2.2.2.2.1 z.2.2.2.2.2.2.2.2.2.1 z.2.2.2.2.2.2.2.2.2.2.1 z.2.2.2.2.2.2.2.2.2.2.2.1 z.2.2.2.2.2.2.2.2.2.2.2.2.1 z.2.2.2.2.2.2.2.2.2.2.2.2.2.1 z.2.2.2.2.2.2.2.2.2.2.2.2.2.2.1 z.2.2.2.2.2.2.2.2.2.2.2.2.2.2.2.1 z.2.2.2.2.2.2.2.2.2.2.2.2.2.2.2.2.1 z.2.2.2.2.2.2.2.2.2.2.2.2.2.2.2.2.2.1 z.2.2.2.2.2.2.2.2.2.2.2.2.2.2.2.2.2.2.1 z.2.2.2.2.2.2.2.2.2.2.2.2.2.2.2.2.2.2.2.1 z.2.2.2.2.2.2.2.2.2.2.2.2.2.2.2.2.2.2.2.2.1 z.2.2.2.2.2.2.2.2.2.2.2.2.2.2.2.2.2.2.2.2.2.1 z.2.2.2.2.2.2.2.2.2.2.2.2.2.2.2.2.2.2.2.2.2.2.1 z.2.2.2.2.2.2.2.2.2.2.2.2.2.2.2.2.2.2.2.2.2.2.2.1 z.2.2.2.2.2.2.2.2.2.2.2.2.2.2.2.2.2.2.2.2.2.2.2.2.1 z.2.2.2.2.2.2.2.2.2.2.2.2.2.2.2.2.2.2.2.2.2.2.2.2.2.1 z.2.2.2.2.2.2.2.2.2.2.2.2.2.2.2.2.2.2.2.2.2.2.2.2.2.2.1 z.2.2.2.2.2.2.2.2.2.2.2.2.2.2.2.2.2.2.2.2.2.2.2.2.2.2.2.1 z.2.2.2.2.2.2.2.2.2.2.2.2.2.2.2.2.2.2.2.2.2.2.2.2.2.2.2.2.1 z.2.2.2.2.2.2.2.2.2.2.2.2.2.2.2.2.2.2.2.2.2.2.2.2.2.2.2.2.2.1 z.2.2.2.2.2.2.2.2.2.2.2.2.2.2.2.2.2.2.2.2.2.2.2.2.2.2.2.2.2.2.1 z.2.2.2.2.2.2.2.2.2.2.2.2.2.2.2.2.2.2.2.2.2.2.2.2.2.2.2.2.2.2.2.1 z.2.2.2.2.2.2.2.2.2.2.2.2.2.2.2.2.2.2.2.2.2.2.2.2.2.2.2.2.2.2.2.2.1 z.2.2.2.2.2.2.2.2.2.2.2.2.2.2.2.2.2.2.2.2.2.2.2.2.2.2.2.2.2.2.2.2.2.1 z.2.2.2.2.2.2.2.2.2.2.2.2.2.2.2.2.2.2.2.2.2.2.2.2.2.2.2.2.2.2.2.2.2.2.1) (fun zk170 => .x))))) .x)) .x)))))))) .x))))))))) .x))))))) .x))))))))
def zbw (P : Program) (φ : Nat) : Env TV := ⟨P, lk [(30, z1y φ), (31, z52 φ), (33, zab φ)], lk [], lk []⟩
theorem zlw (φ : Nat) (a) : (z8n φ).F a = fnX TV (zbw Tryz.prog φ) φ Tryz.f10 [30, 38] [.val 49, .val 0] (z8x φ) a := by kernel_rfl
theorem zmw (φ : Nat) : fnO TV (zbw Tryz.prog φ) φ Tryz.f10 [.val 49, .val 0] (z8x φ) := by
  unfold fnO
  show obl _ _ _ _ _ _ _
  unfold z8x
  repeat' (first | exact trivial | (refine ⟨?_, ?_⟩) | (intro _) | kernel_rfl)
theorem zfe (φ : Nat) : z0v TV Tryz.prog 10 (z8n φ) :=
  z15 (N := zbw Tryz.prog φ) (zt ⟨z4h φ, zag φ, zkv φ, trivial⟩ trivial trivial) (z8x φ) Tryz.func10 (by kernel_rfl) (zlw φ) (zmw φ)
end Px
end
section
set_option linter.unusedVariables false
set_option linter.unusedSimpArgs false
set_option maxHeartbeats 4000000
set_option maxRecDepth 100000
namespace Px
open Go Go.RowKit Go.Proofs
def z6b (φ : Nat) : H TV (RTup TT [.val 5, .val 0]) := (.seq .x (.seq (.ins 4 53 (.seq .x (.seq .x (.seq (.seq .x (.body (.loop ⟨[(77, [(2, .ptr 0 0), (4, .ptr 1 0), (19, .own 2), (20, .val 0), (21, .val 0)]), (75, [(1, .val 0), (2, .val 0), (3, .ptr 3 0)])], [.box 25 [.val 10], .box 142 [.own 4, .raw (.map none)], .row 3 0, .box 25 [.val 10], .row 66 5]⟩ (fun n z => z6x φ n z.1 z.2.1 z.2.2.1 z.2.2.2.1 z.2.2.2.2.1 z.2.2.2.2.2.1 z.2.2.2.2.2.2.1 z.2.2.2.2.2.2.2.1) (fun zk13 => .x)))) (.seq .x (.seq .x (.seq (.seq .x (.body (.loop ⟨[(77, [(4, .ptr 0 0), (8, .func 91 [.ptr 0 0, .ptr 1 0]), (44, .val 9), (45, .val 0), (46, .val 0)]), (75, [(1, .val 0), (2, .val 0), (3, .ptr 2 0)])], [.box 142 [.own 3, .own 4], .box 25 [.val 10], .box 25 [.val 10], .nst 66 3 5 none, .map 42 0]⟩ (fun n z => z4a φ n z.1 z.2.1 z.2.2.1 z.2.2.2.1 z.2.2.2.2.1 z.2.2.2.2.2.1 z.2.2.2.2.2.2.1 z.2.2.2.2.2.2.2.1 z.2.2.2.2.2.2.2.2.1) (fun zk23 => (.seq .x (.seq .x (.seq (.body (.seq .x (.seq (.ins 6 91 (.seq .x (.seq .x (.seq (.join ⟨[(56, [(2, .val 0), (3, .ptr 0 0), (4, .ptr 1 0), (8, .ptr 2 0), (9, .val 0), (10, .val 2)]), (77, [(4, .ptr 0 0), (8, .func 91 [.ptr 0 0, .ptr 1 0]), (9, .val 0), (10, .ptr 3 0), (44, .val 9), (45, .val 0), (46, .val 0)]), (75, [(1, .val 0), (2, .val 0), (3, .ptr 4 0)])], [.box 142 [.own 5, .own 6], .box 25 [.val 10], .box 190 [.val 42], .box 150 [.val 8], .box 25 [.val 10], .nst 66 3 5 none, .map 42 0]⟩ (fun z => z7e φ (fun a0 a1 a2 a3 a4 a5 a6 a7 a8 => zk23 (a0, a1, a2, a3, a4, a5, a6, a7, a8, ())) z.1 z.2.1 z.2.2.1 z.2.2.2.1 z.2.2.2.2.1 z.2.2.2.2.2.1 z.2.2.2.2.2.2.1 z.2.2.2.2.2.2.2.1 z.2.2.2.2.2.2.2.2.1 z.2.2.2.2.2.2.2.2.2.1 z.2.2.2.2.2.2.2.2.2.2.1 z.2.2.2.2.2.2.2.2.2.2.2.1 z.2.2.2.2.2.2.2.2.2.2.2.2.1 z.2.2.2.2.2.2.2.2.2.2.2.2.2.1 z.2.2.2.2.2.2.2.2.2.2.2.2.2.2.1) (.seq .x (.cond (.foc (3, some 0) (0, none) .x) .x))) .x))) .x) (.ins 6 91 (.seq .x (.seq .x (.seq (.join ⟨[(56, [(2, .val 0), (3, .ptr 0 0), (4, .ptr 1 0), (8, .ptr 2 0), (9, .val 0), (10, .val 2)]), (77, [(4, .ptr 0 0), (8, .func 91 [.ptr 0 0, .ptr 1 0]), (44, .val 9), (45, .val 0), (46, .val 0)]), (75, [(1, .val 0), (2, .val 0), (3, .ptr 3 0)])], [.box 142 [.own 4, .own 5], .box 25 [.val 10], .box 190 [.val 42], .box 25 [.val 10], .nst 66 3 5 none, .map 42 0]⟩ (fun z => z7j φ (fun a0 a1 a2 a3 a4 a5 a6 a7 a8 => zk23 (a0, a1, a2, a3, a4, a5, a6, a7, a8, ())) z.1 z.2.1 z.2.2.1 z.2.2.2.1 z.2.2.2.2.1 z.2.2.2.2.2.1 z.2.2.2.2.2.2.1 z.2.2.2.2.2.2.2.1 z.2.2.2.2.2.2.2.2.1 z.2.2.2.2.2.2.2.2.2.1 z.2.2.2.2.2.2.2.2.2.2.1 z.2.2.2.2.2.2.2.2.2.2.2.1 z.2.2.2.2.2.2.2.2.2.2.2.2.1) (.seq .x (.cond (.foc (3, some 0) (0, none) .x) .x))) .x))) .x)))) .x))))))) (.seq (.seq .x (.body (.loop ⟨[(77, [(4, .ptr 0 0), (67, .own 1), (68, .val 0), (69, .val 0)]), (75, [(1, .val 0), (2, .val 0), (3, .ptr 2 0)])], [.box 142 [.own 1, .own 3], .nst 66 3 5 none, .box 25 [.val 10], .map 42 0]⟩ (fun n z => z73 φ n z.1 z.2.1 z.2.2.1 z.2.2.2.1 z.2.2.2.2.1 z.2.2.2.2.2.1 z.2.2.2.2.2.2.1) (fun zk75 => (.seq .x (.seq .x (.seq (.body (.seq (.foc (67, none) (69, none) .x) .x)) .x))))))) .x))))))) .x) (.seq .x (.seq (.ins 3 54 (.seq .x (.seq .x (.seq .x (.seq (.seq .x (.body (.loop ⟨[(118, [(2, .val 0), (3, .ptr 0 0), (4, .ptr 1 0), (7, .own 2), (8, .own 3), (23, .val 0), (24, .val 0)]), (75, [(1, .val 0), (2, .val 0), (3, .ptr 4 0), (8, .ptr 5 0)])], [.box 25 [.val 10], .box 142 [.own 6, .own 7], .row 3 0, .row 4 2, .box 25 [.val 10], .box 142 [.own 6, .own 7], .nst 66 3 5 none, .map 42 0]⟩ (fun n z => z74 φ n z.1 z.2.1 z.2.2.1 z.2.2.2.1 z.2.2.2.2.1 z.2.2.2.2.2.1 z.2.2.2.2.2.2.1 z.2.2.2.2.2.2.2.1 z.2.2.2.2.2.2.2.2.1 z.2.2.2.2.2.2.2.2.2.1 z.2.2.2.2.2.2.2.2.2.2.1) (fun zk88 => .x)))) (.seq .x (.body (.loop ⟨[(118, [(3, .ptr 0 0), (4, .ptr 1 0), (7, .own 2), (8, .own 3)]), (75, [(1, .val 0), (2, .val 0), (3, .ptr 4 0), (8, .ptr 5 0)])], [.box 25 [.val 10], .box 142 [.own 6, .own 7], .row 3 0, .row 4 2, .box 25 [.val 10], .box 142 [.own 6, .own 7], .nst 66 3 5 none, .map 42 0]⟩ (fun n z => z75 φ n z.1 z.2.1 z.2.2.1 z.2.2.2.1 z.2.2.2.2.1 z.2.2.2.2.2.1 z.2.2.2.2.2.2.1 z.2.2.2.2.2.2.2.1) (fun zk97 => (.body (.seq .x (.seq (.seq .x (.body (.loop ⟨[(118, [(3, .ptr 0 0), (4, .ptr 1 0), (7, .own 2), (8, .own 3), (10, .val 0), (35, .val 0), (36, .val 0)]), (75, [(1, .val 0), (2, .val 0), (3, .ptr 4 0), (8, .ptr 5 0)])], [.box 25 [.val 10], .box 142 [.own 6, .own 7], .row 3 0, .row 4 2, .box 25 [.val 10], .box 142 [.own 6, .own 7], .nst 66 3 5 none, .map 42 0]⟩ (fun n z => z3x φ (fun a0 a1 a2 a3 a4 a5 a6 a7 => zk97 (a0, a1, a2, a3, a4, a5, a6, a7, ())) n z.1 z.2.1 z.2.2.1 z.2.2.2.1 z.2.2.2.2.1 z.2.2.2.2.2.1 z.2.2.2.2.2.2.1 z.2.2.2.2.2.2.2.1 z.2.2.2.2.2.2.2.2.1 z.2.2.2.2.2.2.2.2.2.1 z.2.2.2.2.2.2.2.2.2.2.1) (fun zk109 => .x)))) (.seq .x (.seq .x (.seq (.foc (4, some 0) (10, none) .x) (.body (.loop ⟨[(118, [(3, .ptr 0 0), (4, .ptr 1 0), (7, .own 2), (8, .own 3), (10, .val 0), (78, .own 4), (79, .val 0), (80, .val 0)]), (75, [(1, .val 0), (2, .val 0), (3, .ptr 5 0), (8, .ptr 6 0)])], [.box 25 [.val 10], .box 142 [.own 7, .own 8], .row 3 0, .row 4 2, .row 3 0, .box 25 [.val 10], .box 142 [.own 7, .own 8], .nst 66 3 5 (some 4), .map 42 0]⟩ (fun n z => z3t φ (fun a0 a1 a2 a3 a4 a5 a6 a7 => zk97 (a0, a1, a2, a3, a4, a5, a6, a7, ())) n z.1 z.2.1 z.2.2.1 z.2.2.2.1 z.2.2.2.2.1 z.2.2.2.2.2.1 z.2.2.2.2.2.2.1 z.2.2.2.2.2.2.2.1 z.2.2.2.2.2.2.2.2.1 z.2.2.2.2.2.2.2.2.2.1 z.2.2.2.2.2.2.2.2.2.2.1 z.2.2.2.2.2.2.2.2.2.2.2.1 z.2.2.2.2.2.2.2.2.2.2.2.2.1) (fun zk151 => .x))))))))))))))))) .x) (.seq .x (.seq .x (.seq (.body (.loop ⟨[(75, [(1, .val 0), (2, .val 0), (3, .ptr 0 0), (6, .own 1), (8, .ptr 2 0), (9, .own 3)])], [.box 25 [.val 10], .row 3 0, .box 142 [.own 4, .own 5], .row 3 0, .nst 66 3 5 none, .map 42 0]⟩ (fun n z => z5p φ n z.1 z.2.1 z.2.2.1 z.2.2.2.1 z.2.2.2.2.1 z.2.2.2.2.2.1 z.2.2.2.2.2.2.1) (fun zk117 => (.seq .x (.body (.seq (.join ⟨[(75, [(1, .val 0), (2, .val 0), (3, .ptr 0 0), (6, .own 1), (8, .ptr 2 0), (9, .own 3)])], [.box 25 [.val 10], .row 3 0, .box 142 [.own 4, .own 5], .row 3 0, .nst 66 3 5 none, .map 42 0]⟩ (fun z => z6f φ (fun a0 a1 a2 a3 a4 a5 a6 => zk117 (a0, a1, a2, a3, a4, a5, a6, ())) z.1 z.2.1 z.2.2.1 z.2.2.2.1 z.2.2.2.2.1 z.2.2.2.2.2.1 z.2.2.2.2.2.2.1) (.seq (.foc (8, some 0) (1, none) .x) (.body (.loop ⟨[(75, [(1, .val 0), (2, .val 0), (3, .ptr 0 0), (6, .own 1), (8, .ptr 2 0), (9, .own 3), (41, .own 4), (42, .val 0), (43, .val 0)])], [.box 25 [.val 10], .row 3 0, .box 142 [.own 5, .own 6], .row 3 0, .row 3 0, .nst 66 3 5 (some 4), .map 42 0]⟩ (fun n z => z67 φ (fun a0 a1 a2 a3 a4 a5 a6 => zk117 (a0, a1, a2, a3, a4, a5, a6, ())) n z.1 z.2.1 z.2.2.1 z.2.2.2.1 z.2.2.2.2.1 z.2.2.2.2.2.1 z.2.2.2.2.2.2.1 z.2.2.2.2.2.2.2.1 z.2.2.2.2.2.2.2.2.1 z.2.2.2.2.2.2.2.2.2.1 z.2.2.2.2.2.2.2.2.2.2.1) (fun zk137 => .x))))) .x)))))) .x)))))))
def z9n (P : Program) (φ : Nat) : Env TV := ⟨P, lk [(56, z2r φ)], lk [(92, zfr)], lk []⟩
theorem zio (φ : Nat) (a) : (z95 φ).F a = fnX TV (z9n Tryz.prog φ) φ Tryz.f74 [10, 0, 0] [.val 5, .val 0] (z6b φ) a := by kernel_rfl
theorem ziz (φ : Nat) : fnO TV (z9n Tryz.prog φ) φ Tryz.f74 [.val 5, .val 0] (z6b φ) := by
  unfold fnO
  show obl _ _ _ _ _ _ _
  unfold z6b
  repeat' (first | exact trivial | (refine ⟨?_, ?_⟩) | (intro _) | kernel_rfl)
theorem zim (φ : Nat) : z0v TV Tryz.prog 74 (z95 φ) :=
  z15 (N := z9n Tryz.prog φ) (zt ⟨z68 φ, trivial⟩ ⟨zjf, trivial⟩ trivial) (z6b φ) Tryz.func74 (by kernel_rfl) (zio φ) (ziz φ)
def z59 (φ : Nat) : H TV (RTup TT [.val 52, .val 0]) := (.seq .x (.seq (.ins 2 53 (.seq .x (.seq .x (.seq (.seq .x (.body (.loop ⟨[(77, [(2, .ptr 0 0), (4, .ptr 1 0), (19, .val 5), (20, .val 0), (21, .val 0)]), (81, [(1, .val 5), (2, .ptr 2 0), (4, .own 3)])], [.box 25 [.val 10], .box 142 [.own 4, .raw (.map none)], .box 25 [.val 10], .row 172 51, .row 66 5]⟩ (fun n z => z63 φ n z.1 z.2.1 z.2.2.1 z.2.2.2.1 z.2.2.2.2.1 z.2.2.2.2.2.1 z.2.2.2.2.2.2.1 z.2.2.2.2.2.2.2.1) (fun zk12 => .x)))) (.seq .x (.seq .x (.seq (.seq .x (.body (.loop ⟨[(77, [(4, .ptr 0 0), (8, .func 91 [.ptr 0 0, .ptr 1 0]), (44, .val 9), (45, .val 0), (46, .val 0)]), (81, [(1, .val 5), (2, .ptr 2 0), (4, .own 3)])], [.box 142 [.own 4, .own 5], .box 25 [.val 10], .box 25 [.val 10], .row 172 51, .nst 66 3 5 none, .map 42 0]⟩ (fun n z => z3r φ n z.1 z.2.1 z.2.2.1 z.2.2.2.1 z.2.2.2.2.1 z.2.2.2.2.2.1 z.2.2.2.2.2.2.1 z.2.2.2.2.2.2.2.1 z.2.2.2.2.2.2.2.2.1) (fun zk22 => (.seq .x (.seq .x (.seq (.body (.seq .x (.seq (.ins 6 91 (.seq .x (.seq .x (.seq (.join ⟨[(56, [(2, .val 0), (3, .ptr 0 0), (4, .ptr 1 0), (8, .ptr 2 0), (9, .val 0), (10, .val 2)]), (77, [(4, .ptr 0 0), (8, .func 91 [.ptr 0 0, .ptr 1 0]), (9, .val 0), (10, .ptr 3 0), (44, .val 9), (45, .val 0), (46, .val 0)]), (81, [(1, .val 5), (2, .ptr 4 0), (4, .own 5)])], [.box 142 [.own 6, .own 7], .box 25 [.val 10], .box 190 [.val 42], .box 150 [.val 8], .box 25 [.val 10], .row 172 51, .nst 66 3 5 none, .map 42 0]⟩ (fun z => z6l φ (fun a0 a1 a2 a3 a4 a5 a6 a7 a8 => zk22 (a0, a1, a2, a3, a4, a5, a6, a7, a8, ())) z.1 z.2.1 z.2.2.1 z.2.2.2.1 z.2.2.2.2.1 z.2.2.2.2.2.1 z.2.2.2.2.2.2.1 z.2.2.2.2.2.2.2.1 z.2.2.2.2.2.2.2.2.1 z.2.2.2.2.2.2.2.2.2.1 z.2.2.2.2.2.2.2.2.2.2.1 z.2.2.2.2.2.2.2.2.2.2.2.1 z.2.2.2.2.2.2.2.2.2.2.2.2.1 z.2.2.2.2.2.2.2.2.2.2.2.2.2.1 z.2.2.2.2.2.2.2.2.2.2.2.2.2.2.1) (.seq .x (.cond (.foc (3, some 0) (0, none) .x) .x))) .x))) .x) (.ins 6 91 (.seq .x (.seq .x (.seq (.join ⟨[(56, [(2, .val 0), (3, .ptr 0 0), (4, .ptr 1 0), (8, .ptr 2 0), (9, .val 0), (10, .val 2)]), (77, [(4, .ptr 0 0), (8, .func 91 [.ptr 0 0, .ptr 1 0]), (44, .val 9), (45, .val 0), (46, .val 0)]), (81, [(1, .val 5), (2, .ptr 3 0), (4, .own 4)])], [.box 142 [.own 5, .own 6], .box 25 [.val 10], .box 190 [.val 42], .box 25 [.val 10], .row 172 51, .nst 66 3 5 none, .map 42 0]⟩ (fun z => z69 φ (fun a0 a1 a2 a3 a4 a5 a6 a7 a8 => zk22 (a0, a1, a2, a3, a4, a5, a6, a7, a8, ())) z.1 z.2.1 z.2.2.1 z.2.2.2.1 z.2.2.2.2.1 z.2.2.2.2.2.1 z.2.2.2.2.2.2.1 z.2.2.2.2.2.2.2.1 z.2.2.2.2.2.2.2.2.1 z.2.2.2.2.2.2.2.2.2.1 z.2.2.2.2.2.2.2.2.2.2.1 z.2.2.2.2.2.2.2.2.2.2.2.1 z.2.2.2.2.2.2.2.2.2.2.2.2.1) (.seq .x (.cond (.foc (3, some 0) (0, none) .x) .x))) .x))) .x)))) .x))))))) (.seq (.seq .x (.body (.loop ⟨[(77, [(4, .ptr 0 0), (67, .own 1), (68, .val 0), (69, .val 0)]), (81, [(1, .val 5), (2, .ptr 2 0), (4, .own 3)])], [.box 142 [.own 1, .own 4], .nst 66 3 5 none, .box 25 [.val 10], .row 172 51, .map 42 0]⟩ (fun n z => z61 φ n z.1 z.2.1 z.2.2.1 z.2.2.2.1 z.2.2.2.2.1 z.2.2.2.2.2.1 z.2.2.2.2.2.2.1) (fun zk74 => (.seq .x (.seq .x (.seq (.body (.seq (.foc (67, none) (69, none) .x) .x)) .x))))))) .x))))))) .x) (.seq .x (.seq .x (.seq (.seq .x (.body (.loop ⟨[(81, [(1, .val 5), (2, .ptr 0 0), (4, .own 1), (6, .ptr 2 0), (7, .own 3), (8, .val 0)])], [.box 25 [.val 10], .row 172 51, .box 142 [.own 4, .own 5], .map 0 0, .nst 66 3 5 none, .map 42 0]⟩ (fun n z => z5x φ n z.1 z.2.1 z.2.2.1 z.2.2.2.1 z.2.2.2.2.1 z.2.2.2.2.2.1 z.2.2.2.2.2.2.1) (fun zk83 => .x)))) (.seq (.seq .x (.body (.loop ⟨[(81, [(4, .own 0), (7, .own 1), (63, .val 0)])], [.row 172 51, .map 0 0]⟩ (fun n z => z3v φ n z.1 z.2.1 z.2.2.1) (fun zk87 => .x)))) .x))))))
def z83 (P : Program) (φ : Nat) : Env TV := ⟨P, lk [(56, z2r φ)], lk [(92, zfr)], lk []⟩
theorem zi3 (φ : Nat) (a) : (z87 φ).F a = fnX TV (z83 Tryz.prog φ) φ Tryz.f75 [10, 5] [.val 52, .val 0] (z59 φ) a := by kernel_rfl
theorem zhu (φ : Nat) : fnO TV (z83 Tryz.prog φ) φ Tryz.f75 [.val 52, .val 0] (z59 φ) := by
  unfold fnO
  show obl _ _ _ _ _ _ _
  unfold z59
  repeat' (first | exact trivial | (refine ⟨?_, ?_⟩) | (intro _) | kernel_rfl)
theorem zi0 (φ : Nat) : z0v TV Tryz.prog 75 (z87 φ) :=
  z15 (N := z83 Tryz.prog φ) (zt ⟨z68 φ, trivial⟩ ⟨zjf, trivial⟩ trivial) (z59 φ) Tryz.func75 (by kernel_rfl) (zi3 φ) (zhu φ)
def z7o (φ : Nat) : H TV (RTup TT [.val 0]) := (.seq .x (.seq .x (.seq .x (.seq .x (.seq .x (.seq (.seq .x (.body (.loop ⟨[(41, [(11, .val 0), (29, .val 52), (30, .val 0), (31, .val 0)])], []⟩ (fun n z => z84 φ n z.1 z.2.1 z.2.2.1 z.2.2.2.1) (fun zk10 => .x)))) .x))))))
def zam (P : Program) (φ : Nat) : Env TV := ⟨P, lk [(74, z95 φ), (75, z87 φ)], lk [], lk []⟩
theorem zkt (φ : Nat) (a) : (zan φ).F a = fnX TV (zam Tryz.prog φ) φ Tryz.f39 [10, 0, 0] [.val 0] (z7o φ) a := by kernel_rfl
theorem zkm (φ : Nat) : fnO TV (zam Tryz.prog φ) φ Tryz.f39 [.val 0] (z7o φ) := by
  unfold fnO
  show obl _ _ _ _ _ _ _
  unfold z7o
  repeat' (first | exact trivial | (refine ⟨?_, ?_⟩) | (intro _) | kernel_rfl)
theorem zkw (φ : Nat) : z0v TV Tryz.prog 39 (zan φ) :=
  z15 (N := zam Tryz.prog φ) (zt ⟨zim φ, zi0 φ, trivial⟩ trivial trivial) (z7o φ) Tryz.func39 (by kernel_rfl) (zkt φ) (zkm φ)
theorem zj3 (φ : Nat) (k12 : (Int → (List z1) → Int → Pool → Span → Option (Int × Int × Unit))) (x22 : Int) (x23 : (List z1)) (x24 : Int) (x25 : Pool) (x26 : Span) : z0x (za8 φ k12 x22 x23 x24 x25 x26) (zb0 φ k12 x22 x23 x24 x25 x26) := by
  unfold za8 zb0
  repeat' (first | exact z0x.one | exact z0x.nil | refine z0x.cons ?_ ?_ | refine z0x.ck ?_ | exact z0x.same (n := 2) rfl | exact z0x.same (n := 3) rfl | exact z0x.same (n := 4) rfl | exact z0x.same (n := 6) rfl | refine z0x.bind fun _ => ?_)
def zdl (φ : Nat) : H TV (RTup TT [.val 0, .val 0]) := (.seq .x (.seq .x (.seq .x (.seq .x (.seq .x (.seq (.seq .x (.body (.loop ⟨[(93, [(4, .ptr 0 0), (7, .ptr 1 0), (11, .val 0), (12, .val 39), (13, .val 0)])], [.box 36 [.val 30], .box 39 [.val 25]]⟩ (fun n z => zd0 φ n z.1 z.2.1 z.2.2.1 z.2.2.2.1 z.2.2.2.2.1) (fun zk12 => (.seq .x (.seq (.body (.seq (.join ⟨[(93, [(4, .ptr 0 0), (7, .ptr 1 0), (11, .val 0), (12, .val 39), (13, .val 0), (14, .ptr 2 0), (15, .ptr 3 0)])], [.box 36 [.val 30], .box 39 [.val 25], .box 91 [.val 3], .box 91 [.val 3]]⟩ (fun z => zaa φ (fun a0 a1 a2 a3 a4 => zk12 (a0, a1, a2, a3, a4, ())) z.1 z.2.1 z.2.2.1 z.2.2.2.1 z.2.2.2.2.1 z.2.2.2.2.2.1 z.2.2.2.2.2.2.1) (.alt ⟨[(93, [(4, .ptr 0 0), (7, .ptr 1 0), (11, .val 0), (12, .val 39), (13, .val 0)])], [.box 36 [.val 30], .box 39 [.val 25]]⟩ (fun z => za8 φ (fun a0 a1 a2 a3 a4 => zk12 (a0, a1, a2, a3, a4, ())) z.1 z.2.1 z.2.2.1 z.2.2.2.1 z.2.2.2.2.1) (fun z => zb0 φ (fun a0 a1 a2 a3 a4 => zk12 (a0, a1, a2, a3, a4, ())) z.1 z.2.1 z.2.2.1 z.2.2.2.1 z.2.2.2.2.1))) .x)) .x)))))) .x))))))
def zh8 (P : Program) (φ : Nat) : Env TV := ⟨P, lk [(30, z1y φ), (31, z52 φ), (39, zan φ)], lk [], lk []⟩
theorem ztn (φ : Nat) (a) : (zh5 φ).F a = fnX TV (zh8 Tryz.prog φ) φ Tryz.f12 [30, 38, 0, 25] [.val 0, .val 0] (zdl φ) a := by kernel_rfl
theorem zu6 (φ : Nat) : fnO TV (zh8 Tryz.prog φ) φ Tryz.f12 [.val 0, .val 0] (zdl φ) := by
  unfold fnO
  show obl _ _ _ _ _ _ _
  unfold zdl
  repeat' (first | exact trivial | (refine ⟨?_, ?_⟩) | (intro _) | kernel_rfl | exact zj3 ..)
theorem zud (φ : Nat) : z0v TV Tryz.prog 12 (zh5 φ) :=
  z15 (N := zh8 Tryz.prog φ) (zt ⟨z4h φ, zag φ, zkw φ, trivial⟩ trivial trivial) (zdl φ) Tryz.func12 (by kernel_rfl) (ztn φ) (zu6 φ)
def z3o (φ : Nat) : H TV (RTup TT [.val 2]) := (.seq .x (.seq .x (.seq (.seq .x (.body (.loop ⟨[(26, [(0, .val 41), (1, .val 41), (5, .val 0)])], []⟩ (fun n z => z5c φ n z.1 z.2.1 z.2.2.1) (fun zk6 => .x)))) .x)))
def z5w (P : Program) (φ : Nat) : Env TV := ⟨P, lk [], lk [], lk []⟩
theorem zf7 (φ : Nat) (a) : (z5z φ).F a = fnX TV (z5w Tryz.prog φ) φ Tryz.f15 [41, 41] [.val 2] (z3o φ) a := by kernel_rfl
theorem zfm (φ : Nat) : fnO TV (z5w Tryz.prog φ) φ Tryz.f15 [.val 2] (z3o φ) := by
  unfold fnO
  show obl _ _ _ _ _ _ _
  unfold z3o
  repeat' (first | exact trivial | (refine ⟨?_, ?_⟩) | (intro _) | kernel_rfl)
theorem zfq (φ : Nat) : z0v TV Tryz.prog 15 (z5z φ) :=
  z15 (N := z5w Tryz.prog φ) (zt trivial trivial trivial) (z3o φ) Tryz.func15 (by kernel_rfl) (zf7 φ) (zfm φ)
def z9y (φ : Nat) : H TV (RTup TT [.val 2]) := .x
def zcw (P : Program) (φ : Nat) : Env TV := ⟨P, lk [(29, z91 φ), (16, z8i φ), (10, z8n φ), (12, zh5 φ), (15, z5z φ)], lk [], lk []⟩
theorem znw (φ : Nat) (a) : (zcq φ).F a = fnX TV (zcw Tryz.prog φ) φ Tryz.f8 [] [.val 2] (z9y φ) a := by kernel_rfl
theorem zp1 (φ : Nat) : fnO TV (zcw Tryz.prog φ) φ Tryz.f8 [.val 2] (z9y φ) := by
  unfold fnO
  show obl _ _ _ _ _ _ _
  unfold z9y
  repeat' (first | exact trivial | (refine ⟨?_, ?_⟩) | (intro _) | kernel_rfl)
theorem zq2 (φ : Nat) : z0v TV Tryz.prog 8 (zcq φ) :=
  z15 (N := zcw Tryz.prog φ) (zt ⟨zje φ, zf0 φ, zfe φ, zud φ, zfq φ, trivial⟩ trivial trivial) (z9y φ) Tryz.func8 (by kernel_rfl) (znw φ) (zp1 φ)
def z4c (φ : Nat) : H TV (RTup TT [.val 2]) := (.seq .x (.seq .x (.seq (.seq .x (.body (.loop ⟨[(65, [(1, .ptr 0 0), (3, .val 0)])], [.box 36 [.val 30]]⟩ (fun n z => z0r φ n z.1 z.2.1) (fun zk4 => .x)))) .x)))
def z7f (P : Program) (φ : Nat) : Env TV := ⟨P, lk [], lk [], lk []⟩
theorem zh7 (φ : Nat) (a) : (z71 φ).F a = fnX TV (z7f Tryz.prog φ) φ Tryz.f21 [30] [.val 2] (z4c φ) a := by kernel_rfl
theorem zg6 (φ : Nat) : fnO TV (z7f Tryz.prog φ) φ Tryz.f21 [.val 2] (z4c φ) := by
  unfold fnO
  show obl _ _ _ _ _ _ _
  unfold z4c
  repeat' (first | exact trivial | (refine ⟨?_, ?_⟩) | (intro _) | kernel_rfl)
theorem zg3 (φ : Nat) : z0v TV Tryz.prog 21 (z71 φ) :=
  z15 (N := z7f Tryz.prog φ) (zt trivial trivial trivial) (z4c φ) Tryz.func21 (by kernel_rfl) (zh7 φ) (zg6 φ)
def z3w (φ : Nat) : H TV (RTup TT [.val 2]) := (.seq .x (.seq .x (.seq (.seq .x (.body (.loop ⟨[(34, [(0, .val 38), (5, .val 0)])], []⟩ (fun n z => z07 φ n z.1 z.2.1) (fun zk5 => .x)))) .x)))
def z6e (P : Program) (φ : Nat) : Env TV := ⟨P, lk [], lk [], lk []⟩
theorem zg1 (φ : Nat) (a) : (z3p φ).F a = fnX TV (z6e Tryz.prog φ) φ Tryz.f18 [38, 0] [.val 2] (z3w φ) a := by kernel_rfl
theorem zfd (φ : Nat) : fnO TV (z6e Tryz.prog φ) φ Tryz.f18 [.val 2] (z3w φ) := by
  unfold fnO
  show obl _ _ _ _ _ _ _
  unfold z3w
  repeat' (first | exact trivial | (refine ⟨?_, ?_⟩) | (intro _) | kernel_rfl)
theorem za2 (φ : Nat) : z0v TV Tryz.prog 18 (z3p φ) :=
  z15 (N := z6e Tryz.prog φ) (zt trivial trivial trivial) (z3w φ) Tryz.func18 (by kernel_rfl) (zg1 φ) (zfd φ)
def zbp (φ : Nat) : H TV (RTup TT [.val 2]) := .x
def zen (P : Program) (φ : Nat) : Env TV := ⟨P, lk [(21, z71 φ), (18, z3p φ)], lk [], lk []⟩
theorem zr2 (φ : Nat) (a) : (ze9 φ).F a = fnX TV (zen Tryz.prog φ) φ Tryz.f9 [30, 38] [.val 2] (zbp φ) a := by kernel_rfl
theorem zrn (φ : Nat) : fnO TV (zen Tryz.prog φ) φ Tryz.f9 [.val 2] (zbp φ) := by
  unfold fnO
  show obl _ _ _ _ _ _ _
  unfold zbp
  repeat' (first | exact trivial | (refine ⟨?_, ?_⟩) | (intro _) | kernel_rfl)
theorem zq5 (φ : Nat) : z0v TV Tryz.prog 9 (ze9 φ) :=
  z15 (N := zen Tryz.prog φ) (zt ⟨zg3 φ, za2 φ, trivial⟩ trivial trivial) (zbp φ) Tryz.func9 (by kernel_rfl) (zr2 φ) (zrn φ)
def z6m (φ : Nat) : H TV (RTup TT [.val 2]) := .x
def z9g (P : Program) (φ : Nat) : Env TV := ⟨P, lk [], lk [], lk []⟩
theorem zjd (φ : Nat) (a) : (z6c φ).F a = fnX TV (z9g Tryz.prog φ) φ Tryz.f112 [0, 0, 0] [.val 2] (z6m φ) a := by kernel_rfl
theorem zij (φ : Nat) : fnO TV (z9g Tryz.prog φ) φ Tryz.f112 [.val 2] (z6m φ) := by
  unfold fnO
  show obl _ _ _ _ _ _ _
  unfold z6m
  repeat' (first | exact trivial | (refine ⟨?_, ?_⟩) | (intro _) | kernel_rfl)
theorem zco (φ : Nat) : z0v TV Tryz.prog 112 (z6c φ) :=
  z15 (N := z9g Tryz.prog φ) (zt trivial trivial trivial) (z6m φ) Tryz.func112 (by kernel_rfl) (zjd φ) (zij φ)
def z8p (φ : Nat) : H TV (RTup TT [.val 2]) := .x
def zc4 (P : Program) (φ : Nat) : Env TV := ⟨P, lk [(112, z6c φ)], lk [], lk []⟩
theorem zll (φ : Nat) (a) : (zbz φ).F a = fnX TV (zc4 Tryz.prog φ) φ Tryz.f78 [6] [.val 2] (z8p φ) a := by kernel_rfl
theorem zn1 (φ : Nat) : fnO TV (zc4 Tryz.prog φ) φ Tryz.f78 [.val 2] (z8p φ) := by
  unfold fnO
  show obl _ _ _ _ _ _ _
  unfold z8p
  repeat' (first | exact trivial | (refine ⟨?_, ?_⟩) | (intro _) | kernel_rfl)
theorem znn (φ : Nat) : z0v TV Tryz.prog 78 (zbz φ) :=
  z15 (N := zc4 Tryz.prog φ) (zt ⟨zco φ, trivial⟩ trivial trivial) (z8p φ) Tryz.func78 (by kernel_rfl) (zll φ) (zn1 φ)
def z9x (φ : Nat) : H TV (RTup TT [.val 2]) := .x
def zcj (P : Program) (φ : Nat) : Env TV := ⟨P, lk [(112, z6c φ)], lk [], lk []⟩
theorem zpf (φ : Nat) (a) : (zde φ).F a = fnX TV (zcj Tryz.prog φ) φ Tryz.f79 [8, 0] [.val 2] (z9x φ) a := by kernel_rfl
theorem zpi (φ : Nat) : fnO TV (zcj Tryz.prog φ) φ Tryz.f79 [.val 2] (z9x φ) := by
  unfold fnO
  show obl _ _ _ _ _ _ _
  unfold z9x
  repeat' (first | exact trivial | (refine ⟨?_, ?_⟩) | (intro _) | kernel_rfl)
theorem zpx (φ : Nat) : z0v TV Tryz.prog 79 (zde φ) :=
  z15 (N := zcj Tryz.prog φ) (zt ⟨zco φ, trivial⟩ trivial trivial) (z9x φ) Tryz.func79 (by kernel_rfl) (zpf φ) (zpi φ)
def z8t (φ : Nat) : H TV (RTup TT [.val 0]) := (.seq .x (.seq .x (.seq (.seq .x (.body (.loop ⟨[(46, [(1, .ptr 0 0), (3, .val 0)])], [.box 25 [.val 10]]⟩ (fun n z => z3h φ n z.1 z.2.1) (fun zk4 => .x)))) (.seq (.seq .x (.body (.loop ⟨[(46, [(1, .ptr 0 0), (4, .val 0)])], [.box 25 [.val 10]]⟩ (fun n z => z2i φ n z.1 z.2.1) (fun zk8 => .x)))) .x))))
def zay (P : Program) (φ : Nat) : Env TV := ⟨P, lk [(78, zbz φ), (79, zde φ)], lk [], lk []⟩
theorem zlt (φ : Nat) (a) : (zb5 φ).F a = fnX TV (zay Tryz.prog φ) φ Tryz.f42 [10] [.val 0] (z8t φ) a := by kernel_rfl
theorem zma (φ : Nat) : fnO TV (zay Tryz.prog φ) φ Tryz.f42 [.val 0] (z8t φ) := by
  unfold fnO
  show obl _ _ _ _ _ _ _
  unfold z8t
  repeat' (first | exact trivial | (refine ⟨?_, ?_⟩) | (intro _) | kernel_rfl)
theorem zmk (φ : Nat) : z0v TV Tryz.prog 42 (zb5 φ) :=
  z15 (N := zay Tryz.prog φ) (zt ⟨znn φ, zpx φ, trivial⟩ trivial trivial) (z8t φ) Tryz.func42 (by kernel_rfl) (zlt φ) (zma φ)
def z7l (φ : Nat) : H TV (RTup TT [.val 2]) := .x
def zao (P : Program) (φ : Nat) : Env TV := ⟨P, lk [], lk [], lk []⟩
theorem zki (φ : Nat) (a) : (z2l φ).F a = fnX TV (zao Tryz.prog φ) φ Tryz.f82 [0, 0, 0] [.val 2] (z7l φ) a := by kernel_rfl
theorem zku (φ : Nat) : fnO TV (zao Tryz.prog φ) φ Tryz.f82 [.val 2] (z7l φ) := by
  unfold fnO
  show obl _ _ _ _ _ _ _
  unfold z7l
  repeat' (first | exact trivial | (refine ⟨?_, ?_⟩) | (intro _) | kernel_rfl)
theorem z4x (φ : Nat) : z0v TV Tryz.prog 82 (z2l φ) :=
  z15 (N := zao Tryz.prog φ) (zt trivial trivial trivial) (z7l φ) Tryz.func82 (by kernel_rfl) (zki φ) (zku φ)
def z4f (φ : Nat) : H TV (RTup TT [.val 2]) := .x
def z7i (P : Program) (φ : Nat) : Env TV := ⟨P, lk [(82, z2l φ)], lk [], lk []⟩
theorem zgl (φ : Nat) (a) : (z6u φ).F a = fnX TV (z7i Tryz.prog φ) φ Tryz.f80 [12] [.val 2] (z4f φ) a := by kernel_rfl
theorem zh0 (φ : Nat) : fnO TV (z7i Tryz.prog φ) φ Tryz.f80 [.val 2] (z4f φ) := by
  unfold fnO
  show obl _ _ _ _ _ _ _
  unfold z4f
  repeat' (first | exact trivial | (refine ⟨?_, ?_⟩) | (intro _) | kernel_rfl)
theorem zg9 (φ : Nat) : z0v TV Tryz.prog 80 (z6u φ) :=
  z15 (N := z7i Tryz.prog φ) (zt ⟨z4x φ, trivial⟩ trivial trivial) (z4f φ) Tryz.func80 (by kernel_rfl) (zgl φ) (zh0 φ)
def z3n (φ : Nat) : H TV (RTup TT [.val 2]) := .x
def z6j (P : Program) (φ : Nat) : Env TV := ⟨P, lk [(82, z2l φ)], lk [], lk []⟩
theorem zf1 (φ : Nat) (a) : (z6d φ).F a = fnX TV (z6j Tryz.prog φ) φ Tryz.f81 [14, 0] [.val 2] (z3n φ) a := by kernel_rfl
theorem zer (φ : Nat) : fnO TV (z6j Tryz.prog φ) φ Tryz.f81 [.val 2] (z3n φ) := by
  unfold fnO
  show obl _ _ _ _ _ _ _
  unfold z3n
  repeat' (first | exact trivial | (refine ⟨?_, ?_⟩) | (intro _) | kernel_rfl)
theorem zfu (φ : Nat) : z0v TV Tryz.prog 81 (z6d φ) :=
  z15 (N := z6j Tryz.prog φ) (zt ⟨z4x φ, trivial⟩ trivial trivial) (z3n φ) Tryz.func81 (by kernel_rfl) (zf1 φ) (zer φ)
def z7n (φ : Nat) : H TV (RTup TT [.val 0]) := (.seq .x (.seq .x (.seq (.seq .x (.body (.loop ⟨[(57, [(0, .val 19), (3, .own 0), (4, .val 0)])], [.row 4 2]⟩ (fun n z => z2u φ n z.1 z.2.1 z.2.2.1) (fun zk5 => .x)))) .x)))
def zah (P : Program) (φ : Nat) : Env TV := ⟨P, lk [(82, z2l φ)], lk [], lk []⟩
theorem zkd (φ : Nat) (a) : (zap φ).F a = fnX TV (zah Tryz.prog φ) φ Tryz.f83 [19] [.val 0] (z7n φ) a := by kernel_rfl
theorem zkf (φ : Nat) : fnO TV (zah Tryz.prog φ) φ Tryz.f83 [.val 0] (z7n φ) := by
  unfold fnO
  show obl _ _ _ _ _ _ _
  unfold z7n
  repeat' (first | exact trivial | (refine ⟨?_, ?_⟩) | (intro _) | kernel_rfl)
theorem zkg (φ : Nat) : z0v TV Tryz.prog 83 (zap φ) :=
  z15 (N := zah Tryz.prog φ) (zt ⟨z4x φ, trivial⟩ trivial trivial) (z7n φ) Tryz.func83 (by kernel_rfl) (zkd φ) (zkf φ)
def z8y (φ : Nat) : H TV (RTup TT [.val 0]) := (.seq .x (.seq .x (.seq (.seq .x (.body (.loop ⟨[(106, [(1, .ptr 0 0), (3, .val 0)])], [.box 31 [.val 20]]⟩ (fun n z => z3m φ n z.1 z.2.1) (fun zk4 => .x)))) (.seq (.seq .x (.body (.loop ⟨[(106, [(1, .ptr 0 0), (4, .val 0)])], [.box 31 [.val 20]]⟩ (fun n z => z2n φ n z.1 z.2.1) (fun zk8 => .x)))) (.seq (.seq .x (.body (.loop ⟨[(106, [(1, .ptr 0 0), (5, .val 0)])], [.box 31 [.val 20]]⟩ (fun n z => z24 φ n z.1 z.2.1) (fun zk12 => .x)))) .x)))))
def zbx (P : Program) (φ : Nat) : Env TV := ⟨P, lk [(80, z6u φ), (81, z6d φ), (82, z2l φ), (83, zap φ)], lk [], lk []⟩
theorem zlk (φ : Nat) (a) : (zbo φ).F a = fnX TV (zbx Tryz.prog φ) φ Tryz.f43 [20] [.val 0] (z8y φ) a := by kernel_rfl
theorem zn4 (φ : Nat) : fnO TV (zbx Tryz.prog φ) φ Tryz.f43 [.val 0] (z8y φ) := by
  unfold fnO
  show obl _ _ _ _ _ _ _
  unfold z8y
  repeat' (first | exact trivial | (refine ⟨?_, ?_⟩) | (intro _) | kernel_rfl)
theorem znl (φ : Nat) : z0v TV Tryz.prog 43 (zbo φ) :=
  z15 (N := zbx Tryz.prog φ) (zt ⟨zg9 φ, zfu φ, z4x φ, zkg φ, trivial⟩ trivial trivial) (z8y φ) Tryz.func43 (by kernel_rfl) (zlk φ) (zn4 φ)
def za7 (φ : Nat) : H TV (RTup TT [.val 2]) := (.seq .x (.seq .x (.seq (.seq .x (.body (.loop ⟨[(96, [(1, .ptr 0 0), (3, .val 0), (4, .val 0)])], [.box 36 [.val 30]]⟩ (fun n z => z4i φ n z.1 z.2.1 z.2.2.1) (fun zk5 => .x)))) (.seq (.seq .x (.body (.loop ⟨[(96, [(1, .ptr 0 0), (3, .val 0), (6, .val 0)])], [.box 36 [.val 30]]⟩ (fun n z => z2p φ n z.1 z.2.1 z.2.2.1) (fun zk10 => .x)))) (.seq (.seq .x (.body (.loop ⟨[(96, [(1, .ptr 0 0), (3, .val 0), (7, .val 0)])], [.box 36 [.val 30]]⟩ (fun n z => z2m φ n z.1 z.2.1 z.2.2.1) (fun zk15 => .x)))) .x)))))
def zdb (P : Program) (φ : Nat) : Env TV := ⟨P, lk [(82, z2l φ)], lk [], lk []⟩
theorem zoz (φ : Nat) (a) : (zdd φ).F a = fnX TV (zdb Tryz.prog φ) φ Tryz.f44 [30] [.val 2] (za7 φ) a := by kernel_rfl
theorem zou (φ : Nat) : fnO TV (zdb Tryz.prog φ) φ Tryz.f44 [.val 2] (za7 φ) := by
  unfold fnO
  show obl _ _ _ _ _ _ _
  unfold za7
  repeat' (first | exact trivial | (refine ⟨?_, ?_⟩) | (intro _) | kernel_rfl)
theorem zoo (φ : Nat) : z0v TV Tryz.prog 44 (zdd φ) :=
  z15 (N := zdb Tryz.prog φ) (zt ⟨z4x φ, trivial⟩ trivial trivial) (za7 φ) Tryz.func44 (by kernel_rfl) (zoz φ) (zou φ)
def z8h (φ : Nat) : H TV (RTup TT [.val 2]) := (.seq .x (.seq .x (.seq (.seq .x (.body (.loop ⟨[(51, [(1, .ptr 0 0), (3, .val 0), (4, .val 0)])], [.box 36 [.val 30]]⟩ (fun n z => z3k φ n z.1 z.2.1 z.2.2.1) (fun zk5 => .x)))) (.seq (.seq .x (.body (.loop ⟨[(51, [(1, .ptr 0 0), (3, .val 0), (6, .val 0)])], [.box 36 [.val 30]]⟩ (fun n z => z2j φ n z.1 z.2.1 z.2.2.1) (fun zk9 => .x)))) .x))))
def zc2 (P : Program) (φ : Nat) : Env TV := ⟨P, lk [], lk [], lk []⟩
theorem zmr (φ : Nat) (a) : (zbq φ).F a = fnX TV (zc2 Tryz.prog φ) φ Tryz.f45 [30] [.val 2] (z8h φ) a := by kernel_rfl
theorem zmt (φ : Nat) : fnO TV (zc2 Tryz.prog φ) φ Tryz.f45 [.val 2] (z8h φ) := by
  unfold fnO
  show obl _ _ _ _ _ _ _
  unfold z8h
  repeat' (first | exact trivial | (refine ⟨?_, ?_⟩) | (intro _) | kernel_rfl)
theorem zno (φ : Nat) : z0v TV Tryz.prog 45 (zbq φ) :=
  z15 (N := zc2 Tryz.prog φ) (zt trivial trivial trivial) (z8h φ) Tryz.func45 (by kernel_rfl) (zmr φ) (zmt φ)
def z8j (φ : Nat) : H TV (RTup TT [.val 0]) := (.seq .x (.seq (.seq .x (.body (.loop ⟨[(62, [(1, .ptr 0 0), (3, .val 0)])], [.box 126 [.val 27]]⟩ (fun n z => z3g φ n z.1 z.2.1) (fun zk4 => .x)))) (.seq (.seq .x (.body (.loop ⟨[(62, [(1, .ptr 0 0), (5, .val 0)])], [.box 126 [.val 27]]⟩ (fun n z => z3i φ n z.1 z.2.1) (fun zk7 => .x)))) .x)))
def zbk (P : Program) (φ : Nat) : Env TV := ⟨P, lk [], lk [], lk []⟩
theorem zlx (φ : Nat) (a) : (zb9 φ).F a = fnX TV (zbk Tryz.prog φ) φ Tryz.f46 [27] [.val 0] (z8j φ) a := by kernel_rfl
theorem zmo (φ : Nat) : fnO TV (zbk Tryz.prog φ) φ Tryz.f46 [.val 0] (z8j φ) := by
  unfold fnO
  show obl _ _ _ _ _ _ _
  unfold z8j
  repeat' (first | exact trivial | (refine ⟨?_, ?_⟩) | (intro _) | kernel_rfl)
theorem zn6 (φ : Nat) : z0v TV Tryz.prog 46 (zb9 φ) :=
  z15 (N := zbk Tryz.prog φ) (zt trivial trivial trivial) (z8j φ) Tryz.func46 (by kernel_rfl) (zlx φ) (zmo φ)
def z8k (φ : Nat) : H TV (RTup TT [.val 11]) := (.seq .x (.seq .x (.seq (.body (.loop ⟨[(26, [(0, .val 11), (1, .val 11), (2, .val 11), (7, .val 11)])], []⟩ (fun n z => z1u φ n z.1 z.2.1 z.2.2.1 z.2.2.2.1) (fun zk8 => (.seq .x (.seq (.body (.seq (.join ⟨[(26, [(0, .val 11), (1, .val 11), (2, .val 11), (7, .val 11)])], []⟩ (fun z => z5y φ (fun a0 a1 a2 a3 => zk8 (a0, a1, a2, a3, ())) z.1 z.2.1 z.2.2.1 z.2.2.2.1) (.seq .x .x)) .x)) .x))))) .x)))
def zby (P : Program) (φ : Nat) : Env TV := ⟨P, lk [], lk [], lk []⟩
theorem zmf (φ : Nat) (a) : (zc5 φ).F a = fnX TV (zby Tryz.prog φ) φ Tryz.f113 [11, 11, 11] [.val 11] (z8k φ) a := by kernel_rfl
theorem zng (φ : Nat) : fnO TV (zby Tryz.prog φ) φ Tryz.f113 [.val 11] (z8k φ) := by
  unfold fnO
  show obl _ _ _ _ _ _ _
  unfold z8k
  repeat' (first | exact trivial | (refine ⟨?_, ?_⟩) | (intro _) | kernel_rfl)
theorem zn3 (φ : Nat) : z0v TV Tryz.prog 113 (zc5 φ) :=
  z15 (N := zby Tryz.prog φ) (zt trivial trivial trivial) (z8k φ) Tryz.func113 (by kernel_rfl) (zmf φ) (zng φ)
def zb7 (φ : Nat) : H TV (RTup TT [.val 11]) := (.seq .x (.seq .x (.seq (.seq .x (.body (.loop ⟨[(22, [(0, .val 11), (1, .val 11), (5, .val 11)])], []⟩ (fun n z => z2x φ n z.1 z.2.1 z.2.2.1) (fun zk6 => (.seq .x (.seq (.body (.seq (.join ⟨[(22, [(0, .val 11), (1, .val 11), (5, .val 11)])], []⟩ (fun z => z8s φ (fun a0 a1 a2 => zk6 (a0, a1, a2, ())) z.1 z.2.1 z.2.2.1) (.seq .x .x)) .x)) .x)))))) .x)))
def ze3 (P : Program) (φ : Nat) : Env TV := ⟨P, lk [(113, zc5 φ)], lk [], lk []⟩
theorem zqc (φ : Nat) (a) : (zeh φ).F a = fnX TV (ze3 Tryz.prog φ) φ Tryz.f84 [11, 11] [.val 11] (zb7 φ) a := by kernel_rfl
theorem zqn (φ : Nat) : fnO TV (ze3 Tryz.prog φ) φ Tryz.f84 [.val 11] (zb7 φ) := by
  unfold fnO
  show obl _ _ _ _ _ _ _
  unfold zb7
  repeat' (first | exact trivial | (refine ⟨?_, ?_⟩) | (intro _) | kernel_rfl)
theorem zr8 (φ : Nat) : z0v TV Tryz.prog 84 (zeh φ) :=
  z15 (N := ze3 Tryz.prog φ) (zt ⟨zn3 φ, trivial⟩ trivial trivial) (zb7 φ) Tryz.func84 (by kernel_rfl) (zqc φ) (zqn φ)
def z8m (φ : Nat) : H TV (RTup TT [.val 2]) := .x
def zbu (P : Program) (φ : Nat) : Env TV := ⟨P, lk [(84, zeh φ)], lk [], lk []⟩
theorem zne (φ : Nat) (a) : (zbr φ).F a = fnX TV (zbu Tryz.prog φ) φ Tryz.f47 [11] [.val 2] (z8m φ) a := by kernel_rfl
theorem zmm (φ : Nat) : fnO TV (zbu Tryz.prog φ) φ Tryz.f47 [.val 2] (z8m φ) := by
  unfold fnO
  show obl _ _ _ _ _ _ _
  unfold z8m
  repeat' (first | exact trivial | (refine ⟨?_, ?_⟩) | (intro _) | kernel_rfl)
theorem zlm (φ : Nat) : z0v TV Tryz.prog 47 (zbr φ) :=
  z15 (N := zbu Tryz.prog φ) (zt ⟨zr8 φ, trivial⟩ trivial trivial) (z8m φ) Tryz.func47 (by kernel_rfl) (zne φ) (zmm φ)
def z4j (φ : Nat) : H TV (RTup TT [.val 0]) := (.seq .x (.seq .x (.seq .x (.seq .x (.seq .x (.seq .x (.seq .x (.seq (.seq .x (.body (.loop ⟨[(70, [(1, .ptr 0 0), (4, .val 0)])], [.box 36 [.val 30]]⟩ (fun n z => z0t φ n z.1 z.2.1) (fun zk8 => .x)))) .x))))))))
def z6y (P : Program) (φ : Nat) : Env TV := ⟨P, lk [(42, zb5 φ), (43, zbo φ), (44, zdd φ), (45, zbq φ), (46, zb9 φ), (47, zbr φ)], lk [], lk []⟩
theorem zgp (φ : Nat) (a) : (z7d φ).F a = fnX TV (z6y Tryz.prog φ) φ Tryz.f19 [30] [.val 0] (z4j φ) a := by kernel_rfl
theorem zg8 (φ : Nat) : fnO TV (z6y Tryz.prog φ) φ Tryz.f19 [.val 0] (z4j φ) := by
  unfold fnO
  show obl _ _ _ _ _ _ _
  unfold z4j
  repeat' (first | exact trivial | (refine ⟨?_, ?_⟩) | (intro _) | kernel_rfl)
theorem zgc (φ : Nat) : z0v TV Tryz.prog 19 (z7d φ) :=
  z15 (N := z6y Tryz.prog φ) (zt ⟨zmk φ, znl φ, zoo φ, zno φ, zn6 φ, zlm φ, trivial⟩ trivial trivial) (z4j φ) Tryz.func19 (by kernel_rfl) (zgp φ) (zg8 φ)
end Px
end
section
set_option linter.unusedVariables false
set_option linter.unusedSimpArgs false
set_option maxHeartbeats 4000000
set_option maxRecDepth 100000
namespace Px
open Go Go.RowKit Go.Proofs
def z9w (φ : Nat) : H TV (RTup TT [.val 2]) := (.seq .x (.seq .x (.seq (.seq .x (.body (.loop ⟨[(94, [(2, .ptr 0 0), (3, .ptr 1 0), (5, .val 0)])], [.box 46 [.val 49], .box 46 [.val 49]]⟩ (fun n z => z4k φ n z.1 z.2.1 z.2.2.1) (fun zk6 => .x)))) (.seq (.seq .x (.body (.loop ⟨[(94, [(2, .ptr 0 0), (3, .ptr 1 0), (6, .val 0)])], [.box 46 [.val 49], .box 46 [.val 49]]⟩ (fun n z => z3j φ n z.1 z.2.1 z.2.2.1) (fun zk10 => .x)))) (.seq (.seq .x (.body (.loop ⟨[(94, [(2, .ptr 0 0), (3, .ptr 1 0), (7, .val 0)])], [.box 46 [.val 49], .box 46 [.val 49]]⟩ (fun n z => z3l φ n z.1 z.2.1 z.2.2.1) (fun zk14 => .x)))) .x)))))
def zd5 (P : Program) (φ : Nat) : Env TV := ⟨P, lk [], lk [], lk []⟩
theorem zof (φ : Nat) (a) : (zct φ).F a = fnX TV (zd5 Tryz.prog φ) φ Tryz.f14 [49, 49] [.val 2] (z9w φ) a := by kernel_rfl
theorem zp2 (φ : Nat) : fnO TV (zd5 Tryz.prog φ) φ Tryz.f14 [.val 2] (z9w φ) := by
  unfold fnO
  show obl _ _ _ _ _ _ _
  unfold z9w
  repeat' (first | exact trivial | (refine ⟨?_, ?_⟩) | (intro _) | kernel_rfl)
theorem zpt (φ : Nat) : z0v TV Tryz.prog 14 (zct φ) :=
  z15 (N := zd5 Tryz.prog φ) (zt trivial trivial trivial) (z9w φ) Tryz.func14 (by kernel_rfl) (zof φ) (zp2 φ)
theorem zat (φ : Nat) (x50 : (List z6)) (x51 : Int) (x52 : Pool) (x53 : z6) : z0x (z1c φ x50 x51 x52 x53) (z6p φ x50 x51 x52 x53) := by
  unfold z1c z6p
  repeat' (first | exact z0x.one | exact z0x.nil | refine z0x.cons ?_ ?_ | refine z0x.ck ?_ | exact z0x.same (n := 2) rfl | exact z0x.same (n := 3) rfl | exact z0x.same (n := 4) rfl | exact z0x.same (n := 6) rfl | refine z0x.bind fun _ => ?_)
theorem zad (φ : Nat) (x97 : (List z6)) (x98 : Int) (x99 : Pool) (x100 : z6) : z0x (z29 φ x97 x98 x99 x100) (z38 φ x97 x98 x99 x100) := by
  unfold z29 z38
  repeat' (first | exact z0x.one | exact z0x.nil | refine z0x.cons ?_ ?_ | refine z0x.ck ?_ | exact z0x.same (n := 2) rfl | exact z0x.same (n := 3) rfl | exact z0x.same (n := 4) rfl | exact z0x.same (n := 6) rfl | refine z0x.bind fun _ => ?_)
def z36 (φ : Nat) : H TV (RTup TT [.val 2]) := (.seq .x (.seq .x (.seq .x (.seq .x (.seq (.seq .x (.body (.loop ⟨[(192, [(1, .val 38), (3, .val 0), (4, .ptr 0 0), (6, .ptr 1 0), (9, .own 2), (10, .val 0)])], [.box 36 [.val 30], .box 63 [.val 37], .row 3 0]⟩ (fun n z => z16 φ n z.1 z.2.1 z.2.2.1 z.2.2.2.1 z.2.2.2.2.1 z.2.2.2.2.2.1) (fun zk62 => (.seq .x (.seq (.body (.seq .x (.seq .x (.body (.seq (.join ⟨[(192, [(1, .val 38), (3, .val 0), (4, .ptr 0 0), (6, .ptr 1 0), (9, .own 2), (10, .val 0), (80, .val 0), (81, .val 2)])], [.box 36 [.val 30], .box 63 [.val 37], .row 3 0]⟩ (fun z => z41 φ (fun a0 a1 a2 a3 a4 a5 => zk62 (a0, a1, a2, a3, a4, a5, ())) z.1 z.2.1 z.2.2.1 z.2.2.2.1 z.2.2.2.2.1 z.2.2.2.2.2.1 z.2.2.2.2.2.2.1 z.2.2.2.2.2.2.2.1) (.seq .x .x)) (.cond .x (.seq (.join ⟨[(192, [(1, .val 38), (3, .val 0), (4, .ptr 0 0), (6, .ptr 1 0), (9, .own 2), (10, .val 0), (95, .val 2)])], [.box 36 [.val 30], .box 63 [.val 37], .row 3 0]⟩ (fun z => z0q φ (fun a0 a1 a2 a3 a4 a5 => zk62 (a0, a1, a2, a3, a4, a5, ())) z.1 z.2.1 z.2.2.1 z.2.2.2.1 z.2.2.2.2.1 z.2.2.2.2.2.1 z.2.2.2.2.2.2.1) (.seq .x .x)) .x))))))) .x)))))) (.seq (.seq .x (.body (.loop ⟨[(192, [(1, .val 38), (3, .val 0), (4, .ptr 0 0), (6, .ptr 1 0), (9, .own 2), (11, .val 0)])], [.box 36 [.val 30], .box 63 [.val 37], .row 3 0]⟩ (fun n z => z49 φ n z.1 z.2.1 z.2.2.1 z.2.2.2.1 z.2.2.2.2.1 z.2.2.2.2.2.1) (fun zk87 => .x)))) (.seq .x (.seq .x (.seq .x (.seq (.join ⟨[(192, [(1, .val 38), (4, .ptr 0 0), (14, .own 1)])], [.box 36 [.val 30], .row 63 37]⟩ (fun z => z19 φ z.1 z.2.1 z.2.2.1) (.alt ⟨[(192, [(1, .val 38), (4, .ptr 0 0), (6, .ptr 1 0), (13, .val 0)])], [.box 36 [.val 30], .box 63 [.val 37]]⟩ (fun z => z29 φ z.1 z.2.1 z.2.2.1 z.2.2.2.1) (fun z => z38 φ z.1 z.2.1 z.2.2.1 z.2.2.2.1))) .x))))))))))
def z5b (P : Program) (φ : Nat) : Env TV := ⟨P, lk [(8, zcq φ), (9, ze9 φ), (18, z3p φ), (19, z7d φ), (20, zb8 φ), (16, z8i φ), (10, z8n φ), (14, zct φ)], lk [], lk []⟩
theorem ze6 (φ : Nat) (a) : (z30 φ).F a = fnX TV (z5b Tryz.prog φ) φ Tryz.f4 [30, 38, 37, 0] [.val 2] (z36 φ) a := by kernel_rfl
theorem zel (φ : Nat) : fnO TV (z5b Tryz.prog φ) φ Tryz.f4 [.val 2] (z36 φ) := by
  unfold fnO
  show obl _ _ _ _ _ _ _
  unfold z36
  repeat' (first | exact trivial | (refine ⟨?_, ?_⟩) | (intro _) | kernel_rfl | exact zat .. | exact zad ..)
theorem zei (φ : Nat) : z0v TV Tryz.prog 4 (z30 φ) :=
  z15 (N := z5b Tryz.prog φ) (zt ⟨zq2 φ, zq5 φ, za2 φ, zgc φ, zj6 φ, zf0 φ, zfe φ, zpt φ, trivial⟩ trivial trivial) (z36 φ) Tryz.func4 (by kernel_rfl) (ze6 φ) (zel φ)
end Px
end
section
namespace Px
open Go
set_option linter.unusedVariables false
set_option linter.unusedSimpArgs false
theorem z2a (φ : Nat) (a b c : Int) : zg φ a b c = some (bet a b c, ()) := rfl
def zdz (t : z1r) : Bool :=
  bet t.load 0 1000000 && bet t.tare 0 1000000 && bet t.length 0 1000000 && bet t.brake 0 1000000 && bet t.gauge 0 7 && bet t.life 1 1073741824 && bet t.floor 0 100
def zae (n : Int) (w : zka) : Bool :=
  bet w.type_ 0 (n - 1) && bet w.owner 0 63 && bet w.home 0 511 && bet w.built 0 1073741824 && bet w.worth 0 1099511627776
def zeu (n : Int) (s : Swap) : Bool := bet s.wanted 0 (n - 1) && bet s.given 0 (n - 1) && (s.wanted != s.given) && bet s.cost 0 1000000000
def zpv (w : Wash) : Bool := bet w.from_ 0 63 && bet w.to 0 63 && (w.from_ != w.to) && bet w.minutes 0 100000
def keyW (w : Wash) : Int := 64 * w.from_ + w.to
def z2g (l : List Wash) (i : Nat) : Bool := zpv (gt l (i : Int)) && !(l.take i).any fun v => keyW v == keyW (gt l (i : Int))
def z3u (l : List Wash) : Bool := (List.range l.length).all (z2g l)
/-- What Check answers. -/
def z31 (x : z82) : Int :=
  bif decide (32 < x.types.length) || decide (4096 < x.wagons.length) || decide (1024 < x.swaps.length) || decide (4096 < x.washes.length) then 2 else
  bif x.types.all zdz && x.wagons.all (zae x.types.length) && x.swaps.all (zeu x.types.length) && z3u x.washes then 0 else 1
theorem z7q (p : Nat → Bool) (i : Nat) : (List.range (i + 1)).all p = ((List.range i).all p && p i) := by
  rw [List.range_succ, List.all_append]; simp
theorem zgx (φ : Nat) (x : z82) (hl : x.swaps.length ≤ 1024) (ht : x.types.length ≤ 32) :
    ∀ n s, x.swaps.length < n → z0h φ n x.swaps (x.swaps.length : Int) 0 x s = zj φ φ x.washes (x.washes.length : Int) 0 (bif x.swaps.all (zeu (x.types.length : Int)) then s else 1) (fun _ => default) := by
  have hp : W ((x.types.length : Int) - 1) = (x.types.length : Int) - 1 := W_id (by omega) (by omega)
  refine zib (fun n i s => z0h φ n x.swaps (x.swaps.length : Int) i x s) (fun s => zj φ φ x.washes (x.washes.length : Int) 0 s (fun _ => default)) _ _ ?_ ?_
  · intro n i s hi
    have hW : W ((i : Int) + 1) = (i : Int) + 1 := W_id (by omega) (by omega)
    rw [z0h, if_pos (by simp; omega), z2 ⟨by omega, by omega⟩]
    simp only [z2a, Option.bind_some, zeu, zp, hW, hp]
    cases bet (gt x.swaps i).wanted 0 ((x.types.length : Int) - 1) <;> cases bet (gt x.swaps i).given 0 ((x.types.length : Int) - 1) <;> cases ((gt x.swaps i).wanted != (gt x.swaps i).given) <;>
      cases bet (gt x.swaps i).cost 0 1000000000 <;> rfl
  · intro n s
    rw [z0h, if_neg (by simp)]
theorem zfy (φ : Nat) (x : z82) (hl : x.wagons.length ≤ 4096) (ht : x.types.length ≤ 32) :
    ∀ n s, x.wagons.length < n → z03 φ n x.wagons (x.wagons.length : Int) 0 x s = z0h φ φ x.swaps (x.swaps.length : Int) 0 x (bif x.wagons.all (zae (x.types.length : Int)) then s else 1) := by
  have hp : W ((x.types.length : Int) - 1) = (x.types.length : Int) - 1 := W_id (by omega) (by omega)
  refine zib (fun n i s => z03 φ n x.wagons (x.wagons.length : Int) i x s) (fun s => z0h φ φ x.swaps (x.swaps.length : Int) 0 x s) _ _ ?_ ?_
  · intro n i s hi
    have hW : W ((i : Int) + 1) = (i : Int) + 1 := W_id (by omega) (by omega)
    rw [z03, if_pos (by simp; omega), z2 ⟨by omega, by omega⟩]
    simp only [z2a, Option.bind_some, zae, zp, hW, hp]
    cases bet (gt x.wagons i).type_ 0 ((x.types.length : Int) - 1) <;> cases bet (gt x.wagons i).owner 0 63 <;> cases bet (gt x.wagons i).home 0 511 <;>
      cases bet (gt x.wagons i).built 0 1073741824 <;> cases bet (gt x.wagons i).worth 0 1099511627776 <;> rfl
  · intro n s
    rw [z03, if_neg (by simp)]
theorem zhk (φ : Nat) (k : List z1r → Int → Int → z82 → Int → Option (Int × Unit)) (ts : List z1r) (len i : Int) (x : z82) (t : z1r) (n : Nat) (s : Int) (hn : 4 < n) :
    z18 φ k n ts len i 4 0 x s t [t.load, t.tare, t.length, t.brake] = k ts len (W (i + 1)) x (bif zdz t then s else 1) := by
  have h := zib (fun n j s => z18 φ k n ts len i 4 j x s t [t.load, t.tare, t.length, t.brake]) (fun s => k ts len (W (i + 1)) x (bif (bet t.gauge 0 7 && bet t.life 1 1073741824 && bet t.floor 0 100) then s else 1))
    [t.load, t.tare, t.length, t.brake] (fun a => bet a 0 1000000) (fun n j s hi => by
      rw [z18, if_pos (by simp at hi ⊢; omega), z2 ⟨by omega, by omega⟩]
      simp at hi
      have hW : W ((j : Int) + 1) = (j : Int) + 1 := W_id (by omega) (by omega)
      simp only [z2a, Option.bind_some, hW]
      cases bet (gt [t.load, t.tare, t.length, t.brake] (j : Int)) 0 1000000 <;> rfl) (fun n s => by
      rw [z18, if_neg (by simp)]
      simp only [z2a, Option.bind_some, zp]
      cases bet t.gauge 0 7 <;> cases bet t.life 1 1073741824 <;> cases bet t.floor 0 100 <;> rfl) n s hn
  rw [h]
  simp only [zdz, List.all_cons, List.all_nil]
  cases bet t.load 0 1000000 <;> cases bet t.tare 0 1000000 <;> cases bet t.length 0 1000000 <;> cases bet t.brake 0 1000000 <;>
      cases bet t.gauge 0 7 <;> cases bet t.life 1 1073741824 <;> cases bet t.floor 0 100 <;> rfl
theorem zga (φ : Nat) (hφ : 4 < φ) (x : z82) (hl : x.types.length ≤ 32) :
    ∀ n s, x.types.length < n → z2o φ n x.types (x.types.length : Int) 0 x s = z03 φ φ x.wagons (x.wagons.length : Int) 0 x (bif x.types.all zdz then s else 1) := by
  refine zib (fun n i s => z2o φ n x.types (x.types.length : Int) i x s) (fun s => z03 φ φ x.wagons (x.wagons.length : Int) 0 x s) _ _ ?_ ?_
  · intro n i s hi
    rw [z2o, if_pos (by simp; omega), z2 ⟨by omega, by omega⟩]
    have hW : W ((i : Int) + 1) = (i : Int) + 1 := W_id (by omega) (by omega)
    refine (zhk φ _ x.types (x.types.length : Int) (i : Int) x (gt x.types i) φ s hφ).trans ?_
    rw [hW]
  · intro n s
    rw [z2o, if_neg (by simp)]
theorem zfg (φ : Nat) (x : z82) (hl : x.washes.length ≤ 4096) (n : Nat) (s : Int) (hn : x.washes.length < n) :
    zj φ n x.washes (x.washes.length : Int) 0 s (fun _ => default) = some (bif z3u x.washes then s else 1, ()) := by
  refine z01 (fun n i (t : Int × (Nat → Bool)) => zj φ n x.washes (x.washes.length : Int) i t.1 t.2) x.washes.length
    (fun i t => t.1 = (bif (List.range i).all (z2g x.washes) then s else 1) ∧ ((List.range i).all (z2g x.washes) = true → ∀ j : Nat, t.2 j = (x.washes.take i).any fun v => keyW v == (j : Int)))
    (fun o => o = some (bif z3u x.washes then s else 1, ())) ?_ ?_ n (s, fun _ => false) ⟨by simp, by simp⟩ hn
  · intro n i t hi ⟨h1, h2⟩ hs
    have hW : W ((i : Int) + 1) = (i : Int) + 1 := W_id (by omega) (by omega)
    rw [zj, if_pos (by simp; omega), z2 ⟨by omega, by omega⟩]
    simp only [z2a, Option.bind_some, zp, hW]
    have hok : zpv (gt x.washes i) = (bet (gt x.washes i).from_ 0 63 && bet (gt x.washes i).to 0 63 && ((gt x.washes i).from_ != (gt x.washes i).to) && bet (gt x.washes i).minutes 0 100000) := rfl
    have hsucc := z7q (z2g x.washes) i
    cases hw : zpv (gt x.washes i) with
    | false =>
      have hf : (List.range (i + 1)).all (z2g x.washes) = false := by rw [hsucc]; simp [z2g, hw]
      have h3 : zj φ n x.washes (x.washes.length : Int) ((i : Int) + 1) 1 t.2 = some (bif z3u x.washes then s else 1, ()) := hs (1, t.2) ⟨by rw [hf]; rfl, by rw [hf]; intro h; cases h⟩
      rw [hw] at hok
      rw [← h3]
      generalize bet (gt x.washes i).from_ 0 63 = a at *; generalize bet (gt x.washes i).to 0 63 = b at *; generalize ((gt x.washes i).from_ != (gt x.washes i).to) = c at *; generalize bet (gt x.washes i).minutes 0 100000 = d at *
      cases a <;> cases b <;> cases c <;> cases d <;> first | (exact absurd hok (by decide)) | rfl
    | true =>
      rw [hw] at hok
      have hb := hok.symm
      simp only [Bool.and_eq_true] at hb
      obtain ⟨⟨⟨b1, b2⟩, b3⟩, b4⟩ := hb
      have c1 := zog b1; have c2 := zog b2
      simp only [b1, b2, b3, b4, Bool.and_self, if_true, Option.bind_some, Bool.not_true, Bool.false_eq_true, if_false]
      rw [z2 ⟨by omega, by omega⟩, z2 ⟨by omega, by omega⟩]
      have hkey : ((gt x.washes i).from_.toNat * 64 + (gt x.washes i).to.toNat : Nat) = (keyW (gt x.washes i)).toNat := by unfold keyW; omega
      have hk0 : ((keyW (gt x.washes i)).toNat : Int) = keyW (gt x.washes i) := by unfold keyW; omega
      have key : ∀ e, (e = bif (List.range (i + 1)).all (z2g x.washes) then s else 1) →
          zj φ n x.washes (x.washes.length : Int) ((i : Int) + 1) e (upd t.2 (keyW (gt x.washes i)).toNat true) = some (bif z3u x.washes then s else 1, ()) := by
        intro e he
        refine hs (e, _) ⟨he, fun hall j => ?_⟩
        rw [hsucc, Bool.and_eq_true] at hall
        rw [zbl _ _ _ hi, ← h2 hall.1 j]
        show (if j = (keyW (gt x.washes i)).toNat then true else t.2 j) = _
        by_cases hj : j = (keyW (gt x.washes i)).toNat
        · simp [hj, hk0]
        · have : (keyW (gt x.washes i) == (j : Int)) = false := by
            simp; intro h; exact hj (by omega)
          simp [hj, this]
      have e64 : ∀ (p : Prop) [Decidable p] (y : Option (Int × Unit)), p → ck p y = y := fun p _ y hp => z2 hp
      rw [hkey]
      simp only [e64 _ _ (show (0 : Int) ≤ (gt x.washes i).from_ ∧ (gt x.washes i).from_ < 64 by omega), e64 _ _ (show (0 : Int) ≤ (gt x.washes i).to ∧ (gt x.washes i).to < 64 by omega)]
      cases hall : (List.range i).all (z2g x.washes) with
      | true =>
        have hat : z2g x.washes i = !(t.2 (keyW (gt x.washes i)).toNat) := by
          rw [h2 hall]; simp only [z2g, hw, Bool.true_and, hk0]
        cases ht2 : t.2 (keyW (gt x.washes i)).toNat with
        | true =>
          simp only [Bool.not_true, Bool.not_false, if_true]
          refine key 1 ?_
          rw [hsucc, hat, ht2]; simp
        | false =>
          simp only [Bool.not_true, Bool.not_false, Bool.false_eq_true, if_false]
          refine key t.1 ?_
          rw [hsucc, hat, ht2, h1, hall]; simp
      | false =>
        have hf : (List.range (i + 1)).all (z2g x.washes) = false := by rw [hsucc, hall]; rfl
        have ht1 : t.1 = 1 := by rw [h1, hall]; rfl
        rw [ht1]
        split <;> exact key 1 (by rw [hf]; rfl)
  · intro n t ⟨h1, _⟩
    rw [zj, if_neg (by simp), h1]; rfl
theorem zkn (φ : Nat) (hφ : 5000 < φ) (x : z82) : zaz φ x = some (z31 x, ()) := by
  have e : (((decide (32 < (x.types.length : Int)) || decide (4096 < (x.wagons.length : Int))) || decide (1024 < (x.swaps.length : Int))) || decide (4096 < (x.washes.length : Int))) =
      (decide (32 < x.types.length) || decide (4096 < x.wagons.length) || decide (1024 < x.swaps.length) || decide (4096 < x.washes.length)) := by
    congr 1
    · congr 1
      · congr 1 <;> (apply decide_eq_decide.2; omega)
      · apply decide_eq_decide.2; omega
    · apply decide_eq_decide.2; omega
  unfold zaz z31
  rw [e]
  cases h : (decide (32 < x.types.length) || decide (4096 < x.wagons.length) || decide (1024 < x.swaps.length) || decide (4096 < x.washes.length)) with
  | true => rfl
  | false =>
    simp only [Bool.or_eq_false_iff, decide_eq_false_iff_not, Nat.not_lt] at h
    obtain ⟨⟨⟨h1, h2⟩, h3⟩, h4⟩ := h
    rw [if_neg (by simp), zga φ (by omega) x h1 _ _ (by omega), zfy _ _ h2 h1 _ _ (by omega), zgx _ _ h3 h1 _ _ (by omega), zfg _ _ h4 _ _ (by omega)]
    cases x.types.all zdz <;> cases x.wagons.all (zae x.types.length) <;> cases x.swaps.all (zeu x.types.length) <;> cases z3u x.washes <;> rfl
theorem z37 {x : z82} (h : z31 x = 0) : x.types.length ≤ 32 ∧ x.wagons.length ≤ 4096 ∧ x.swaps.length ≤ 1024 ∧ x.washes.length ≤ 4096 ∧
    (∀ t ∈ x.types, zdz t = true) ∧ (∀ t ∈ x.wagons, zae x.types.length t = true) ∧ (∀ t ∈ x.swaps, zeu x.types.length t = true) ∧ z3u x.washes = true := by
  unfold z31 at h
  cases h1 : (decide (32 < x.types.length) || decide (4096 < x.wagons.length) || decide (1024 < x.swaps.length) || decide (4096 < x.washes.length)) with
  | true => rw [h1] at h; cases h
  | false =>
    rw [h1] at h
    simp only [Bool.or_eq_false_iff, decide_eq_false_iff_not, Nat.not_lt] at h1
    obtain ⟨⟨⟨a1, a2⟩, a3⟩, a4⟩ := h1
    cases h2 : (x.types.all zdz && x.wagons.all (zae x.types.length) && x.swaps.all (zeu x.types.length) && z3u x.washes) with
    | false => rw [h2] at h; cases h
    | true =>
      simp only [Bool.and_eq_true, List.all_eq_true] at h2
      exact ⟨a1, a2, a3, a4, h2.1.1.1, h2.1.1.2, h2.1.2, h2.2⟩
end Px
end
section
namespace Px
open Go
set_option linter.unusedVariables false
set_option linter.unusedSimpArgs false
theorem z7a {c : Int} (h : 0 ≤ c) (h' : c < 18446744073709551616) : (BitVec.ofInt 64 c).toNat = c.toNat := by
  rw [BitVec.toNat_ofInt]; omega
theorem y1s {n : Nat} (h : n < 18446744073709551616) : U (n : Int) = n := U_id (by omega) (by omega)
theorem y0b {a b : Nat} (h : a < 18446744073709551616) : a &&& b < 18446744073709551616 := Nat.lt_of_le_of_lt Nat.and_le_left h
theorem zy1 {k : Nat} (h : k ≤ 63) : (2 ^ k : Nat) < 18446744073709551616 := Nat.lt_of_lt_of_le (Nat.pow_lt_pow_right (by decide) (by omega : k < 64)) (by decide)
theorem y5m {c k : Int} (h : 0 ≤ c) (hk : 0 ≤ k) (hk' : k ≤ 63) : c.fdiv (2 ^ (min (k : Int).toNat (IntKind.bits .u64))) = ((c.toNat / 2 ^ k.toNat : Nat) : Int) := by
  have e : min (k : Int).toNat (IntKind.bits .u64) = k.toNat := by simp [IntKind.bits]; omega
  rw [e]
  have e2 : ((2 : Int) ^ k.toNat) = ((2 ^ k.toNat : Nat) : Int) := by simp
  rw [e2, Int.fdiv_eq_ediv_of_nonneg _ (Int.natCast_nonneg _)]
  have : c = (c.toNat : Int) := by omega
  rw [this]; simp
end Px
end
section
namespace Px
open Go
set_option linter.unusedVariables false
set_option linter.unusedSimpArgs false
set_option maxRecDepth 100000
theorem zu5 : ((List.range 256).all fun i => decide (0 ≤ z97 zk i ∧ z97 zk i ≤ 8 ∧ i < 2 ^ (z97 zk i).toNat ∧ (0 < i → 0 < z97 zk i ∧ 2 ^ ((z97 zk i).toNat - 1) ≤ i))) = true := by decide +kernel
theorem zk0 {i : Int} (h : 0 ≤ i) (h' : i < 256) : ∃ n : Nat, z97 zk i = n ∧ n ≤ 8 ∧ i.toNat < 2 ^ n ∧ (0 < i → 0 < n ∧ 2 ^ (n - 1) ≤ i.toNat) := by
  have := List.all_eq_true.1 zu5 i.toNat (by simp; omega)
  rw [decide_eq_true_eq, show ((i.toNat : Nat) : Int) = i by omega] at this
  obtain ⟨a, b, c, d⟩ := this
  exact ⟨(z97 zk i).toNat, by omega, by omega, c, fun hi => ⟨by have := (d (by omega)).1; omega, (d (by omega)).2⟩⟩
/-- How many bits. -/
def z6n (v : Nat) (n : Nat) : Prop := v < 2 ^ n ∧ (0 < v → 0 < n ∧ 2 ^ (n - 1) ≤ v)
theorem z6n.up {v : Nat} (k : Nat) {n : Nat} (h : z6n (v / 2 ^ k) n) (hv : 2 ^ k ≤ v) : z6n v (n + k) := by
  have hp := Nat.two_pow_pos k
  have hpos : 0 < v / 2 ^ k := Nat.div_pos hv hp
  obtain ⟨h1, h2⟩ := h
  obtain ⟨h3, h4⟩ := h2 hpos
  refine ⟨?_, fun _ => ⟨by omega, ?_⟩⟩
  · rw [Nat.pow_add]; exact (Nat.div_lt_iff_lt_mul hp).1 h1
  · have : n + k - 1 = (n - 1) + k := by omega
    rw [this, Nat.pow_add]; exact (Nat.le_div_iff_mul_le hp).1 h4
theorem zx4 (φ : Nat) (v w : Int) (h : 0 ≤ v) (h' : v < 256) (hw : 0 ≤ w) (hw' : w ≤ 64) : ∃ n : Nat, z0s φ v w = some (64 - (w + n), ()) ∧ n ≤ 8 ∧ z6n v.toNat n := by
  obtain ⟨n, e, hn, a, b⟩ := zk0 h h'
  have e8 : IntKind.wrap .u8 v = v := by simp [IntKind.wrap, IntKind.bits, IntKind.signed]; omega
  refine ⟨n, ?_, hn, a, fun hv => b (by omega)⟩
  unfold z0s
  rw [e8, z2 ⟨h, h'⟩, e, W_id (x := (n : Int)) (by omega) (by omega), W_id (x := w + n) (by omega) (by omega), W_id (by omega) (by omega)]
theorem sh8 (v : Int) : v.fdiv (2 ^ (min (8 : Int).toNat 64)) = v / 256 := by rw [show ((2 : Int) ^ (min (8 : Int).toNat 64)) = 256 by decide]; exact Int.fdiv_eq_ediv_of_nonneg _ (by omega)
theorem sh16 (v : Int) : v.fdiv (2 ^ (min (16 : Int).toNat 64)) = v / 65536 := by rw [show ((2 : Int) ^ (min (16 : Int).toNat 64)) = 65536 by decide]; exact Int.fdiv_eq_ediv_of_nonneg _ (by omega)
theorem sh32 (v : Int) : v.fdiv (2 ^ (min (32 : Int).toNat 64)) = v / 4294967296 := by rw [show ((2 : Int) ^ (min (32 : Int).toNat 64)) = 4294967296 by decide]; exact Int.fdiv_eq_ediv_of_nonneg _ (by omega)
theorem y1e (φ : Nat) (v w : Int) (h : 0 ≤ v) (h' : v < 65536) (hw : 0 ≤ w) (hw' : w ≤ 48) : ∃ n : Nat, z0y φ v w = some (64 - (w + n), ()) ∧ n ≤ 16 ∧ z6n v.toNat n := by
  unfold z0y
  by_cases c : 256 ≤ v
  · rw [if_pos (by simpa using c), if_pos (by decide), sh8, W_id (by omega) (by omega)]
    obtain ⟨n, e, hn, hl⟩ := zx4 φ (v / 256) (w + 8) (by omega) (by omega) (by omega) (by omega)
    refine ⟨n + 8, by rw [e]; congr 2; omega, by omega, ?_⟩
    refine z6n.up 8 ?_ (by omega)
    rwa [show v.toNat / 2 ^ 8 = (v / 256).toNat by omega]
  · rw [if_neg (by simpa using c)]
    obtain ⟨n, e, hn, hl⟩ := zx4 φ v w h (by omega) (by omega) (by omega)
    exact ⟨n, e, by omega, hl⟩
theorem y0y (φ : Nat) (v w : Int) (h : 0 ≤ v) (h' : v < 4294967296) (hw : 0 ≤ w) (hw' : w ≤ 32) : ∃ n : Nat, z0z φ v w = some (64 - (w + n), ()) ∧ n ≤ 32 ∧ z6n v.toNat n := by
  unfold z0z
  by_cases c : 65536 ≤ v
  · rw [if_pos (by simpa using c), if_pos (by decide), sh16, W_id (by omega) (by omega)]
    obtain ⟨n, e, hn, hl⟩ := y1e φ (v / 65536) (w + 16) (by omega) (by omega) (by omega) (by omega)
    refine ⟨n + 16, by rw [e]; congr 2; omega, by omega, ?_⟩
    refine z6n.up 16 ?_ (by omega)
    rwa [show v.toNat / 2 ^ 16 = (v / 65536).toNat by omega]
  · rw [if_neg (by simpa using c)]
    obtain ⟨n, e, hn, hl⟩ := y1e φ v w h (by omega) (by omega) (by omega)
    exact ⟨n, e, by omega, hl⟩
theorem y6k (φ : Nat) (v : Int) (h : 0 ≤ v) (h' : v < 18446744073709551616) : ∃ n : Nat, z20 φ v = some (64 - (n : Int), ()) ∧ n ≤ 64 ∧ z6n v.toNat n := by
  unfold z20
  by_cases c : 4294967296 ≤ v
  · rw [if_pos (by simpa using c), if_pos (by decide), sh32]
    obtain ⟨n, e, hn, hl⟩ := y0y φ (v / 4294967296) 32 (by omega) (by omega) (by omega) (by omega)
    refine ⟨n + 32, by rw [e]; congr 2; omega, by omega, ?_⟩
    refine z6n.up 32 ?_ (by omega)
    rwa [show v.toNat / 2 ^ 32 = (v / 4294967296).toNat by omega]
  · rw [if_neg (by simpa using c)]
    obtain ⟨n, e, hn, hl⟩ := y0y φ v 0 h (by omega) (by omega) (by omega)
    exact ⟨n, by rw [e]; simp, by omega, hl⟩
theorem zjg {v : Int} (h : 0 ≤ v) (h' : v < 18446744073709551616) : U ((BitVec.ofInt 64 v &&& BitVec.ofInt 64 4294967295).toNat) = v % 4294967296 := by
  show U ((BitVec.ofInt 64 v &&& BitVec.ofInt 64 4294967295).toNat : Int) = _
  rw [BitVec.toNat_and, z7a h h', z7a (by omega) (by omega), y1s (y0b (by omega))]
  have : (4294967295 : Int).toNat = 2 ^ 32 - 1 := by decide
  rw [this, Nat.and_two_pow_sub_one_eq_mod]
  omega
theorem ziw {a b m n : Int} (ha : 0 ≤ a) (hb : 0 ≤ b) (h : a ≤ m) (h' : b ≤ n) : 0 ≤ a * b ∧ a * b ≤ m * n :=
  ⟨Int.mul_nonneg ha hb, Int.mul_le_mul h h' hb (by omega)⟩
theorem y03 (φ : Nat) (x y : Int) (hx : 0 ≤ x) (hx' : x < 18446744073709551616) (hy : 0 ≤ y) (hy' : y < 18446744073709551616) :
    z6v φ x y = some (x * y / 18446744073709551616, x * y % 18446744073709551616, ()) := by
  unfold z6v
  simp only [show (0 : Int) ≤ 32 by decide, if_true]
  rw [zjg hx hx', zjg hy hy']
  simp only [sh32]
  have ex : x = x / 4294967296 * 4294967296 + x % 4294967296 := by omega
  have ey : y = y / 4294967296 * 4294967296 + y % 4294967296 := by omega
  have a1 : 0 ≤ x / 4294967296 ∧ x / 4294967296 ≤ 4294967295 := by omega
  have a0 : 0 ≤ x % 4294967296 ∧ x % 4294967296 ≤ 4294967295 := by omega
  have b1 : 0 ≤ y / 4294967296 ∧ y / 4294967296 ≤ 4294967295 := by omega
  have b0 : 0 ≤ y % 4294967296 ∧ y % 4294967296 ≤ 4294967295 := by omega
  have hxy : x * y = (x / 4294967296) * (y / 4294967296) * 18446744073709551616 + ((x / 4294967296) * (y % 4294967296) + (x % 4294967296) * (y / 4294967296)) * 4294967296 + (x % 4294967296) * (y % 4294967296) := by
    conv => lhs; rw [ex, ey]
    generalize x / 4294967296 = a; generalize x % 4294967296 = b; generalize y / 4294967296 = c; generalize y % 4294967296 = d
    rw [Int.add_mul, Int.mul_add, Int.mul_add, Int.add_mul]
    have e1 : a * 4294967296 * (c * 4294967296) = a * c * 18446744073709551616 := by
      rw [Int.mul_assoc, Int.mul_left_comm 4294967296 c, ← Int.mul_assoc]; rfl
    have e2 : a * 4294967296 * d = a * d * 4294967296 := by rw [Int.mul_right_comm]
    have e3 : b * (c * 4294967296) = b * c * 4294967296 := by rw [Int.mul_assoc]
    rw [e1, e2, e3]; omega
  have p11 := ziw a1.1 b1.1 a1.2 b1.2
  have p10 := ziw a1.1 b0.1 a1.2 b0.2
  have p01 := ziw a0.1 b1.1 a0.2 b1.2
  have p00 := ziw a0.1 b0.1 a0.2 b0.2
  rw [zts (x * y), hxy]
  generalize (x / 4294967296) * (y / 4294967296) = p at *; generalize (x / 4294967296) * (y % 4294967296) = q at *
  generalize (x % 4294967296) * (y / 4294967296) = r at *; generalize (x % 4294967296) * (y % 4294967296) = s at *
  clear hxy ex ey a1 a0 b1 b0
  rw [U_id (x := p) (by omega) (by omega), U_id (x := q) (by omega) (by omega), U_id (x := r) (by omega) (by omega), U_id (x := s) (by omega) (by omega)]
  rw [U_id (x := q + s / 4294967296) (by omega) (by omega), zjg (by omega) (by omega),
    U_id (x := (q + s / 4294967296) % 4294967296 + r) (by omega) (by omega), U_id (x := p + (q + s / 4294967296) / 4294967296) (by omega) (by omega), U_id (by omega) (by omega)]
  refine congrArg some (Prod.ext ?_ rfl)
  show _ = _
  omega
/-- One y3z of the quotient: what the two loops find. -/
theorem y3z {yn1 yn0 u d q r : Int} (h1 : 2147483648 ≤ yn1) (h1' : yn1 < 4294967296) (h0 : 0 ≤ yn0) (h0' : yn0 < 4294967296) (hd : 0 ≤ d) (hd' : d < 4294967296) (hu : 0 ≤ u)
    (hu' : u < yn1 * 4294967296 + yn0) (hqr : q * yn1 + r = u) (hr : 0 ≤ r) (hr' : r < 4294967296) (hq : (u * 4294967296 + d) / (yn1 * 4294967296 + yn0) ≤ q) :
    0 ≤ q ∧ q ≤ 4294967297 ∧ 0 ≤ (u * 4294967296 + d) / (yn1 * 4294967296 + yn0) ∧ (u * 4294967296 + d) / (yn1 * 4294967296 + yn0) < 4294967296 ∧
    (4294967296 ≤ q ∨ 4294967296 * r + d < q * yn0 → (u * 4294967296 + d) / (yn1 * 4294967296 + yn0) ≤ q - 1) ∧
    (¬ (4294967296 ≤ q ∨ 4294967296 * r + d < q * yn0) → q = (u * 4294967296 + d) / (yn1 * 4294967296 + yn0)) ∧
    (4294967296 ≤ q ∨ 4294967296 * r + d < q * yn0 → 4294967296 ≤ r + yn1 → q - 1 = (u * 4294967296 + d) / (yn1 * 4294967296 + yn0)) := by
  have hY : 0 < yn1 * 4294967296 + yn0 := by omega
  have hQ0 : 0 ≤ (u * 4294967296 + d) / (yn1 * 4294967296 + yn0) := Int.ediv_nonneg (by omega) (by omega)
  have hQ1 : (u * 4294967296 + d) / (yn1 * 4294967296 + yn0) < 4294967296 := Int.ediv_lt_of_lt_mul hY (by omega)
  have hq0 : 0 ≤ q := by omega
  have key : q * (yn1 * 4294967296 + yn0) = (u - r) * 4294967296 + q * yn0 := by
    rw [Int.mul_add, ← Int.mul_assoc, ← hqr]; omega
  have hq2 : q ≤ 4294967297 := by
    rcases Int.lt_or_le 4294967297 q with h | h
    · have : 4294967298 * yn1 ≤ q * yn1 := Int.mul_le_mul_of_nonneg_right (by omega) (by omega)
      omega
    · exact h
  have lt_of : ∀ {z : Int}, (u * 4294967296 + d) / (yn1 * 4294967296 + yn0) < z ↔ u * 4294967296 + d < z * (yn1 * 4294967296 + yn0) := fun {z} => Int.ediv_lt_iff_lt_mul hY
  refine ⟨hq0, hq2, hQ0, hQ1, fun h => ?_, fun h => ?_, fun h hr2 => ?_⟩
  · have : (u * 4294967296 + d) / (yn1 * 4294967296 + yn0) < q := by
      rcases h with h | h
      · omega
      · rw [lt_of, key]; omega
    omega
  · have : ¬ (u * 4294967296 + d) / (yn1 * 4294967296 + yn0) < q := by rw [lt_of, key]; omega
    omega
  · have hq1 : (u * 4294967296 + d) / (yn1 * 4294967296 + yn0) < q := by
      rcases h with h | h
      · omega
      · rw [lt_of, key]; omega
    have h2 : ¬ (u * 4294967296 + d) / (yn1 * 4294967296 + yn0) < q - 1 := by
      rw [lt_of]
      have e : (q - 1) * (yn1 * 4294967296 + yn0) = (u - (r + yn1)) * 4294967296 + (q - 1) * yn0 := by
        have : (q - 1) * yn1 + (r + yn1) = u := by rw [Int.sub_mul]; omega
        rw [Int.mul_add, ← Int.mul_assoc, ← this]; omega
      have b := (ziw (by omega : 0 ≤ q - 1) h0 (by omega : q - 1 ≤ 4294967296) (by omega : yn0 ≤ 4294967295)).2
      rw [e]; omega
    omega
theorem mulB {a b : Int} (h : 0 ≤ a) (h' : a < 4294967296) (g : 0 ≤ b) (g' : b < 4294967296) : 0 ≤ a * b ∧ a * b ≤ 18446744065119617025 :=
  ziw h g (by omega : a ≤ 4294967295) (by omega : b ≤ 4294967295)
theorem zlj {ρ : Type} (L : Nat → Int → Int → Option ρ) (k : Int → Option ρ) {yn1 yn0 u d : Int} (h1 : 2147483648 ≤ yn1) (h1' : yn1 < 4294967296) (h0 : 0 ≤ yn0) (h0' : yn0 < 4294967296) (hd : 0 ≤ d) (hd' : d < 4294967296) (hu : 0 ≤ u)
    (hu' : u < yn1 * 4294967296 + yn0)
    (step : ∀ n q r, L (n + 1) q r = if (decide (4294967296 ≤ q) || decide (U (U (4294967296 * r) + d) < U (q * yn0))) = true then (if decide (4294967296 ≤ U (r + yn1)) = true then k (U (q - 1)) else L n (U (q - 1)) (U (r + yn1))) else k q) :
    ∀ (n : Nat) q r, q * yn1 + r = u → 0 ≤ r → r < 4294967296 → (u * 4294967296 + d) / (yn1 * 4294967296 + yn0) ≤ q → 4294967296 - r ≤ 2147483648 * n → L (n + 1) q r = k ((u * 4294967296 + d) / (yn1 * 4294967296 + yn0)) := by
  intro n
  induction n with
  | zero => intro q r _ _ _ _ h; omega
  | succ n ih =>
    intro q r hqr hr hr' hq hn
    obtain ⟨g0, g1, g2, g3, g4, g5, g6⟩ := y3z h1 h1' h0 h0' hd hd' hu hu' hqr hr hr' hq
    have hc : (decide (4294967296 ≤ q) || decide (U (U (4294967296 * r) + d) < U (q * yn0))) = true ↔ (4294967296 ≤ q ∨ 4294967296 * r + d < q * yn0) := by
      rw [Bool.or_eq_true, decide_eq_true_eq, decide_eq_true_eq]
      by_cases hqB : 4294967296 ≤ q
      · simp [hqB]
      · have := mulB g0 (by omega : q < 4294967296) h0 h0'
        rw [U_id (x := 4294967296 * r) (by omega) (by omega), U_id (by omega) (by omega), U_id (by omega) (by omega)]
    rw [step]
    by_cases c : 4294967296 ≤ q ∨ 4294967296 * r + d < q * yn0
    · have a4 := g4 c
      rw [if_pos (hc.2 c), U_id (x := r + yn1) (by omega) (by omega), U_id (x := q - 1) (by omega) (by omega)]
      by_cases e : 4294967296 ≤ r + yn1
      · rw [if_pos (by simpa using e), g6 c e]
      · rw [if_neg (by simpa using e)]
        exact ih _ _ (by rw [Int.sub_mul]; omega) (by omega) (by omega) a4 (by omega)
    · rw [if_neg (fun h => c (hc.1 h)), ← g5 c]
/-- The first guess. -/
theorem ziy {yn1 yn0 u d : Int} (h1 : 2147483648 ≤ yn1) (h1' : yn1 < 4294967296) (h0 : 0 ≤ yn0) (h0' : yn0 < 4294967296) (hd : 0 ≤ d) (hd' : d < 4294967296) (hu : 0 ≤ u)
    (hu' : u < yn1 * 4294967296 + yn0) : U (u.tdiv yn1) = u / yn1 ∧ U (u - U (U (u.tdiv yn1) * yn1)) = u % yn1 ∧ u / yn1 * yn1 + u % yn1 = u ∧ 0 ≤ u % yn1 ∧ u % yn1 < 4294967296 ∧
    (u * 4294967296 + d) / (yn1 * 4294967296 + yn0) ≤ u / yn1 := by
  have e1 : u.tdiv yn1 = u / yn1 := Int.tdiv_eq_ediv_of_nonneg hu
  have hdm : u / yn1 * yn1 + u % yn1 = u := by have := Int.ediv_mul_add_emod u yn1; exact this
  have hm0 := Int.emod_nonneg u (by omega : yn1 ≠ 0)
  have hm1 := Int.emod_lt_of_pos u (by omega : 0 < yn1)
  have hq0 : 0 ≤ u / yn1 := Int.ediv_nonneg hu (by omega)
  have hq1 : u / yn1 ≤ u := Int.ediv_le_self _ hu
  have hqm : 0 ≤ u / yn1 * yn1 := Int.mul_nonneg hq0 (by omega)
  rw [e1, U_id hq0 (by omega), U_id (x := u / yn1 * yn1) (by omega) (by omega), U_id (by omega) (by omega)]
  refine ⟨rfl, by omega, hdm, hm0, by omega, ?_⟩
  have hY : 0 < yn1 * 4294967296 + yn0 := by omega
  have hQ0 : 0 ≤ (u * 4294967296 + d) / (yn1 * 4294967296 + yn0) := Int.ediv_nonneg (by omega) (by omega)
  have hQ := Int.ediv_mul_le (u * 4294967296 + d) (b := yn1 * 4294967296 + yn0) (by omega)
  generalize (u * 4294967296 + d) / (yn1 * 4294967296 + yn0) = z at *
  rw [Int.mul_add, ← Int.mul_assoc] at hQ
  have := Int.mul_nonneg hQ0 h0
  exact (Int.le_ediv_iff_mul_le (by omega)).2 (by omega)
theorem y0g (a b c : Int) : U (U (U a + b) - U c) = U (a + b - c) := by
  simp only [zts]; omega
theorem y5t {a b : Int} {s : Nat} (hs : s ≤ 63) (ha : 0 ≤ a) (h : a * 2 ^ s < 18446744073709551616) (hb : 0 ≤ b) (hb' : b < 2 ^ s) :
    U ((BitVec.ofInt 64 (U (a * 2 ^ s)) ||| BitVec.ofInt 64 b).toNat) = a * 2 ^ s + b := by
  have hp : (0 : Int) < 2 ^ s := Int.pow_pos (by decide)
  have hn := Int.mul_nonneg ha (Int.le_of_lt hp)
  have hp2 : (2 : Int) ^ s = ((2 ^ s : Nat) : Int) := by simp
  have hlt : (2 ^ s : Nat) < 18446744073709551616 := zy1 hs
  rw [U_id hn (by omega)]
  show U ((BitVec.ofInt 64 (a * 2 ^ s) ||| BitVec.ofInt 64 b).toNat : Int) = _
  have hlt2 := (BitVec.ofInt 64 (a * 2 ^ s) ||| BitVec.ofInt 64 b).isLt
  rw [y1s (by omega), BitVec.toNat_or, z7a hn h, z7a hb (by omega)]
  obtain ⟨n, rfl⟩ := Int.eq_ofNat_of_zero_le ha
  obtain ⟨m, rfl⟩ := Int.eq_ofNat_of_zero_le hb
  have e : ((n : Int) * 2 ^ s).toNat = 2 ^ s * n := by rw [hp2, ← Int.natCast_mul, Int.toNat_natCast, Nat.mul_comm]
  rw [e, Int.toNat_natCast, ← Nat.two_pow_add_eq_or_of_lt (by rw [hp2] at hb'; omega)]
  simp [Int.mul_comm]
theorem zgg (φ : Nat) (v : Int) (h : 0 < v) (h' : v < 18446744073709551616) : ∃ s : Nat, z20 φ v = some ((s : Int), ()) ∧ s ≤ 63 ∧
    9223372036854775808 ≤ v * 2 ^ s ∧ v * 2 ^ s < 18446744073709551616 ∧ v ≤ 2 ^ (64 - s) := by
  obtain ⟨n, e, hn, h1, h2⟩ := y6k φ v (by omega) h'
  obtain ⟨h3, h4⟩ := h2 (by omega)
  refine ⟨64 - n, ?_, by omega, ?_, ?_, ?_⟩
  · rw [e]; congr 2; omega
  · have : 2 ^ (n - 1) * 2 ^ (64 - n) ≤ v.toNat * 2 ^ (64 - n) := Nat.mul_le_mul_right _ h4
    rw [← Nat.pow_add, show n - 1 + (64 - n) = 63 by omega] at this
    have e2 : ((v.toNat * 2 ^ (64 - n) : Nat) : Int) = v * 2 ^ (64 - n) := by
      rw [Int.natCast_mul, Int.natCast_pow]; congr 1; omega
    omega
  · have : v.toNat * 2 ^ (64 - n) < 2 ^ n * 2 ^ (64 - n) := Nat.mul_lt_mul_of_pos_right h1 (Nat.two_pow_pos _)
    rw [← Nat.pow_add, show n + (64 - n) = 64 by omega] at this
    have e2 : ((v.toNat * 2 ^ (64 - n) : Nat) : Int) = v * 2 ^ (64 - n) := by
      rw [Int.natCast_mul, Int.natCast_pow]; congr 1; omega
    omega
  · rw [show 64 - (64 - n) = n by omega]
    have e2 : ((2 ^ n : Nat) : Int) = (2 : Int) ^ n := by simp
    omega
theorem zy9 (φ : Nat) (hφ : 5 < φ) (hi lo y : Int) (h0 : 0 ≤ hi) (hy : hi < y) (hy' : y < 18446744073709551616) (hl : 0 ≤ lo) (hl' : lo < 18446744073709551616) :
    z5j φ hi lo y = some ((hi * 18446744073709551616 + lo) / y, (hi * 18446744073709551616 + lo) % y, ()) := by
  unfold z5j
  rw [if_neg (by simp; omega), if_neg (by simp; omega)]
  by_cases hz : hi = 0
  · subst hz
    rw [if_pos (by simp), z2 (by omega), z2 (by omega), Int.tdiv_eq_ediv_of_nonneg hl, Int.tmod_eq_emod_of_nonneg hl, U_id (Int.ediv_nonneg hl (by omega)) (by have := Int.ediv_le_self y hl; omega)]
    simp
  rw [if_neg (by simpa using hz)]
  obtain ⟨s, es, hs, hY1, hY2, hyP⟩ := zgg φ y (by omega) hy'
  have em1 : min (s : Int).toNat 64 = s := by omega
  have em2 : min (64 - (s : Int)).toNat 64 = 64 - s := by omega
  have hp : (0 : Int) < 2 ^ s := Int.pow_pos (by decide)
  have hP : (0 : Int) < 2 ^ (64 - s) := Int.pow_pos (by decide)
  have hpP : (2 : Int) ^ s * 2 ^ (64 - s) = 18446744073709551616 := by rw [← Int.pow_add, show s + (64 - s) = 64 by omega]; rfl
  have hhp : hi * 2 ^ s < y * 2 ^ s := Int.mul_lt_mul_of_pos_right hy hp
  have hlP0 : 0 ≤ lo / 2 ^ (64 - s) := Int.ediv_nonneg hl (by omega)
  have hlP1 : lo / 2 ^ (64 - s) < 2 ^ s := Int.ediv_lt_of_lt_mul hP (by omega)
  have hh0 : 0 ≤ hi * 2 ^ s := Int.mul_nonneg h0 (by omega)
  -- the low word
  have hlo10 : U (lo * 2 ^ s) = lo % 2 ^ (64 - s) * 2 ^ s := by
    have e : lo = lo / 2 ^ (64 - s) * 2 ^ (64 - s) + lo % 2 ^ (64 - s) := (Int.ediv_mul_add_emod lo _).symm
    have e2 : lo * 2 ^ s = lo / 2 ^ (64 - s) * 18446744073709551616 + lo % 2 ^ (64 - s) * 2 ^ s := by
      conv => lhs; rw [e]
      rw [Int.add_mul, Int.mul_assoc, Int.mul_comm (2 ^ (64 - s)), hpP]
    have m0 := Int.emod_nonneg lo (by omega : (2 : Int) ^ (64 - s) ≠ 0)
    have m1 := Int.emod_lt_of_pos lo hP
    have m2 : lo % 2 ^ (64 - s) * 2 ^ s < 2 ^ (64 - s) * 2 ^ s := Int.mul_lt_mul_of_pos_right m1 hp
    have m3 := Int.mul_nonneg m0 (Int.le_of_lt hp)
    rw [Int.mul_comm (2 ^ (64 - s))] at m2
    rw [e2, zts]; omega
  have hN : (hi * 2 ^ s + lo / 2 ^ (64 - s)) * 18446744073709551616 + lo % 2 ^ (64 - s) * 2 ^ s = (hi * 18446744073709551616 + lo) * 2 ^ s := by
    have e : lo = lo / 2 ^ (64 - s) * 2 ^ (64 - s) + lo % 2 ^ (64 - s) := (Int.ediv_mul_add_emod lo _).symm
    have e2 : lo * 2 ^ s = lo / 2 ^ (64 - s) * 18446744073709551616 + lo % 2 ^ (64 - s) * 2 ^ s := by
      conv => lhs; rw [e]
      rw [Int.add_mul, Int.mul_assoc, Int.mul_comm (2 ^ (64 - s)), hpP]
    have e3 : (hi * 18446744073709551616 + lo) * 2 ^ s = hi * 2 ^ s * 18446744073709551616 + lo * 2 ^ s := by rw [Int.add_mul, Int.mul_right_comm]
    rw [e3, e2]; omega
  have hun0 : 0 ≤ lo % 2 ^ (64 - s) * 2 ^ s := Int.mul_nonneg (Int.emod_nonneg lo (by omega)) (by omega)
  have hun1 : lo % 2 ^ (64 - s) * 2 ^ s < 18446744073709551616 := by
    rw [← hlo10, zts]; omega
  have hu' : hi * 2 ^ s + lo / 2 ^ (64 - s) < y * 2 ^ s := by
    have : (hi + 1) * 2 ^ s ≤ y * 2 ^ s := Int.mul_le_mul_of_nonneg_right (by omega) (by omega)
    rw [Int.add_mul] at this; omega
  have hs1 : U (s : Int) = s := U_id (by omega) (by omega)
  have hs2 : U (64 - (s : Int)) = 64 - (s : Int) := U_id (by omega) (by omega)
  have ef : lo.fdiv (2 ^ (64 - s)) = lo / 2 ^ (64 - s) := Int.fdiv_eq_ediv_of_nonneg _ (by omega)
  have eor := y5t hs h0 (by omega : hi * 2 ^ s < 18446744073709551616) hlP0 hlP1
  obtain ⟨Y, hYd⟩ : ∃ Y, Y = y * 2 ^ s := ⟨_, rfl⟩
  have eY : U (y * 2 ^ s) = Y := by rw [hYd]; exact U_id (by omega) (by omega)
  obtain ⟨u, hud⟩ : ∃ u, u = hi * 2 ^ s + lo / 2 ^ (64 - s) := ⟨_, rfl⟩
  obtain ⟨w, hwd⟩ : ∃ w, w = lo % 2 ^ (64 - s) * 2 ^ s := ⟨_, rfl⟩
  rw [← hwd] at hlo10 hN hun0 hun1
  rw [← hud] at hN hu' eor
  rw [← hYd] at hu' hY1 hY2 hhp
  have hu0 : 0 ≤ u := by omega
  have fY : Y.fdiv 4294967296 = Y / 4294967296 := Int.fdiv_eq_ediv_of_nonneg _ (by omega)
  have fw : w.fdiv 4294967296 = w / 4294967296 := Int.fdiv_eq_ediv_of_nonneg _ (by omega)
  have mY := zjg (v := Y) (by omega) (by omega)
  have mw := zjg (v := w) (by omega) (by omega)
  have b1 : 2147483648 ≤ Y / 4294967296 ∧ Y / 4294967296 < 4294967296 ∧ 0 ≤ Y % 4294967296 ∧ Y % 4294967296 < 4294967296 := by omega
  have b2 : 0 ≤ w / 4294967296 ∧ w / 4294967296 < 4294967296 ∧ 0 ≤ w % 4294967296 ∧ w % 4294967296 < 4294967296 := by omega
  have eYs : Y / 4294967296 * 4294967296 + Y % 4294967296 = Y := by omega
  obtain ⟨m, rfl⟩ : ∃ m, φ = m + 3 := ⟨φ - 3, by omega⟩
  rw [es]
  simp only [Option.bind_some, hs1, hs2, em1, em2, sh32, eY, hlo10, mY, mw, ef, eor, show (0 : Int) ≤ 32 by decide, if_true]
  rw [z2 (by omega), z2 (by omega), z2 (by omega), z2 (by omega), z2 (by omega)]
  obtain ⟨i1, i2, i3, i4, i5, i6⟩ := ziy (u := u) (d := w / 4294967296) b1.1 b1.2.1 b1.2.2.1 b1.2.2.2 b2.1 b2.2.1 hu0 (by omega)
  rw [i1] at i2 ⊢
  rw [i2]
  refine (zlj (fun n q r => z4t (m + 3) n Y s (Y / 4294967296) (Y % 4294967296) u (w / 4294967296) (w % 4294967296) q r) (fun q => z4q (m + 3) Y s (Y / 4294967296) (Y % 4294967296) u (w / 4294967296) (w % 4294967296) q)
    b1.1 b1.2.1 b1.2.2.1 b1.2.2.2 b2.1 b2.2.1 hu0 (by omega) (fun n q r => by rw [z4t]) (m + 2) _ _ i3 i4 i5 i6 (by omega)).trans ?_
  rw [eYs]
  unfold z4q
  rw [z2 (by omega)]
  have hQ1 : 0 ≤ (u * 4294967296 + w / 4294967296) / Y ∧ (u * 4294967296 + w / 4294967296) / Y < 4294967296 := ⟨Int.ediv_nonneg (by omega) (by omega), Int.ediv_lt_of_lt_mul (by omega) (by omega)⟩
  have hR1 := Int.ediv_mul_add_emod (u * 4294967296 + w / 4294967296) Y
  have hR1a := Int.emod_nonneg (u * 4294967296 + w / 4294967296) (by omega : Y ≠ 0)
  have hR1b := Int.emod_lt_of_pos (u * 4294967296 + w / 4294967296) (by omega : 0 < Y)
  generalize (u * 4294967296 + w / 4294967296) / Y = q1 at *
  generalize (u * 4294967296 + w / 4294967296) % Y = r1 at *
  have eu21 : U (U (U (u * 4294967296) + w / 4294967296) - U (q1 * Y)) = r1 := by
    rw [y0g, show u * 4294967296 + w / 4294967296 - q1 * Y = r1 by omega]; exact U_id hR1a (by omega)
  rw [eu21]
  obtain ⟨j1, j2, j3, j4, j5, j6⟩ := ziy (u := r1) (d := w % 4294967296) b1.1 b1.2.1 b1.2.2.1 b1.2.2.2 b2.2.2.1 b2.2.2.2 hR1a (by omega)
  rw [j1] at j2 ⊢
  rw [j2]
  refine (zlj (fun n q r => z4z (m + 3) n Y s (Y / 4294967296) (Y % 4294967296) (w % 4294967296) q1 r r1 q) (fun q => z4n (m + 3) Y s (w % 4294967296) q1 r1 q)
    b1.1 b1.2.1 b1.2.2.1 b1.2.2.2 b2.2.2.1 b2.2.2.2 hR1a (by omega) (fun n q r => by rw [z4z]) (m + 2) _ _ j3 j4 j5 j6 (by omega)).trans ?_
  rw [eYs]
  unfold z4n
  rw [em1, z2 (by omega)]
  have hQ0 : 0 ≤ (r1 * 4294967296 + w % 4294967296) / Y ∧ (r1 * 4294967296 + w % 4294967296) / Y < 4294967296 := ⟨Int.ediv_nonneg (by omega) (by omega), Int.ediv_lt_of_lt_mul (by omega) (by omega)⟩
  have hR0 := Int.ediv_mul_add_emod (r1 * 4294967296 + w % 4294967296) Y
  have hR0a := Int.emod_nonneg (r1 * 4294967296 + w % 4294967296) (by omega : Y ≠ 0)
  have hR0b := Int.emod_lt_of_pos (r1 * 4294967296 + w % 4294967296) (by omega : 0 < Y)
  generalize (r1 * 4294967296 + w % 4294967296) / Y = q0 at *
  generalize (r1 * 4294967296 + w % 4294967296) % Y = r0 at *
  rw [y0g, show r1 * 4294967296 + w % 4294967296 - q0 * Y = r0 by omega, U_id (x := r0) hR0a (by omega), U_id (x := q1 * 4294967296) (by omega) (by omega), U_id (by omega) (by omega), Int.fdiv_eq_ediv_of_nonneg _ (by omega)]
  have hall : (hi * 18446744073709551616 + lo - (q1 * 4294967296 + q0) * y) * 2 ^ s = r0 := by
    rw [Int.sub_mul, ← hN, Int.mul_assoc, ← hYd, Int.add_mul, Int.mul_right_comm]; omega
  have hz0 : 0 ≤ hi * 18446744073709551616 + lo - (q1 * 4294967296 + q0) * y := by
    rcases Int.lt_or_le (hi * 18446744073709551616 + lo - (q1 * 4294967296 + q0) * y) 0 with h | h
    · have := Int.mul_neg_of_neg_of_pos h hp; omega
    · exact h
  have hz1 : hi * 18446744073709551616 + lo - (q1 * 4294967296 + q0) * y < y := by
    refine Int.lt_of_mul_lt_mul_right (a := 2 ^ s) ?_ (by omega)
    rw [hall, ← hYd]; exact hR0b
  have hr0 : r0 / 2 ^ s = hi * 18446744073709551616 + lo - (q1 * 4294967296 + q0) * y := by
    rw [← hall]; exact Int.mul_ediv_cancel _ (by omega)
  have hdm : (hi * 18446744073709551616 + lo) / y = q1 * 4294967296 + q0 ∧ (hi * 18446744073709551616 + lo) % y = hi * 18446744073709551616 + lo - (q1 * 4294967296 + q0) * y :=
    (Int.ediv_emod_unique (by omega)).2 ⟨by rw [Int.mul_comm y]; omega, hz0, hz1⟩
  rw [hr0, hdm.1, hdm.2]
end Px
end
section
namespace Px
open Go
set_option linter.unusedVariables false
set_option linter.unusedSimpArgs false
set_option maxRecDepth 100000
def PP : Nat := 2305843009213690799
def QQ : Nat := 1152921504606845399
/-- A power modulo the prime. -/
def pw (b n : Nat) : Nat := b ^ n % PP
theorem zqi (b n : Nat) : pw b n < PP := Nat.mod_lt _ (by decide)
theorem znd (b : Nat) : pw b 0 = 1 := by simp [pw, PP]
theorem zvx (b m n : Nat) : pw b m * pw b n % PP = pw b (m + n) := by
  unfold pw; rw [Nat.pow_add, ← Nat.mul_mod]
theorem y0c (b : Nat) : pw b 1 = b % PP := by simp [pw]
theorem y4s {a : Nat} (h : a < PP) : ((a : Int)).tmod 2305843009213690799 = (a : Int) := by
  unfold PP at h
  rw [Int.tmod_eq_emod_of_nonneg (by omega)]; omega
theorem y57 (b : Nat) : ((b : Int)).tmod 2305843009213690799 = ((b % PP : Nat) : Int) := by
  rw [Int.tmod_eq_emod_of_nonneg (by omega)]; unfold PP; omega
theorem zwa {ρ : Type} {a b : Nat} (ha : a < PP) (hb : b < PP) (φ : Nat) (hφ : 5 < φ) (K : Int → Option ρ) : ((z6v φ (a : Int) (b : Int)).bind fun y => (z5j φ y.1 y.2.1 2305843009213690799).bind fun z => K z.2.1) = K ((a * b % PP : Nat) : Int) := by
  have ha' : (a : Int) < 2305843009213690799 := by unfold PP at ha; omega
  have hb' : (b : Int) < 2305843009213690799 := by unfold PP at hb; omega
  have hp := ziw (by omega : 0 ≤ (a : Int)) (by omega : 0 ≤ (b : Int)) (by omega : (a : Int) ≤ 2305843009213690798) (by omega : (b : Int) ≤ 2305843009213690798)
  rw [y03 φ _ _ (by omega) (by omega) (by omega) (by omega), Option.bind_some]
  generalize hz : (a : Int) * (b : Int) = z at *
  show (z5j φ (z / 18446744073709551616) (z % 18446744073709551616) 2305843009213690799).bind _ = _
  rw [zy9 φ hφ _ _ _ (by omega) (by omega) (by omega) (by omega) (by omega), Option.bind_some]
  congr 1
  have : z / 18446744073709551616 * 18446744073709551616 + z % 18446744073709551616 = z := by omega
  show (z / 18446744073709551616 * 18446744073709551616 + z % 18446744073709551616) % 2305843009213690799 = _
  rw [this, ← hz, Int.natCast_emod, Int.natCast_mul]; rfl
theorem z6n.uniq {v m n : Nat} (hv : 0 < v) (h : z6n v m) (k : z6n v n) : m = n := by
  obtain ⟨h1, h2⟩ := h
  obtain ⟨k1, k2⟩ := k
  obtain ⟨h3, h4⟩ := h2 hv
  obtain ⟨k3, k4⟩ := k2 hv
  have a : m - 1 < n := (Nat.pow_lt_pow_iff_right (by decide : 1 < 2)).1 (Nat.lt_of_le_of_lt h4 k1)
  have b : n - 1 < m := (Nat.pow_lt_pow_iff_right (by decide : 1 < 2)).1 (Nat.lt_of_le_of_lt k4 h1)
  omega
section first
variable (φ : Nat) (b n a p : Int)
theorem zvl (v w : Int) (h : 0 ≤ v) (h' : v < 256) (hw : 0 ≤ w) (hw' : w ≤ 64) : ∃ m : Nat, z80 φ v w b n a p = z05 φ φ b n a (w + m) 0 p ∧ m ≤ 8 ∧ z6n v.toNat m := by
  obtain ⟨m, e, hm, x, y⟩ := zk0 h h'
  have e8 : IntKind.wrap .u8 v = v := by simp [IntKind.wrap, IntKind.bits, IntKind.signed]; omega
  refine ⟨m, ?_, hm, x, fun hv => y (by omega)⟩
  unfold z80
  rw [e8, z2 ⟨h, h'⟩, e, W_id (x := (m : Int)) (by omega) (by omega), W_id (x := w + m) (by omega) (by omega)]
theorem zwf (v w : Int) (h : 0 ≤ v) (h' : v < 65536) (hw : 0 ≤ w) (hw' : w ≤ 48) : ∃ m : Nat, z7x φ v w b n a p = z05 φ φ b n a (w + m) 0 p ∧ m ≤ 16 ∧ z6n v.toNat m := by
  unfold z7x
  by_cases c : 256 ≤ v
  · rw [if_pos (by simpa using c), if_pos (by decide), sh8, W_id (by omega) (by omega)]
    obtain ⟨m, e, hn, hl⟩ := zvl φ b n a p (v / 256) (w + 8) (by omega) (by omega) (by omega) (by omega)
    refine ⟨m + 8, by rw [e]; congr 1; omega, by omega, ?_⟩
    refine z6n.up 8 ?_ (by omega)
    rwa [show v.toNat / 2 ^ 8 = (v / 256).toNat by omega]
  · rw [if_neg (by simpa using c)]
    obtain ⟨m, e, hn, hl⟩ := zvl φ b n a p v w h (by omega) (by omega) (by omega)
    exact ⟨m, e, by omega, hl⟩
theorem y0w (v w : Int) (h : 0 ≤ v) (h' : v < 4294967296) (hw : 0 ≤ w) (hw' : w ≤ 32) : ∃ m : Nat, z9j φ v w b n a p = z05 φ φ b n a (w + m) 0 p ∧ m ≤ 32 ∧ z6n v.toNat m := by
  unfold z9j
  by_cases c : 65536 ≤ v
  · rw [if_pos (by simpa using c), if_pos (by decide), sh16, W_id (by omega) (by omega)]
    obtain ⟨m, e, hn, hl⟩ := zwf φ b n a p (v / 65536) (w + 16) (by omega) (by omega) (by omega) (by omega)
    refine ⟨m + 16, by rw [e]; congr 1; omega, by omega, ?_⟩
    refine z6n.up 16 ?_ (by omega)
    rwa [show v.toNat / 2 ^ 16 = (v / 65536).toNat by omega]
  · rw [if_neg (by simpa using c)]
    obtain ⟨m, e, hn, hl⟩ := zwf φ b n a p v w h (by omega) (by omega) (by omega)
    exact ⟨m, e, by omega, hl⟩
end first
/-- A step of the loop, once the length is known. -/
def zgv (φ : Nat) (k : Int → Int → Int → Int → Int → Int → Option (Int × Unit)) (L x57 x58 x59 x60 x61 x62 x63 x64 : Int) : Option (Int × Unit) :=
  ck (0 ≤ (W ((W (L - 1)) - x60))) (if (((U ((BitVec.ofInt 64 ((x63 : Int).fdiv (2 ^ (min ((W ((W (L - 1)) - x60)) : Int).toNat 64))) &&& BitVec.ofInt 64 1).toNat)) : Int) == 1) = true then (ck (x64 ≠ 0) (ck (x64 ≠ 0) ((z6v φ ((x59 : Int).tmod x64) ((x57 : Int).tmod x64)).bind fun y66 => ((z5j φ y66.1 y66.2.1 x64).bind fun y67 => (k x57 x58 y67.2.1 x61 (W (x62 + 1)) x64))))) else (k x57 x58 x59 x61 (W (x62 + 1)) x64))
section second
variable (φ : Nat) (k : Int → Int → Int → Int → Int → Int → Option (Int × Unit)) (x57 x58 x59 x60 x61 x62 x63 x64 : Int)
theorem zw5 (v w : Int) (h : 0 ≤ v) (h' : v < 256) (hw : 0 ≤ w) (hw' : w ≤ 64) : ∃ m : Nat, z7w φ k v w x57 x58 x59 x60 x61 x62 x63 x64 = zgv φ k (w + m) x57 x58 x59 x60 x61 x62 x63 x64 ∧ m ≤ 8 ∧ z6n v.toNat m := by
  obtain ⟨m, e, hm, x, y⟩ := zk0 h h'
  have e8 : IntKind.wrap .u8 v = v := by simp [IntKind.wrap, IntKind.bits, IntKind.signed]; omega
  refine ⟨m, ?_, hm, x, fun hv => y (by omega)⟩
  unfold z7w zgv
  rw [e8, z2 ⟨h, h'⟩, e, W_id (x := (m : Int)) (by omega) (by omega), W_id (x := w + m) (by omega) (by omega)]
theorem zvv (v w : Int) (h : 0 ≤ v) (h' : v < 65536) (hw : 0 ≤ w) (hw' : w ≤ 48) : ∃ m : Nat, z7u φ k v w x57 x58 x59 x60 x61 x62 x63 x64 = zgv φ k (w + m) x57 x58 x59 x60 x61 x62 x63 x64 ∧ m ≤ 16 ∧ z6n v.toNat m := by
  unfold z7u
  by_cases c : 256 ≤ v
  · rw [if_pos (by simpa using c), if_pos (by decide), sh8, W_id (by omega) (by omega)]
    obtain ⟨m, e, hn, hl⟩ := zw5 φ k x57 x58 x59 x60 x61 x62 x63 x64 (v / 256) (w + 8) (by omega) (by omega) (by omega) (by omega)
    refine ⟨m + 8, by rw [e]; congr 1; omega, by omega, ?_⟩
    refine z6n.up 8 ?_ (by omega)
    rwa [show v.toNat / 2 ^ 8 = (v / 256).toNat by omega]
  · rw [if_neg (by simpa using c)]
    obtain ⟨m, e, hn, hl⟩ := zw5 φ k x57 x58 x59 x60 x61 x62 x63 x64 v w h (by omega) (by omega) (by omega)
    exact ⟨m, e, by omega, hl⟩
theorem zwp (v w : Int) (h : 0 ≤ v) (h' : v < 4294967296) (hw : 0 ≤ w) (hw' : w ≤ 32) : ∃ m : Nat, z2e φ k v w x57 x58 x59 x60 x61 x62 x63 x64 = zgv φ k (w + m) x57 x58 x59 x60 x61 x62 x63 x64 ∧ m ≤ 32 ∧ z6n v.toNat m := by
  unfold z2e
  by_cases c : 65536 ≤ v
  · rw [if_pos (by simpa using c), if_pos (by decide), sh16, W_id (by omega) (by omega)]
    obtain ⟨m, e, hn, hl⟩ := zvv φ k x57 x58 x59 x60 x61 x62 x63 x64 (v / 65536) (w + 16) (by omega) (by omega) (by omega) (by omega)
    refine ⟨m + 16, by rw [e]; congr 1; omega, by omega, ?_⟩
    refine z6n.up 16 ?_ (by omega)
    rwa [show v.toNat / 2 ^ 16 = (v / 65536).toNat by omega]
  · rw [if_neg (by simpa using c)]
    obtain ⟨m, e, hn, hl⟩ := zvv φ k x57 x58 x59 x60 x61 x62 x63 x64 v w h (by omega) (by omega) (by omega)
    exact ⟨m, e, by omega, hl⟩
theorem y46 (v : Int) (h : 0 ≤ v) (h' : v < 18446744073709551616) : ∃ m : Nat, (if (decide ((4294967296 : Int) ≤ v)) = true then (if 0 ≤ (32 : Int) then (z2e φ k (((v : Int).fdiv (2 ^ (min (32 : Int).toNat 64)))) 32 x57 x58 x59 x60 x61 x62 x63 x64) else none) else (z2e φ k v 0 x57 x58 x59 x60 x61 x62 x63 x64)) =
    zgv φ k m x57 x58 x59 x60 x61 x62 x63 x64 ∧ m ≤ 64 ∧ z6n v.toNat m := by
  by_cases c : 4294967296 ≤ v
  · rw [if_pos (by simpa using c), if_pos (by decide), sh32]
    obtain ⟨m, e, hn, hl⟩ := zwp φ k x57 x58 x59 x60 x61 x62 x63 x64 (v / 4294967296) 32 (by omega) (by omega) (by omega) (by omega)
    refine ⟨m + 32, by rw [e]; congr 1; omega, by omega, ?_⟩
    refine z6n.up 32 ?_ (by omega)
    rwa [show v.toNat / 2 ^ 32 = (v / 4294967296).toNat by omega]
  · rw [if_neg (by simpa using c)]
    obtain ⟨m, e, hn, hl⟩ := zwp φ k x57 x58 x59 x60 x61 x62 x63 x64 v 0 h (by omega) (by omega) (by omega)
    exact ⟨m, by rw [e]; simp, by omega, hl⟩
end second
theorem zqq (φ : Nat) (hφ : 100 < φ) (b n : Nat) (hn0 : 0 < n) (hn : n < 18446744073709551616) : zfx φ (b : Int) (n : Int) = some (((pw b n : Nat) : Int), ()) := by
  have hstart : ∃ L : Nat, zfx φ (b : Int) (n : Int) = z05 φ φ b n 1 L 0 2305843009213690799 ∧ L ≤ 64 ∧ z6n n L := by
    unfold zfx
    by_cases c : (4294967296 : Int) ≤ n
    · rw [if_pos (by simpa using c), if_pos (by decide), sh32]
      obtain ⟨m, e, hm, hl⟩ := y0w φ b n 1 2305843009213690799 ((n : Int) / 4294967296) 32 (by omega) (by omega) (by omega) (by omega)
      refine ⟨m + 32, by rw [e]; congr 1; omega, by omega, ?_⟩
      refine z6n.up 32 ?_ (by omega)
      rwa [show n / 2 ^ 32 = ((n : Int) / 4294967296).toNat by omega]
    · rw [if_neg (by simpa using c)]
      obtain ⟨m, e, hm, hl⟩ := y0w φ b n 1 2305843009213690799 (n : Int) 0 (by omega) (by omega) (by omega) (by omega)
      exact ⟨m, by rw [e]; simp, by omega, by rwa [Int.toNat_natCast] at hl⟩
  obtain ⟨L, e0, hL, hlen⟩ := hstart
  rw [e0]
  obtain ⟨h1, h2⟩ := hlen
  refine z01 (fun k i v => z05 φ k (b : Int) (n : Int) v (L : Int) i 2305843009213690799) L (fun i v => v = ((pw b (n / 2 ^ (L - i)) : Nat) : Int)) (fun o => o = some (((pw b n : Nat) : Int), ())) ?_ ?_ φ 1 ?_ (by omega)
  · intro k i v hi hv hs
    rw [z05, if_pos (by simp; omega), z2 (by decide), z2 (by decide)]
    subst hv
    rw [y4s (zqi _ _)]
    refine (zwa (zqi _ _) (zqi _ _) φ (by omega) (fun z => (if (decide ((4294967296 : Int) ≤ (n : Int))) = true then (if 0 ≤ (32 : Int) then (z2e φ (z05 φ k) ((((n : Int) : Int).fdiv (2 ^ (min (32 : Int).toNat 64)))) 32 b n z i L i n 2305843009213690799) else none) else (z2e φ (z05 φ k) n 0 b n z i L i n 2305843009213690799)))).trans ?_
    rw [zvx]
    obtain ⟨m, em, hm, hl⟩ := y46 φ (z05 φ k) b n ((pw b (n / 2 ^ (L - i) + n / 2 ^ (L - i)) : Nat) : Int) i L i n 2305843009213690799 (n : Int) (by omega) (by omega)
    refine em.trans ?_
    rw [Int.toNat_natCast] at hl
    have := z6n.uniq hn0 hl ⟨h1, h2⟩
    subst this
    unfold zgv
    have hw1 : W ((m : Int) - 1) = (m : Int) - 1 := W_id (by omega) (by omega)
    have hw2 : W ((m : Int) - 1 - (i : Int)) = ((m - 1 - i : Nat) : Int) := by rw [W_id (by omega) (by omega)]; omega
    rw [hw1, hw2, z2 (by omega)]
    have hsh := y5m (c := (n : Int)) (k := ((m - 1 - i : Nat) : Int)) (by omega) (by omega) (by omega)
    have hone : U ((BitVec.ofInt 64 ((n : Int).fdiv (2 ^ (min (((m - 1 - i : Nat) : Int)).toNat 64))) &&& BitVec.ofInt 64 1).toNat) = ((n / 2 ^ (m - 1 - i) % 2 : Nat) : Int) := by
      rw [show ((n : Int).fdiv (2 ^ (min (((m - 1 - i : Nat) : Int)).toNat 64))) = _ from hsh, Int.toNat_natCast, Int.toNat_natCast]
      have hd : n / 2 ^ (m - 1 - i) ≤ n := Nat.div_le_self _ _
      rw [BitVec.toNat_and, z7a (Int.natCast_nonneg _) (by omega), z7a (by omega) (by omega), y1s (y0b (by omega)), Int.toNat_natCast]
      show ((n / 2 ^ (m - 1 - i) &&& 1 : Nat) : Int) = _
      rw [Nat.and_one_is_mod]
    rw [hone]
    have hhalf : n / 2 ^ (m - i) = n / 2 ^ (m - 1 - i) / 2 := by
      rw [Nat.div_div_eq_div_mul, ← Nat.pow_succ]; congr 2; omega
    have hidx : m - (i + 1) = m - 1 - i := by omega
    have hW : W ((i : Int) + 1) = (i : Int) + 1 := W_id (by omega) (by omega)
    have hbit := Nat.mod_two_eq_zero_or_one (n / 2 ^ (m - 1 - i))
    rcases hbit with hbit | hbit
    · rw [hbit, if_neg (by simp), hW]
      refine hs _ ?_
      rw [hidx, hhalf]; congr 2; omega
    · rw [hbit, if_pos (by simp), y4s (zqi _ _), y57, z2 (by decide), z2 (by decide), hW]
      refine (zwa (zqi _ _) (Nat.mod_lt b (by decide : 0 < PP)) φ (by omega) (fun z => z05 φ k b n z m ((i : Int) + 1) 2305843009213690799)).trans ?_
      refine hs _ ?_
      rw [← y0c b, zvx, hidx, hhalf]; congr 2; omega
  · intro k v hv
    rw [z05, if_neg (by simp), hv]
    rw [Nat.sub_self, Nat.pow_zero, Nat.div_one]
  · rw [Nat.sub_zero, Nat.div_eq_of_lt h1, znd]; rfl
/-- What Valid answers. -/
def zth (x : Int) : Bool := decide (2 ≤ x) && decide (x < 2305843009213690799) && (pw x.toNat QQ == 1)
theorem zjh (a : Nat) : (((a : Nat) : Int) == 1) = (a == 1) := by
  rw [Bool.eq_iff_iff, beq_iff_eq, beq_iff_eq]; omega
theorem zn0 (φ : Nat) (hφ : 100 < φ) (x : Int) : zdh φ x = some (zth x, ()) := by
  unfold zdh zth zp
  cases h : decide (2 ≤ x) && decide (x < 2305843009213690799) with
  | false => rw [if_neg (by simp), Option.bind_some]; simp only [Bool.false_and]
  | true =>
    simp only [Bool.and_eq_true, decide_eq_true_eq] at h
    have := zqq φ hφ x.toNat QQ (by decide) (by decide)
    rw [show ((x.toNat : Nat) : Int) = x by omega, show ((QQ : Nat) : Int) = 1152921504606845399 by decide] at this
    rw [if_pos rfl, this, Option.bind_some, Bool.true_and, Bool.true_and]
    show some ((((pw x.toNat QQ : Nat) : Int) == 1), ()) = _
    rw [zjh]
end Px
end
section
namespace Px
open Go
set_option linter.unusedVariables false
set_option linter.unusedSimpArgs false
theorem gz_t {α : Type} {z : α} {p : Prop} [Decidable p] {x : Option α} (h : p) : zp z p x = x := if_pos h
theorem gz_f {α : Type} {z : α} {p : Prop} [Decidable p] {x : Option α} (h : ¬ p) : zp z p x = some z := if_neg h
def z7h (p : z5m) : Bool := bet p.kind 1 5 && bet p.railway 0 15 && (bif p.kind == 3 then bet p.other 0 15 && (p.other != p.railway) else p.other == (-1))
def z8e (n : Int) (e : Edge) : Bool := bet e.a 0 (n - 1) && bet e.b 0 (n - 1) && (e.a != e.b) && bet e.railway 0 15 && bet e.minutes 1 100000 && bet e.km 0 10000
def z81 (x : z7) : Int := bif decide (512 < x.places.length) || decide (2048 < x.edges.length) then 2 else bif x.places.all z7h && x.edges.all (z8e x.places.length) then 0 else 1
theorem zhn (φ : Nat) (p : z5m) : z8l φ p = some (z7h p, ()) := by
  have hb : (((decide (p.kind < 1) || decide (5 < p.kind)) || decide (p.railway < 0)) || decide (16 ≤ p.railway)) = !(bet p.kind 1 5 && bet p.railway 0 15) := by
    rw [Bool.eq_iff_iff]; simp [bet]; omega
  unfold z8l z7h
  rw [hb]
  cases bet p.kind 1 5 && bet p.railway 0 15 with
  | false => rfl
  | true =>
    rw [if_neg (by simp)]
    by_cases h : p.kind = 3
    · have : (decide (0 ≤ p.other) && decide (p.other < 16)) = bet p.other 0 15 := by rw [Bool.eq_iff_iff]; simp [bet]; omega
      rw [if_neg (by simp [h]), this]; simp [h]
    · have h2 : (p.kind == 3) = false := by simpa using h
      rw [if_pos (by simp [h]), h2]; rfl
theorem zvk (n : Int) (e : Edge) : ((((((decide ((min2 (min2 (min2 (e.a) (e.b)) (e.railway)) (e.km)) < 0) || decide (n ≤ (max2 (e.a) (e.b)))) || (e.a == e.b)) || decide (16 ≤ e.railway)) || decide (e.minutes < 1)) || decide (100000 < e.minutes)) || decide (10000 < e.km)) = !z8e n e := by
  have hm : ∀ x y z : Int, z ≤ max2 x y ↔ z ≤ x ∨ z ≤ y := by intro x y z; unfold max2; split <;> omega
  have hok : z8e n e = true ↔ ((((((0 ≤ e.a ∧ e.a ≤ n - 1) ∧ 0 ≤ e.b ∧ e.b ≤ n - 1) ∧ ¬ e.a = e.b) ∧ 0 ≤ e.railway ∧ e.railway ≤ 15) ∧ 1 ≤ e.minutes ∧ e.minutes ≤ 100000) ∧ 0 ≤ e.km ∧ e.km ≤ 10000) := by
    simp only [z8e, Bool.and_eq_true, zqd, bne_iff_ne, ne_eq]
  rw [Bool.eq_iff_iff, Bool.not_eq_true', ← Bool.not_eq_true, hok]
  simp only [Bool.or_eq_true, decide_eq_true_eq, y2g, hm, beq_iff_eq]
  omega
theorem zt3 (x : z7) : (decide (512 < (x.places.length : Int)) || decide (2048 < (x.edges.length : Int))) = (decide (512 < x.places.length) || decide (2048 < x.edges.length)) := by
  congr 1 <;> (apply decide_eq_decide.2; omega)
theorem zc8 (φ : Nat) (hφ : 5000 < φ) (x : z7) : z2y φ x = some (z81 x, ()) := by
  unfold z2y z81
  rw [zt3]
  cases h : decide (512 < x.places.length) || decide (2048 < x.edges.length) with
  | true => rfl
  | false =>
    simp only [Bool.or_eq_false_iff, decide_eq_false_iff_not, Nat.not_lt] at h
    rw [if_neg (by simp), z3y (fun n i => z2c φ n (x.places.length : Int) x.places (x.places.length : Int) i x) (z10 φ φ (x.places.length : Int) x.edges (x.edges.length : Int) 0) (some (1, ())) x.places (fun t => !z7h t) ?_ ?_ φ (by omega)]
    · rw [z3y (fun n i => z10 φ n (x.places.length : Int) x.edges (x.edges.length : Int) i) (some (0, ())) (some (1, ())) x.edges (fun t => !z8e x.places.length t) ?_ ?_ φ (by omega)]
      · simp only [List.any_eq_not_all_not, Bool.not_not]
        cases x.places.all z7h <;> cases x.edges.all (z8e x.places.length) <;> rfl
      · intro n i hi
        rw [z10, if_pos (by simp; omega), z2 ⟨by omega, by omega⟩, zvk, W_id (by omega) (by omega)]
        cases z8e x.places.length (gt x.edges i) <;> rfl
      · intro n; rw [z10, if_neg (by simp)]
    · intro n i hi
      rw [z2c, if_pos (by simp; omega), z2 ⟨by omega, by omega⟩, zhn, Option.bind_some, W_id (by omega) (by omega)]
      cases z7h (gt x.places i) <;> rfl
    · intro n; rw [z2c, if_neg (by simp)]
theorem zfl {x : z7} (h : z81 x = 0) : x.places.length ≤ 512 ∧ x.edges.length ≤ 2048 ∧ (∀ p ∈ x.places, z7h p = true) ∧ ∀ e ∈ x.edges, z8e x.places.length e = true := by
  unfold z81 at h
  cases h1 : decide (512 < x.places.length) || decide (2048 < x.edges.length) with
  | true => rw [h1] at h; cases h
  | false =>
    rw [h1] at h
    cases h2 : x.places.all z7h && x.edges.all (z8e x.places.length) with
    | false => rw [h2] at h; cases h
    | true =>
      simp only [Bool.or_eq_false_iff, decide_eq_false_iff_not, Nat.not_lt] at h1
      simp only [Bool.and_eq_true, List.all_eq_true] at h2
      exact ⟨h1.1, h1.2, h2⟩
/-- What Check says of a calendar. -/
def zo1 : Int → List Int → Bool
  | _, [] => true
  | p, h :: t => decide (p < h) && decide (h ≤ 745654) && zo1 h t
def zft (s : Span) : Bool := decide (0 ≤ s.from_) && decide (s.from_ ≤ s.to) && decide (s.to ≤ 1440)
def zgu (c : z35) : Bool := ((List.range 7).all fun i => zft (c.open_ i)) && zo1 (-1) c.holidays
theorem y1t (φ : Nat) (c : z35) : ∀ (n i : Nat) (p : Int), -1 ≤ p → (i : Int) ≤ p + 1 → p ≤ 745654 → i ≤ c.holidays.length → 745656 ≤ (n : Int) + p → z1j φ n p c.holidays (c.holidays.length : Int) i = some (bif zo1 p (c.holidays.drop i) then 0 else 1, ()) := by
  intro n
  induction n with
  | zero => intro i p _ _ _ _ _; omega
  | succ n ih =>
    intro i p hp hip hp2 hi hn
    by_cases h : i = c.holidays.length
    · rw [h, z1j, if_neg (by simp), List.drop_length]; rfl
    · rw [z1j, if_pos (by simp; omega), z2 ⟨by omega, by omega⟩, zrm _ _ (by omega)]
      by_cases hb : gt c.holidays i ≤ p ∨ 745654 < gt c.holidays i
      · have : (decide (p < gt c.holidays i) && decide (gt c.holidays i ≤ 745654)) = false := by simp; omega
        rw [if_pos (by simpa using hb)]
        simp [zo1, this]
      · have h2 : (decide (p < gt c.holidays i) && decide (gt c.holidays i ≤ 745654)) = true := by simp; omega
        rw [if_neg (by simpa using hb), W_id (by omega) (by omega)]
        have := ih (i + 1) (gt c.holidays i) (by omega) (by omega) (by omega) (by omega) (by omega)
        rw [show ((i + 1 : Nat) : Int) = (i : Int) + 1 by omega] at this
        rw [this]
        simp [zo1, h2]
theorem zfc (s : Span) : ((decide (s.from_ < 0) || decide (s.to < s.from_)) || decide (1440 < s.to)) = !zft s := by
  rw [Bool.eq_iff_iff]; simp [zft]
  try omega
theorem zgr (φ : Nat) (hφ : 800000 < φ) (c : z35) : z7r φ c = some (bif zgu c then 0 else 1, ()) := by
  unfold z7r
  refine z01 (fun n i (_ : Unit) => z1x φ n c.open_ i c) 7 (fun i _ => ((List.range i).all fun j => zft (c.open_ j)) = true) (fun o => o = some (bif zgu c then 0 else 1, ())) ?_ ?_ φ () (by simp) (by omega)
  · intro n i _ hi h hs
    rw [z1x, if_pos (by simp; omega), z2 ⟨by omega, by omega⟩, Int.toNat_natCast, zfc, W_id (by omega) (by omega)]
    cases ho : zft (c.open_ i) with
    | true =>
      rw [if_neg (by simp)]
      exact hs () (by rw [z7q, h, ho]; rfl)
    | false =>
      have : zgu c = false := by
        unfold zgu
        have : ((List.range 7).all fun j => zft (c.open_ j)) = false := by
          rw [List.all_eq_false]; exact ⟨i, by simp; omega, by simp [ho]⟩
        rw [this]; rfl
      rw [if_pos (by simp), this]; rfl
  · intro n _ h
    rw [z1x, if_neg (by simp)]
    unfold zgu
    rw [h, Bool.true_and]
    have := y1t φ c φ 0 (-1) (by omega) (by omega) (by omega) (by omega) (by omega)
    simpa using this
theorem zg4 {α ρ : Type} [Inhabited α] (L : Nat → Bool → Int → Option ρ) (k : Bool → Option ρ) (l : List α) (p : α → Bool)
    (step : ∀ (n i : Nat) (s : Bool), i < l.length → L (n + 1) s i = L n (s || p (gt l i)) ((i : Int) + 1)) (done : ∀ n s, L (n + 1) s l.length = k s) (n : Nat) (s : Bool) (hn : l.length < n) : L n s 0 = k (s || l.any p) := by
  refine z01 (fun n i t => L n t i) l.length (fun i t => t = (s || (l.take i).any p)) (fun o => o = k (s || l.any p)) ?_ ?_ n s (by simp) hn
  · intro n i t hi ht hs
    rw [step n i t hi]
    exact hs _ (by rw [zbl _ _ _ hi, ht, Bool.or_assoc])
  · intro n t ht
    rw [List.take_length] at ht
    rw [done, ht]
def z4y (n : Int) (r : z7z) : Bool := (((!bet r.place 0 (n - 1)) || decide (r.low < (-1000))) || decide (r.high < r.low)) || decide (1000 < r.high)
def z4e (x : z7) (s : zaw) : Bool := (!bet s.place 0 ((x.places.length : Int) - 1)) || ((gt x.places s.place).kind != 4)
def zep (r : z33) : Bool := !zgu r.calendar || !zth r.key
def ze4 (x : Pool) : Bool :=
  ((((((x.railways.length : Int) == 0) || x.readers.any (z4y x.network.places.length)) || x.shippers.any (z4e x.network)) || x.fleet.wagons.any (fun w => decide ((x.network.places.length : Int) ≤ w.home))) ||
  x.network.places.any (fun p => decide ((x.railways.length : Int) ≤ p.railway) || decide ((x.railways.length : Int) ≤ p.other))) || x.network.edges.any (fun e => decide ((x.railways.length : Int) ≤ e.railway)) || x.railways.any zep
def zbd (x : Pool) : Bool := (decide (256 < (x.readers.length : Int)) || decide (256 < (x.shippers.length : Int))) || decide (16 < (x.railways.length : Int))
/-- What CheckPool answers. -/
def z1s (x : Pool) : Int := if z81 x.network ≠ 0 then z81 x.network else if z31 x.fleet ≠ 0 then z31 x.fleet else bif zbd x then 2 else bif ze4 x then 1 else 0
theorem z5v (φ : Nat) (hφ : 800000 < φ) (x : Pool) : z1z φ x = some (z1s x, ()) := by
  unfold z1z z1s
  rw [zc8 _ (by omega), Option.bind_some]
  by_cases hn : z81 x.network = 0
  case neg => rw [if_pos (by simp [hn]), if_pos hn]
  rw [if_neg (by simp [hn]), if_neg (fun e : z81 x.network ≠ 0 => e hn), zkn _ (by omega), Option.bind_some]
  by_cases hf : z31 x.fleet = 0
  case neg => rw [if_pos (by simp [hf]), if_pos hf]
  rw [if_neg (by simp [hf]), if_neg (fun e : z31 x.fleet ≠ 0 => e hf)]
  cases hb : zbd x with
  | true =>
    have e : (((decide (256 < (x.readers.length : Int)) || decide (256 < (x.shippers.length : Int))) || decide (16 < (x.railways.length : Int)))) = zbd x := rfl
    rw [e, hb]; rfl
  | false =>
    have hb' : ¬ (((decide (256 < (x.readers.length : Int)) || decide (256 < (x.shippers.length : Int))) || decide (16 < (x.railways.length : Int))) = true) := by
      rw [show (((decide (256 < (x.readers.length : Int)) || decide (256 < (x.shippers.length : Int))) || decide (16 < (x.railways.length : Int)))) = zbd x from rfl, hb]; simp
    rw [if_neg hb']
    simp only [Bool.or_eq_true, decide_eq_true_eq, not_or] at hb'
    obtain ⟨n1, n2, _, _⟩ := zfl hn
    obtain ⟨f1, f2, _⟩ := z37 hf
    have hp : W ((x.network.places.length : Int) - 1) = (x.network.places.length : Int) - 1 := W_id (by omega) (by omega)
    have a1 := zg4 (fun n s i => z12 φ n x.network.places (x.railways.length : Int) s x.readers (x.readers.length : Int) i x) (fun s => z0m φ φ x.network.places (x.railways.length : Int) s x.shippers (x.shippers.length : Int) 0 x) x.readers (z4y x.network.places.length) (fun n i s hi => by
      rw [z12, if_pos (by simp; omega), z2 ⟨by omega, by omega⟩, hp, W_id (by omega) (by omega)]
      unfold z4y
      cases s with
      | true => rw [gz_f (by simp)]; rfl
      | false => rw [gz_t rfl]; rfl) (fun n s => by rw [z12, if_neg (by simp)]) φ ((x.railways.length : Int) == 0) (by omega)
    refine a1.trans ?_
    have a2 := fun s0 => zg4 (fun n s i => z0m φ n x.network.places (x.railways.length : Int) s x.shippers (x.shippers.length : Int) i x) (fun s => z0k φ φ x.network.places (x.railways.length : Int) s x.fleet.wagons (x.fleet.wagons.length : Int) 0 x) x.shippers (z4e x.network) (fun n i s hi => by
      rw [z0m, if_pos (by simp; omega), z2 ⟨by omega, by omega⟩, hp, W_id (by omega) (by omega)]
      unfold z4e
      cases s with
      | true => rw [gz_f (by simp), Option.bind_some, z2 (by simp)]; rfl
      | false =>
        rw [gz_t rfl, z2a, Option.bind_some]
        cases hbt : bet (gt x.shippers i).place 0 ((x.network.places.length : Int) - 1) with
        | true => rw [z2 (fun _ => by have := zog hbt; omega)]; rfl
        | false => rw [z2 (by simp)]; rfl) (fun n s => by rw [z0m, if_neg (by simp)]) φ s0 (by omega)
    refine (a2 _).trans ?_
    have a3 := fun s0 => zg4 (fun n s i => z0k φ n x.network.places (x.railways.length : Int) s x.fleet.wagons (x.fleet.wagons.length : Int) i x) (fun s => z0l φ φ (x.railways.length : Int) s x.network.places (x.network.places.length : Int) 0 x) x.fleet.wagons (fun w => decide ((x.network.places.length : Int) ≤ w.home)) (fun n i s hi => by
      rw [z0k, if_pos (by simp; omega), z2 ⟨by omega, by omega⟩, W_id (by omega) (by omega)]) (fun n s => by rw [z0k, if_neg (by simp)]) φ s0 (by omega)
    refine (a3 _).trans ?_
    have a4 := fun s0 => zg4 (fun n s i => z0l φ n (x.railways.length : Int) s x.network.places (x.network.places.length : Int) i x) (fun s => z0p φ φ (x.railways.length : Int) s x.network.edges (x.network.edges.length : Int) 0 x) x.network.places (fun p => decide ((x.railways.length : Int) ≤ p.railway) || decide ((x.railways.length : Int) ≤ p.other)) (fun n i s hi => by
      rw [z0l, if_pos (by simp; omega), z2 ⟨by omega, by omega⟩, W_id (by omega) (by omega), Bool.or_assoc]) (fun n s => by rw [z0l, if_neg (by simp)]) φ s0 (by omega)
    refine (a4 _).trans ?_
    have a5 := fun s0 => zg4 (fun n s i => z0p φ n (x.railways.length : Int) s x.network.edges (x.network.edges.length : Int) i x) (fun s => z0o φ φ s x.railways (x.railways.length : Int) 0) x.network.edges (fun e => decide ((x.railways.length : Int) ≤ e.railway)) (fun n i s hi => by
      rw [z0p, if_pos (by simp; omega), z2 ⟨by omega, by omega⟩, W_id (by omega) (by omega)]) (fun n s => by rw [z0p, if_neg (by simp)]) φ s0 (by omega)
    refine (a5 _).trans ?_
    have a6 := fun s0 => zg4 (fun n s i => z0o φ n s x.railways (x.railways.length : Int) i) (fun s => if s = true then some (1, ()) else some (0, ())) x.railways zep (fun n i s hi => by
      rw [z0o, if_pos (by simp; omega), z2 ⟨by omega, by omega⟩, W_id (by omega) (by omega)]
      unfold zep
      cases s with
      | true => rw [gz_f (by simp), Option.bind_some, gz_f (by simp)]; rfl
      | false =>
        rw [gz_t rfl, zgr _ hφ, Option.bind_some]
        cases zgu (gt x.railways i).calendar with
        | false => rw [gz_f (by simp)]; rfl
        | true => rw [gz_t (by simp), zn0 _ (by omega)]; rfl) (fun n s => by rw [z0o, if_neg (by simp)]) φ s0 (by omega)
    refine (a6 _).trans ?_
    show (if ze4 x = true then some ((1 : Int), ()) else some (0, ())) = _
    cases ze4 x <;> rfl
/-- What a valid pool is. -/
theorem z6w {p : Pool} (h : z1s p = 0) : z81 p.network = 0 ∧ z31 p.fleet = 0 ∧ p.readers.length ≤ 256 ∧ p.shippers.length ≤ 256 ∧ p.railways.length ≤ 16 ∧ ze4 p = false := by
  unfold z1s at h
  by_cases hn : z81 p.network = 0
  case neg => rw [if_pos hn] at h; exact absurd h hn
  rw [if_neg (fun e : z81 p.network ≠ 0 => e hn)] at h
  by_cases hf : z31 p.fleet = 0
  case neg => rw [if_pos hf] at h; exact absurd h hf
  rw [if_neg (fun e : z31 p.fleet ≠ 0 => e hf)] at h
  cases hb : zbd p with
  | true => rw [hb] at h; cases h
  | false =>
    rw [hb] at h
    cases hd : ze4 p with
    | true => rw [hd] at h; cases h
    | false =>
      simp only [zbd, Bool.or_eq_false_iff, decide_eq_false_iff_not] at hb
      exact ⟨hn, hf, by omega, by omega, by omega, rfl⟩
theorem ztw {p : Pool} (h : z1s p = 0) : (∀ r ∈ p.readers, 0 ≤ r.place ∧ r.place < (p.network.places.length : Int) ∧ -1000 ≤ r.low ∧ r.low ≤ r.high ∧ r.high ≤ 1000) ∧
    (∀ w ∈ p.fleet.wagons, 0 ≤ w.home ∧ w.home < (p.network.places.length : Int)) ∧ (∀ e ∈ p.network.edges, e.railway < (p.railways.length : Int)) ∧ 0 < p.railways.length := by
  obtain ⟨hn, hf, h1, h2, h3, hb⟩ := z6w h
  simp only [ze4, Bool.or_eq_false_iff] at hb
  obtain ⟨⟨⟨⟨⟨⟨b0, b1⟩, b2⟩, b3⟩, b4⟩, b5⟩, b6⟩ := hb
  obtain ⟨_, _, _, _, _, hw, _, _⟩ := z37 hf
  refine ⟨fun r hr => ?_, fun w hw' => ?_, fun e he => ?_, ?_⟩
  · have := List.any_eq_false.1 b1 r hr
    simp only [z4y, Bool.not_eq_true, Bool.or_eq_false_iff, Bool.not_eq_false', decide_eq_false_iff_not] at this
    obtain ⟨⟨⟨c1, c2⟩, c3⟩, c4⟩ := this
    have := zog c1
    omega
  · have := List.any_eq_false.1 b3 w hw'
    have h3 := hw w hw'
    simp only [zae, Bool.and_eq_true] at h3
    have := zog h3.1.1.2
    simp at *
    omega
  · have := List.any_eq_false.1 b5 e he
    simp at this; omega
  · simp at b0
    exact List.length_pos_iff.2 b0
end Px
end
section
namespace Px
open Go
set_option linter.unusedVariables false
set_option linter.unusedSimpArgs false
theorem y1f {n b : Nat} (h : n ≤ 100000) (hb : b ≤ 1000) : fits n b := by
  unfold fits
  have : n * b ≤ 100000 * 1000 := Nat.mul_le_mul h hb
  omega
abbrev Ln := List ((Nat → Int) × Int)
abbrev keyP (a b : Int) : Nat → Int := upd (upd (fun _ => (default : Int)) 0 a) 1 b
abbrev lget (m : Ln) (a b : Int) : Option Int := @mget _ _ ⟨beqA 2⟩ m (keyP a b)
abbrev lset (m : Ln) (a b i : Int) : Ln := @mset _ _ ⟨beqA 2⟩ m (keyP a b) i
theorem zyh (f g : Nat → Int) : beqA 2 f g = (f 0 == g 0 && f 1 == g 1) := by
  simp [beqA, List.range_succ]
theorem y1g (a b : Int) : keyP a b 0 = a := rfl
theorem y1y (a b : Int) : keyP a b 1 = b := rfl
theorem zj1 (m : Ln) (a b i c d : Int) : lget (lset m a b i) c d = if c = a ∧ d = b then some i else lget m c d := by
  induction m with
  | nil =>
    show (bif beqA 2 (keyP c d) (keyP a b) then some i else none) = _
    rw [zyh]
    simp only [y1g, y1y]
    by_cases h : c = a ∧ d = b
    · rw [if_pos h]; simp [h]
    · rw [if_neg h]
      have : (c == a && d == b) = false := by rw [← Bool.not_eq_true]; simpa using h
      rw [this]; rfl
  | cons p m ih =>
    obtain ⟨k, v⟩ := p
    show lget (bif beqA 2 (keyP a b) k then (keyP a b, i) :: m else (k, v) :: lset m a b i) c d = _
    have e1 : lget ((k, v) :: m) c d = bif beqA 2 (keyP c d) k then some v else lget m c d := rfl
    cases h1 : beqA 2 (keyP a b) k with
    | true =>
      rw [zyh] at h1
      simp only [y1g, y1y, Bool.and_eq_true, beq_iff_eq] at h1
      show (bif beqA 2 (keyP c d) (keyP a b) then some i else lget m c d) = _
      rw [e1, zyh, zyh]
      simp only [y1g, y1y]
      by_cases h : c = a ∧ d = b
      · rw [if_pos h]; simp [h]
      · rw [if_neg h]
        have h2 : (c == a && d == b) = false := by rw [← Bool.not_eq_true]; simpa using h
        have h3 : (c == k 0 && d == k 1) = false := by rw [← h1.1, ← h1.2]; exact h2
        rw [h2, h3]; rfl
    | false =>
      show (bif beqA 2 (keyP c d) k then some v else lget (lset m a b i) c d) = _
      rw [ih, e1]
      cases h2 : beqA 2 (keyP c d) k with
      | false => rfl
      | true =>
        by_cases h : c = a ∧ d = b
        · obtain ⟨rfl, rfl⟩ := h
          rw [h1] at h2; cases h2
        · show some v = _
          rw [if_neg h]; rfl
theorem zzq {b : Bool} (h : ¬ (!b) = true) : b = true := by cases b <;> simp_all
/-- One end of a line is entered. -/
def ent1 (es : List Edge) (i a b : Int) (s : List (List Int) × Ln) : List (List Int) × Ln :=
  (if (!(lget s.2 a b).isSome) = true then z0d s.1 a (gt s.1 a ++ [b]) else s.1,
   if (!(lget s.2 a b).isSome || decide ((gt es i).minutes < (gt es ((lget s.2 a b).getD default)).minutes)) = true then lset s.2 a b i else s.2)
def entE (es : List Edge) (i : Int) (s : List (List Int) × Ln) : List (List Int) × Ln := ent1 es i (gt es i).b (gt es i).a (ent1 es i (gt es i).a (gt es i).b s)
/-- What is known while z9u are entered. -/
structure GI (es : List Edge) (P k : Nat) (s : List (List Int) × Ln) : Prop where
  len : s.1.length = P
  near : ∀ a b : Int, 0 ≤ a → a < (P : Int) → (b ∈ gt s.1 a ↔ (lget s.2 a b).isSome = true)
  line : ∀ a b i : Int, lget s.2 a b = some i → 0 ≤ i ∧ i < (k : Int) ∧ (((gt es i).a = a ∧ (gt es i).b = b) ∨ ((gt es i).a = b ∧ (gt es i).b = a))
  size : ∀ a : Int, 0 ≤ a → a < (P : Int) → (gt s.1 a).length ≤ 2 * k
structure HI (es : List Edge) (P k : Nat) (s : List (List Int) × Ln) : Prop extends GI es P k s where
  sym : ∀ a b : Int, lget s.2 a b = lget s.2 b a
theorem zzx (es : List Edge) (P : Nat) : HI es P 0 (List.replicate P (default : List Int), []) where
  len := by simp
  near := fun a b h0 h1 => by
    rw [z5l _ _ _ h0 (by omega)]
    show b ∈ ([] : List Int) ↔ _
    simp [lget, mget]
  line := fun a b i h => by simp [lget, mget] at h
  size := fun a h0 h1 => by rw [z5l _ _ _ h0 (by omega)]; simp; rfl
  sym := fun a b => rfl
/-- What one end does to what is known; j: how far the numbers of the z9u go. -/
theorem y1v {es : List Edge} {P k : Nat} {s : List (List Int) × Ln} (h : GI es P k s) {a b : Int} (ha : 0 ≤ a) (ha' : a < (P : Int)) (he : ((gt es (k : Int)).a = a ∧ (gt es (k : Int)).b = b) ∨ ((gt es (k : Int)).a = b ∧ (gt es (k : Int)).b = a)) :
    (ent1 es k a b s).1.length = P ∧ (∀ c d : Int, 0 ≤ c → c < (P : Int) → (d ∈ gt (ent1 es k a b s).1 c ↔ (lget (ent1 es k a b s).2 c d).isSome = true)) ∧
    (∀ c d i : Int, lget (ent1 es k a b s).2 c d = some i → 0 ≤ i ∧ i < ((k + 1 : Nat) : Int) ∧ (((gt es i).a = c ∧ (gt es i).b = d) ∨ ((gt es i).a = d ∧ (gt es i).b = c))) ∧
    (∀ c : Int, 0 ≤ c → c < (P : Int) → (gt (ent1 es k a b s).1 c).length ≤ (gt s.1 c).length + 1) ∧
    (∀ c d : Int, ¬ (c = a ∧ d = b) → lget (ent1 es k a b s).2 c d = lget s.2 c d) ∧
    lget (ent1 es k a b s).2 a b = (if (!(lget s.2 a b).isSome || decide ((gt es (k : Int)).minutes < (gt es ((lget s.2 a b).getD default)).minutes)) = true then some (k : Int) else lget s.2 a b) := by
  have hl2 : ∀ c d : Int, lget (ent1 es k a b s).2 c d = if (c = a ∧ d = b) then (if (!(lget s.2 a b).isSome || decide ((gt es (k : Int)).minutes < (gt es ((lget s.2 a b).getD default)).minutes)) = true then some (k : Int) else lget s.2 a b) else lget s.2 c d := by
    intro c d
    unfold ent1
    simp only []
    split
    · rw [zj1]
    · split
      · rename_i q; rw [q.1, q.2]
      · rfl
  have hsm : (lget (ent1 es k a b s).2 a b).isSome = true := by
    rw [hl2, if_pos ⟨rfl, rfl⟩]
    split
    · rfl
    · rename_i q
      simp only [Bool.or_eq_true, not_or] at q
      exact zzq q.1
  refine ⟨?_, ?_, ?_, ?_, fun c d hcd => by rw [hl2, if_neg hcd], by rw [hl2, if_pos ⟨rfl, rfl⟩]⟩
  · unfold ent1
    simp only []
    split
    · rw [z3c]; exact h.len
    · exact h.len
  · intro c d hc hc'
    by_cases hcd : c = a ∧ d = b
    · obtain ⟨rfl, rfl⟩ := hcd
      rw [hsm]
      refine ⟨fun _ => rfl, fun _ => ?_⟩
      unfold ent1
      simp only []
      split
      · rw [z1i _ _ _ _ hc (by rw [h.len]; exact hc') hc, if_pos rfl]; simp
      · rename_i q
        exact (h.near c d hc hc').2 (zzq q)
    · rw [hl2, if_neg hcd, ← h.near c d hc hc']
      unfold ent1
      simp only []
      split
      · rw [z1i _ _ _ _ ha (by rw [h.len]; exact ha') hc]
        by_cases e : c = a
        · subst e
          rw [if_pos rfl]
          simp only [List.mem_append, List.mem_singleton]
          exact ⟨fun q => q.resolve_right (fun e => hcd ⟨rfl, e⟩), .inl⟩
        · rw [if_neg e]
      · exact Iff.rfl
  · intro c d i hi
    rw [hl2] at hi
    split at hi
    · rename_i q
      obtain ⟨rfl, rfl⟩ := q
      split at hi
      · have := Option.some.inj hi
        subst this
        exact ⟨by omega, by omega, he⟩
      · obtain ⟨h1, h2, h3⟩ := h.line _ _ _ hi
        exact ⟨h1, by omega, h3⟩
    · obtain ⟨h1, h2, h3⟩ := h.line _ _ _ hi
      exact ⟨h1, by omega, h3⟩
  · intro c hc hc'
    unfold ent1
    simp only []
    split
    · rw [z1i _ _ _ _ ha (by rw [h.len]; exact ha') hc]
      split
      · rename_i e; subst e; simp
      · omega
    · omega
theorem y2w {es : List Edge} {P k : Nat} {s : List (List Int) × Ln} (h : HI es P k s) (ha : 0 ≤ (gt es (k : Int)).a) (ha' : (gt es (k : Int)).a < (P : Int)) (hb : 0 ≤ (gt es (k : Int)).b) (hb' : (gt es (k : Int)).b < (P : Int)) (hne : (gt es (k : Int)).a ≠ (gt es (k : Int)).b) :
    HI es P (k + 1) (entE es k s) := by
  obtain ⟨a1, a2, a3, a4, a5, a6⟩ := y1v h.toGI ha ha' (.inl ⟨rfl, rfl⟩)
  unfold entE
  generalize hs1 : ent1 es k (gt es (k : Int)).a (gt es (k : Int)).b s = s1 at *
  generalize (gt es (k : Int)).a = a at *
  generalize (gt es (k : Int)).b = b at *
  -- the second end, by the same law: only the zf8 on the numbers has moved
  have hl2 : ∀ c d : Int, lget (ent1 es k b a s1).2 c d = if (c = b ∧ d = a) then (if (!(lget s1.2 b a).isSome || decide ((gt es (k : Int)).minutes < (gt es ((lget s1.2 b a).getD default)).minutes)) = true then some (k : Int) else lget s1.2 b a) else lget s1.2 c d := by
    intro c d
    unfold ent1
    simp only []
    split
    · rw [zj1]
    · split
      · rename_i q; rw [q.1, q.2]
      · rfl
  have hba : lget s1.2 b a = lget s.2 a b := by rw [a5 b a (fun q => hne q.2), h.sym]
  have hsm : (lget (ent1 es k b a s1).2 b a).isSome = true := by
    rw [hl2, if_pos ⟨rfl, rfl⟩]
    split
    · rfl
    · rename_i q
      simp only [Bool.or_eq_true, not_or] at q
      exact zzq q.1
  have hlab : lget (ent1 es k b a s1).2 a b = lget s1.2 a b := by rw [hl2, if_neg (fun q => hne q.1)]
  have hlba : lget (ent1 es k b a s1).2 b a = lget s1.2 a b := by
    rw [hl2, if_pos ⟨rfl, rfl⟩, hba, a6]
  have hab : ((gt es (k : Int)).a = a ∧ (gt es (k : Int)).b = b) ∨ ((gt es (k : Int)).a = b ∧ (gt es (k : Int)).b = a) → True := fun _ => trivial
  refine ⟨⟨?_, ?_, ?_, ?_⟩, ?_⟩
  · unfold ent1
    simp only []
    split
    · rw [z3c]; exact a1
    · exact a1
  · intro c d hc hc'
    by_cases hcd : c = b ∧ d = a
    · obtain ⟨rfl, rfl⟩ := hcd
      rw [hsm]
      refine ⟨fun _ => rfl, fun _ => ?_⟩
      unfold ent1
      simp only []
      split
      · rw [z1i _ _ _ _ hc (by rw [a1]; exact hc') hc, if_pos rfl]; simp
      · rename_i q
        exact (a2 c d hc hc').2 (zzq q)
    · rw [hl2, if_neg hcd, ← a2 c d hc hc']
      unfold ent1
      simp only []
      split
      · rw [z1i _ _ _ _ hb (by rw [a1]; exact hb') hc]
        by_cases e : c = b
        · subst e
          rw [if_pos rfl]
          simp only [List.mem_append, List.mem_singleton]
          exact ⟨fun q => q.resolve_right (fun e => hcd ⟨rfl, e⟩), .inl⟩
        · rw [if_neg e]
      · exact Iff.rfl
  · intro c d i hi
    by_cases hcd : c = b ∧ d = a
    · obtain ⟨rfl, rfl⟩ := hcd
      rw [hlba] at hi
      obtain ⟨h1, h2, h3⟩ := a3 _ _ _ hi
      exact ⟨h1, h2, h3.elim .inr .inl⟩
    · rw [hl2, if_neg hcd] at hi
      exact a3 _ _ _ hi
  · intro c hc hc'
    have h1 := a4 c hc hc'
    have h0 := h.size c hc hc'
    have h2 : (gt (ent1 es k b a s1).1 c).length ≤ (gt s1.1 c).length + 1 := by
      unfold ent1
      simp only []
      split
      · rw [z1i _ _ _ _ hb (by rw [a1]; exact hb') hc]
        split
        · rename_i e; subst e; simp
        · omega
      · omega
    omega
  · intro c d
    by_cases h1 : c = b ∧ d = a
    · obtain ⟨rfl, rfl⟩ := h1
      rw [hlba, hlab]
    · by_cases h2 : c = a ∧ d = b
      · obtain ⟨rfl, rfl⟩ := h2
        rw [hlab, hlba]
      · rw [hl2, if_neg h1, hl2, if_neg (fun q => h2 ⟨q.2, q.1⟩), a5 c d h2, a5 d c (fun q => h1 ⟨q.2, q.1⟩), h.sym]
/-- The graph of a valid network. -/
def zhb (es : List Edge) (P : Nat) : Nat → List (List Int) × Ln
  | 0 => (List.replicate P default, [])
  | k + 1 => entE es k (zhb es P k)
structure zj8 (x : z7) : Prop where
  places : x.places.length ≤ 512
  edges : x.edges.length ≤ 2048
  edge : ∀ i : Int, 0 ≤ i → i < (x.edges.length : Int) → z8e x.places.length (gt x.edges i) = true
theorem y6j {x : z7} (h : z81 x = 0) : zj8 x := by
  obtain ⟨h1, h2, _, h4⟩ := zfl h
  exact ⟨h1, h2, fun i h0 hi => h4 _ (zhe h0 hi)⟩
theorem zj8.ends {x : z7} (h : zj8 x) {i : Int} (h0 : 0 ≤ i) (hi : i < (x.edges.length : Int)) : 0 ≤ (gt x.edges i).a ∧ (gt x.edges i).a < (x.places.length : Int) ∧ 0 ≤ (gt x.edges i).b ∧ (gt x.edges i).b < (x.places.length : Int) ∧
    (gt x.edges i).a ≠ (gt x.edges i).b ∧ 0 ≤ (gt x.edges i).railway ∧ (gt x.edges i).railway ≤ 15 ∧ 1 ≤ (gt x.edges i).minutes ∧ (gt x.edges i).minutes ≤ 100000 ∧ 0 ≤ (gt x.edges i).km ∧ (gt x.edges i).km ≤ 10000 := by
  have := h.edge i h0 hi
  simp only [z8e, Bool.and_eq_true, zqd, bne_iff_ne, ne_eq] at this
  obtain ⟨⟨⟨⟨⟨q1, q2⟩, q3⟩, q4⟩, q5⟩, q6⟩ := this
  exact ⟨q1.1, by omega, q2.1, by omega, q3, q4.1, q4.2, q5.1, q5.2, q6.1, q6.2⟩
theorem zdq {x : z7} (h : zj8 x) : ∀ k, k ≤ x.edges.length → HI x.edges x.places.length k (zhb x.edges x.places.length k)
  | 0, _ => zzx _ _
  | k + 1, hk => by
    obtain ⟨a1, a2, a3, a4, a5, _⟩ := h.ends (i := (k : Int)) (by omega) (by omega)
    exact y2w (zdq h k (by omega)) a1 a2 a3 a4 a5
/-- A graph: neighbours, and the minutes of the z9u to them. -/
structure Gr (P : Nat) (near : List (List Int)) (wt : Int → Int → Int) : Prop where
  len : near.length = P
  small : P ≤ 512
  size : ∀ a : Int, 0 ≤ a → a < (P : Int) → (gt near a).length ≤ 5000
  rng : ∀ a b : Int, 0 ≤ a → a < (P : Int) → b ∈ gt near a → 0 ≤ b ∧ b < (P : Int)
  sym : ∀ a b : Int, 0 ≤ a → a < (P : Int) → b ∈ gt near a → a ∈ gt near b ∧ wt b a = wt a b
  wt : ∀ a b : Int, 0 ≤ a → a < (P : Int) → b ∈ gt near a → 1 ≤ wt a b ∧ wt a b ≤ 100000
def z9u (x : z7) : Ln := (zhb x.edges x.places.length x.edges.length).2
def wtN (x : z7) (a b : Int) : Int := (gt x.edges ((lget (z9u x) a b).getD default)).minutes
def zfz (x : z7) : List (List Int) := (zhb x.edges x.places.length x.edges.length).1
def z48 (x : z7) : List (List Int) := (zfz x).map fun l => zd9 (fun a b => decide (a < b)) l
theorem zw0 {α β : Type} [Inhabited α] [Inhabited β] (f : α → β) (l : List α) {i : Int} (h0 : 0 ≤ i) (h : i < (l.length : Int)) : gt (l.map f) i = f (gt l i) := by
  obtain ⟨n, rfl⟩ : ∃ n : Nat, i = (n : Int) := ⟨i.toNat, by omega⟩
  rw [z8f (by simp; omega), z8f (by omega)]
  simp
theorem zly {x : z7} (h : zj8 x) {a b : Int} (ha : 0 ≤ a) (ha' : a < (x.places.length : Int)) (hb : b ∈ gt (z48 x) a) : ∃ i, lget (z9u x) a b = some i ∧ 0 ≤ i ∧ i < (x.edges.length : Int) ∧ (((gt x.edges i).a = a ∧ (gt x.edges i).b = b) ∨ ((gt x.edges i).a = b ∧ (gt x.edges i).b = a)) := by
  have H := zdq h x.edges.length (Nat.le_refl _)
  unfold z48 at hb
  rw [zw0 _ _ ha (by show a < ((zfz x).length : Int); rw [show (zfz x).length = _ from H.len]; exact ha')] at hb
  have hb := (z2b _ _).mem_iff.1 hb
  have := (H.near a b ha ha').1 hb
  obtain ⟨i, hi⟩ := Option.isSome_iff_exists.1 this
  obtain ⟨h1, h2, h3⟩ := H.line _ _ _ hi
  exact ⟨i, hi, h1, h2, h3⟩
theorem grN {x : z7} (h : zj8 x) : Gr x.places.length (z48 x) (wtN x) := by
  have H := zdq h x.edges.length (Nat.le_refl _)
  have hlen : (z48 x).length = x.places.length := by unfold z48; rw [List.length_map]; exact H.len
  have hl0 : (zfz x).length = x.places.length := H.len
  have hmem : ∀ a b : Int, 0 ≤ a → a < (x.places.length : Int) → (b ∈ gt (z48 x) a ↔ (lget (z9u x) a b).isSome = true) := by
    intro a b ha ha'
    unfold z48
    rw [zw0 _ _ ha (by rw [hl0]; exact ha')]
    exact ((z2b _ _).mem_iff).trans (H.near a b ha ha')
  refine ⟨hlen, h.places, ?_, ?_, ?_, ?_⟩
  · intro a ha ha'
    unfold z48
    rw [zw0 _ _ ha (by rw [hl0]; exact ha'), (z2b _ _).length_eq]
    have := H.size a ha ha'
    have := h.edges
    show (gt (zhb x.edges x.places.length x.edges.length).1 a).length ≤ _
    omega
  · intro a b ha ha' hb
    obtain ⟨i, _, h1, h2, h3⟩ := zly h ha ha' hb
    obtain ⟨e1, e2, e3, e4, _⟩ := h.ends h1 h2
    rcases h3 with ⟨rfl, rfl⟩ | ⟨rfl, rfl⟩
    · exact ⟨e3, e4⟩
    · exact ⟨e1, e2⟩
  · intro a b ha ha' hb
    obtain ⟨i, hi, h1, h2, h3⟩ := zly h ha ha' hb
    obtain ⟨e1, e2, e3, e4, _⟩ := h.ends h1 h2
    have hbr : 0 ≤ b ∧ b < (x.places.length : Int) := by
      rcases h3 with ⟨rfl, rfl⟩ | ⟨rfl, rfl⟩
      · exact ⟨e3, e4⟩
      · exact ⟨e1, e2⟩
    have hs : lget (z9u x) b a = lget (z9u x) a b := H.sym b a
    refine ⟨(hmem b a hbr.1 hbr.2).2 (by rw [hs, hi]; rfl), ?_⟩
    unfold wtN
    rw [hs]
  · intro a b ha ha' hb
    obtain ⟨i, hi, h1, h2, _⟩ := zly h ha ha' hb
    obtain ⟨_, _, _, _, _, _, _, e1, e2, _⟩ := h.ends h1 h2
    unfold wtN
    rw [hi]
    exact ⟨e1, e2⟩
/-- The state of the search for least times: after k rounds. -/
structure DI (P : Nat) (near : List (List Int)) (wt : Int → Int → Int) (s : Int) (k : Nat) (t : List Int) (d : List Bool) : Prop where
  lt : t.length = P
  ld : d.length = P
  src : gt t s = 0
  bd : ∀ i : Int, 0 ≤ i → i < (P : Int) → gt t i = -1 ∨ (0 ≤ gt t i ∧ gt t i ≤ 100000 * k)
  don : ∀ i : Int, 0 ≤ i → i < (P : Int) → gt d i = true → 0 ≤ gt t i
  pre : ∀ a : Int, 0 ≤ a → a < (P : Int) → a ≠ s → 0 ≤ gt t a → ∃ q, 0 ≤ q ∧ q < (P : Int) ∧ gt d q = true ∧ q ∈ gt near a ∧ gt t a = gt t q + wt q a
  mon : ∀ q i : Int, 0 ≤ q → q < (P : Int) → 0 ≤ i → i < (P : Int) → gt d q = true → gt d i = false → 0 ≤ gt t i → gt t q ≤ gt t i
  nbr : ∀ q i : Int, 0 ≤ q → q < (P : Int) → gt d q = true → i ∈ gt near q → 0 ≤ gt t i
  cnt : d.count true = k
/-- A round: the place p is done, and its neighbours are looked at. -/
structure RndI (P : Nat) (near : List (List Int)) (wt : Int → Int → Int) (s p : Int) (k : Nat) (t0 : List Int) (d : List Bool) (seen : List Int) (t : List Int) : Prop where
  lt : t.length = P
  own : gt t p = gt t0 p
  val : ∀ i : Int, 0 ≤ i → i < (P : Int) → gt t i = gt t0 i ∨ (i ∈ seen ∧ gt t i = gt t0 p + wt p i ∧ (gt t0 i < 0 ∨ gt t0 p + wt p i < gt t0 i))
  got : ∀ i ∈ seen, 0 ≤ i → 0 ≤ gt t i
end Px
end
section
namespace Px
open Go
set_option linter.unusedVariables false
set_option linter.unusedSimpArgs false
section
variable {P : Nat} {near : List (List Int)} {wt : Int → Int → Int} {s : Int}
theorem zuh {α : Type} [Inhabited α] (l : List α) {i : Int} (h0 : 0 ≤ i) (h : i < (l.length : Int)) : z0d l i (gt l i) = l := by
  obtain ⟨n, rfl⟩ : ∃ n : Nat, i = (n : Int) := ⟨i.toNat, by omega⟩
  rw [z8f (by omega)]
  simp [z0d]
theorem zvm {p : Int} {k : Nat} {t0 : List Int} {d : List Bool} (h : DI P near wt s k t0 d) : RndI P near wt s p k t0 d [] t0 :=
  ⟨h.lt, rfl, fun i _ _ => .inl rfl, fun i hi => by cases hi⟩
theorem zyg (hG : Gr P near wt) {p : Int} (hp : 0 ≤ p) (hp' : p < (P : Int)) {k : Nat} {t0 : List Int} {d : List Bool} (hp0 : 0 ≤ gt t0 p) {seen t : List Int} (h : RndI P near wt s p k t0 d seen t) {q : Int} (hq : q ∈ gt near p) :
    RndI P near wt s p k t0 d (seen ++ [q]) (if (decide (gt t q < 0) || decide (gt t p + wt p q < gt t q)) = true then z0d t q (gt t p + wt p q) else t) := by
  obtain ⟨q0, q1⟩ := hG.rng p q hp hp' hq
  obtain ⟨w0, w1⟩ := hG.wt p q hp hp' hq
  have hown := h.own
  by_cases c : gt t q < 0 ∨ gt t p + wt p q < gt t q
  · rw [if_pos (by simpa using c)]
    have hqp : q ≠ p := fun e => by subst e; omega
    refine ⟨by rw [z3c]; exact h.lt, ?_, fun i h0 h1 => ?_, fun i hi hneg => ?_⟩
    · rw [z1i _ _ _ _ q0 (by rw [h.lt]; exact q1) hp, if_neg (fun e => hqp e.symm)]; exact hown
    · rw [z1i _ _ _ _ q0 (by rw [h.lt]; exact q1) h0]
      by_cases e : i = q
      · subst e
        rw [if_pos rfl]
        refine .inr ⟨by simp, by rw [hown], ?_⟩
        rcases h.val i h0 h1 with h2 | ⟨_, h2, _⟩
        · rw [h2, hown] at c; exact c
        · rw [h2, hown] at c; exfalso; omega
      · rw [if_neg e]
        rcases h.val i h0 h1 with h2 | ⟨h2, h3, h4⟩
        · exact .inl h2
        · exact .inr ⟨List.mem_append_left _ h2, h3, h4⟩
    · by_cases e : i = q
      · subst e
        rw [z1i _ _ _ _ q0 (by rw [h.lt]; exact q1) q0, if_pos rfl]
        omega
      · have hi : i ∈ seen := by
          rcases List.mem_append.1 hi with hi | hi
          · exact hi
          · exact absurd (List.mem_singleton.1 hi) e
        rw [z1i _ _ _ _ q0 (by rw [h.lt]; exact q1) hneg, if_neg e]
        exact h.got i hi hneg
  · rw [if_neg (by simpa using c)]
    refine ⟨h.lt, hown, fun i h0 h1 => ?_, fun i hi hneg => ?_⟩
    · rcases h.val i h0 h1 with h2 | ⟨h2, h3, h4⟩
      · exact .inl h2
      · exact .inr ⟨List.mem_append_left _ h2, h3, h4⟩
    · rcases List.mem_append.1 hi with hi | hi
      · exact h.got i hi hneg
      · rw [List.mem_singleton.1 hi]; omega
theorem zqp {d : List Bool} {p : Int} (hp : 0 ≤ p) (hp' : p < (d.length : Int)) (h : gt d p = false) : (z0d d p true).count true = d.count true + 1 := by
  obtain ⟨n, rfl⟩ : ∃ n : Nat, p = (n : Int) := ⟨p.toNat, by omega⟩
  have hn : n < d.length := by omega
  rw [z8f hn] at h
  unfold z0d
  rw [Int.toNat_natCast, List.count_set hn, h]
  simp
/-- A round done. -/
theorem zzw (hG : Gr P near wt) {p : Int} (hp : 0 ≤ p) (hp' : p < (P : Int)) {k : Nat} {t0 : List Int} {d : List Bool} (h : DI P near wt s k t0 d) (hs : 0 ≤ s) (hs' : s < (P : Int)) (hp0 : 0 ≤ gt t0 p) (hd : gt d p = false)
    (hmin : ∀ i : Int, 0 ≤ i → i < (P : Int) → 0 ≤ gt t0 i → gt d i = false → gt t0 p ≤ gt t0 i) {t : List Int} (hr : RndI P near wt s p k t0 d (gt near p) t) : DI P near wt s (k + 1) t (z0d d p true) := by
  have hds : ∀ i : Int, 0 ≤ i → gt (z0d d p true) i = if i = p then true else gt d i := fun i hi => z1i _ _ _ _ hp (by rw [h.ld]; exact hp') hi
  have hw : ∀ i, i ∈ gt near p → 1 ≤ wt p i ∧ wt p i ≤ 100000 := fun i hi => hG.wt p i hp hp' hi
  -- what is done stays
  have hdone : ∀ i : Int, 0 ≤ i → i < (P : Int) → gt d i = true → gt t i = gt t0 i := by
    intro i h0 h1 hdi
    rcases hr.val i h0 h1 with h2 | ⟨h2, h3, h4⟩
    · exact h2
    · have := hw i h2
      have := h.don i h0 h1 hdi
      have := h.mon i p h0 h1 hp hp' hdi hd hp0
      omega
  have hbdp := (h.bd p hp hp').resolve_left (by omega)
  refine ⟨hr.lt, by rw [z3c]; exact h.ld, ?_, fun i h0 h1 => ?_, fun i h0 h1 hdi => ?_, fun a h0 h1 has hta => ?_, fun q i q0 q1 h0 h1 hdq hdi hti => ?_, fun q i q0 q1 hdq hin => ?_, ?_⟩
  · rcases hr.val s hs hs' with h2 | ⟨h2, h3, h4⟩
    · rw [h2, h.src]
    · have := hw s h2
      have := h.src
      omega
  · rcases hr.val i h0 h1 with h2 | ⟨h2, h3, h4⟩
    · rw [h2]
      rcases h.bd i h0 h1 with h5 | h5
      · exact .inl h5
      · right; omega
    · have := hw i h2
      right; omega
  · rw [hds i h0] at hdi
    by_cases e : i = p
    · subst e; rw [hr.own]; exact hp0
    · rw [if_neg e] at hdi
      rw [hdone i h0 h1 hdi]; exact h.don i h0 h1 hdi
  · rcases hr.val a h0 h1 with h2 | ⟨h2, h3, h4⟩
    · rw [h2] at hta ⊢
      obtain ⟨q, q0, q1, hdq, hqn, he⟩ := h.pre a h0 h1 has hta
      refine ⟨q, q0, q1, ?_, hqn, by rw [hdone q q0 q1 hdq]; exact he⟩
      rw [hds q q0]; split
      · rfl
      · exact hdq
    · obtain ⟨hsy, hwt⟩ := hG.sym p a hp hp' h2
      exact ⟨p, hp, hp', by rw [hds p hp, if_pos rfl], hsy, by rw [hr.own, h3]⟩
  · rw [hds q q0] at hdq
    rw [hds i h0] at hdi
    have hip : i ≠ p := fun e => by rw [if_pos e] at hdi; cases hdi
    rw [if_neg hip] at hdi
    have hge : gt t0 p ≤ gt t i := by
      rcases hr.val i h0 h1 with h2 | ⟨h2, h3, h4⟩
      · rw [h2] at hti ⊢; exact hmin i h0 h1 hti hdi
      · have := hw i h2; omega
    by_cases e : q = p
    · subst e; rw [hr.own]; exact hge
    · rw [if_neg e] at hdq
      have := h.mon q p q0 q1 hp hp' hdq hd hp0
      rw [hdone q q0 q1 hdq]; omega
  · rw [hds q q0] at hdq
    by_cases e : q = p
    · subst e; exact hr.got i hin (hG.rng q i hp hp' hin).1
    · rw [if_neg e] at hdq
      obtain ⟨i0, i1⟩ := hG.rng q i q0 q1 hin
      have := h.nbr q i q0 q1 hdq hin
      rcases hr.val i i0 i1 with h2 | ⟨h2, h3, h4⟩
      · rw [h2]; exact this
      · have := hw i h2; omega
  · rw [zqp hp (by rw [h.ld]; exact hp') hd, h.cnt]
/-- The search is over. -/
structure DF (P : Nat) (near : List (List Int)) (wt : Int → Int → Int) (s : Int) (t : List Int) : Prop where
  lt : t.length = P
  src : gt t s = 0
  bd : ∀ i : Int, 0 ≤ i → i < (P : Int) → gt t i = -1 ∨ (0 ≤ gt t i ∧ gt t i ≤ 51200000)
  pre : ∀ a : Int, 0 ≤ a → a < (P : Int) → a ≠ s → 0 ≤ gt t a → ∃ q, 0 ≤ q ∧ q < (P : Int) ∧ q ∈ gt near a ∧ 0 ≤ gt t q ∧ gt t a = gt t q + wt q a
  nbr : ∀ q i : Int, 0 ≤ q → q < (P : Int) → 0 ≤ gt t q → i ∈ gt near q → 0 ≤ gt t i
theorem y6s (hG : Gr P near wt) {k : Nat} {t : List Int} {d : List Bool} (h : DI P near wt s k t d) (hall : ∀ i : Int, 0 ≤ i → i < (P : Int) → 0 ≤ gt t i → gt d i = true) : DF P near wt s t := by
  have hk : k ≤ P := by rw [← h.cnt, ← h.ld]; exact List.count_le_length
  have := hG.small
  refine ⟨h.lt, h.src, fun i h0 h1 => ?_, fun a h0 h1 ha hta => ?_, fun q i q0 q1 hq hi => h.nbr q i q0 q1 (hall q q0 q1 hq) hi⟩
  · rcases h.bd i h0 h1 with h2 | h2
    · exact .inl h2
    · right; omega
  · obtain ⟨q, q0, q1, hdq, hqn, he⟩ := h.pre a h0 h1 ha hta
    exact ⟨q, q0, q1, hqn, h.don q q0 q1 hdq, he⟩
theorem zye (hs : 0 ≤ s) (hs' : s < (P : Int)) (t : List Int) (ht : t.length = P) (hall : ∀ i : Int, 0 ≤ i → i < (P : Int) → gt t i = if i = s then 0 else -1) : DI P near wt s 0 t (List.replicate P (default : Bool)) := by
  have hd : ∀ i : Int, 0 ≤ i → i < (P : Int) → gt (List.replicate P (default : Bool)) i = false := fun i h0 h1 => by rw [z5l _ _ _ h0 (by omega)]; rfl
  refine ⟨ht, by simp, by rw [hall s hs hs', if_pos rfl], fun i h0 h1 => ?_, fun i h0 h1 h => ?_, fun a h0 h1 ha hta => ?_, fun q i q0 q1 h0 h1 hdq => ?_, fun q i q0 q1 hdq => ?_, ?_⟩
  · rw [hall i h0 h1]; split <;> omega
  · rw [hd i h0 h1] at h; cases h
  · rw [hall a h0 h1, if_neg ha] at hta; omega
  · rw [hd q q0 q1] at hdq; cases hdq
  · rw [hd q q0 q1] at hdq; cases hdq
  · simp [List.count_replicate]
end
section walk
variable {ρ : Type} {P : Nat} {near : List (List Int)} {wt : Int → Int → Int} {s : Int}
/-- The place that is next. -/
theorem y4w (hP : P ≤ 512) (A : Nat → Int → Int → Option ρ) (fin : Int → Option ρ) (t : List Int) (d : List Bool) (ht : t.length = P) (hd : d.length = P)
    (stp : ∀ n p i, A (n + 1) p i = (if (decide ((i : Int) < (P : Int))) = true then (ck ((0 : Int) ≤ i ∧ i < (t.length : Int)) (ck (((decide ((0 : Int) ≤ (gt t i))) = true) → (0 : Int) ≤ i ∧ i < (d.length : Int)) (ck ((((decide ((0 : Int) ≤ (gt t i))) && (!(gt d i))) = true ∧ (decide ((p : Int) < 0)) = false) → (0 : Int) ≤ i ∧ i < (t.length : Int)) (ck ((((decide ((0 : Int) ≤ (gt t i))) && (!(gt d i))) = true ∧ (decide ((p : Int) < 0)) = false) → (0 : Int) ≤ p ∧ p < (t.length : Int)) (if (((decide ((0 : Int) ≤ (gt t i))) && (!(gt d i))) && ((decide ((p : Int) < 0)) || (decide (((gt t i) : Int) < (gt t p))))) = true then (A n i (W (i + 1))) else (A n p (W (i + 1)))))))) else fin p)) (n : Nat) (hn : P < n) :
    ∃ p, A n (-1) 0 = fin p ∧ ((p = -1 ∧ ∀ i : Int, 0 ≤ i → i < (P : Int) → 0 ≤ gt t i → gt d i = true) ∨ (0 ≤ p ∧ p < (P : Int) ∧ 0 ≤ gt t p ∧ gt d p = false ∧ ∀ i : Int, 0 ≤ i → i < (P : Int) → 0 ≤ gt t i → gt d i = false → gt t p ≤ gt t i)) := by
  refine z01 (fun n i (p : Int) => A n p i) P (fun i p => (p = -1 ∧ ∀ j : Int, 0 ≤ j → j < (i : Int) → 0 ≤ gt t j → gt d j = true) ∨ (0 ≤ p ∧ p < (i : Int) ∧ 0 ≤ gt t p ∧ gt d p = false ∧ ∀ j : Int, 0 ≤ j → j < (i : Int) → 0 ≤ gt t j → gt d j = false → gt t p ≤ gt t j))
    (fun o => ∃ p, o = fin p ∧ ((p = -1 ∧ ∀ i : Int, 0 ≤ i → i < (P : Int) → 0 ≤ gt t i → gt d i = true) ∨ (0 ≤ p ∧ p < (P : Int) ∧ 0 ≤ gt t p ∧ gt d p = false ∧ ∀ i : Int, 0 ≤ i → i < (P : Int) → 0 ≤ gt t i → gt d i = false → gt t p ≤ gt t i))) ?_ ?_ n (-1) (.inl ⟨rfl, fun j h0 h1 => by omega⟩) hn
  · intro n i p hi hI hs
    rw [stp, if_pos (by simp; omega), z2 ⟨by omega, by omega⟩, z2 (fun _ => ⟨by omega, by omega⟩), z2 (fun _ => ⟨by omega, by omega⟩), W_id (by omega) (by omega)]
    have hpr : (decide ((p : Int) < 0)) = false → (0 : Int) ≤ p ∧ p < (t.length : Int) := by
      intro h
      simp only [decide_eq_false_iff_not] at h
      rcases hI with ⟨rfl, _⟩ | ⟨h1, h2, _⟩
      · omega
      · exact ⟨h1, by omega⟩
    rw [z2 (fun h => hpr h.2)]
    have split_j : ∀ j : Int, j < ((i + 1 : Nat) : Int) → j < (i : Int) ∨ j = (i : Int) := fun j h => by omega
    by_cases c : (0 ≤ gt t (i : Int) ∧ gt d (i : Int) = false) ∧ (p < 0 ∨ gt t (i : Int) < gt t p)
    · rw [if_pos (by simpa using c)]
      refine hs _ (.inr ⟨by omega, by omega, c.1.1, c.1.2, fun j h0 h1 htj hdj => ?_⟩)
      rcases split_j j h1 with h2 | rfl
      · rcases hI with ⟨_, h3⟩ | ⟨q0, _, _, _, h3⟩
        · have := h3 j h0 h2 htj; rw [hdj] at this; cases this
        · have := h3 j h0 h2 htj hdj
          have := c.2.resolve_left (by omega)
          omega
      · exact Int.le_refl _
    · rw [if_neg (by simpa using c)]
      refine hs p ?_
      rcases hI with ⟨rfl, h3⟩ | ⟨q0, q1, q2, q3, h3⟩
      · refine .inl ⟨rfl, fun j h0 h1 htj => ?_⟩
        rcases split_j j h1 with h2 | rfl
        · exact h3 j h0 h2 htj
        · cases hdi : gt d (i : Int) with
          | true => rfl
          | false => exact absurd ⟨⟨htj, hdi⟩, .inl (by omega)⟩ c
      · refine .inr ⟨q0, by omega, q2, q3, fun j h0 h1 htj hdj => ?_⟩
        rcases split_j j h1 with h2 | rfl
        · exact h3 j h0 h2 htj hdj
        · rcases Int.lt_or_le (gt t (i : Int)) (gt t p) with h4 | h4
          · exact absurd ⟨⟨htj, hdj⟩, .inr h4⟩ c
          · exact h4
  · intro n p hI
    rw [stp, if_neg (by simp)]
    exact ⟨p, rfl, hI⟩
/-- The neighbours of a place. -/
theorem y44 (hG : Gr P near wt) {p : Int} (hp : 0 ≤ p) (hp' : p < (P : Int)) {k : Nat} (hk : k ≤ 512) {t0 : List Int} {d : List Bool} (hD : DI P near wt s k t0 d) (hp0 : 0 ≤ gt t0 p) (B : Nat → Int → List Int → Option ρ) (K : List Int → Option ρ) (nb : List Int) (hnb : nb = gt near p) (E : Nat) (lg : Int → Int) (mins : Int → Int)
    (hlg : ∀ q ∈ nb, 0 ≤ lg q ∧ lg q < (E : Int) ∧ mins (lg q) = wt p q)
    (stp : ∀ n i t, B (n + 1) i t = (if (decide ((i : Int) < (nb.length : Int))) = true then (ck ((0 : Int) ≤ i ∧ i < (nb.length : Int)) (ck ((0 : Int) ≤ p ∧ p < (t.length : Int)) (ck ((0 : Int) ≤ lg (gt nb i) ∧ lg (gt nb i) < (E : Int)) (ck ((0 : Int) ≤ (gt nb i) ∧ (gt nb i) < (t.length : Int)) (ck (((decide (((gt t (gt nb i)) : Int) < 0)) = false) → (0 : Int) ≤ (gt nb i) ∧ (gt nb i) < (t.length : Int)) (if ((decide (((gt t (gt nb i)) : Int) < 0)) || (decide (((W ((gt t p) + mins (lg (gt nb i)))) : Int) < (gt t (gt nb i))))) = true then (ck ((0 : Int) ≤ (gt nb i) ∧ (gt nb i) < (t.length : Int)) (B n (W (i + 1)) (z0d t (gt nb i) (W ((gt t p) + mins (lg (gt nb i))))))) else (B n (W (i + 1)) t))))))) else K t)) (n : Nat) (hn : nb.length < n) :
    ∃ t, B n 0 t0 = K t ∧ RndI P near wt s p k t0 d nb t := by
  have hsz : nb.length ≤ 5000 := by rw [hnb]; exact hG.size p hp hp'
  have hbp := (hD.bd p hp hp').resolve_left (by omega)
  refine z01 (fun n i t => B n i t) nb.length (fun i t => RndI P near wt s p k t0 d (nb.take i) t) (fun o => ∃ t, o = K t ∧ RndI P near wt s p k t0 d nb t) ?_ ?_ n t0 (zvm hD) hn
  · intro n i t hi hI hs
    have hm : gt nb (i : Int) ∈ gt near p := by rw [← hnb]; exact zhe (by omega) (by omega)
    obtain ⟨q0, q1⟩ := hG.rng p _ hp hp' hm
    obtain ⟨w0, w1⟩ := hG.wt p _ hp hp' hm
    obtain ⟨l0, l1, l2⟩ := hlg (gt nb (i : Int)) (by rw [hnb]; rw [hnb] at hm; exact hm)
    have hlt := hI.lt
    have hst := zyg hG hp hp' hp0 hI hm
    rw [← z1a nb i hi] at hst
    have hr := hs _ hst
    have hown := hI.own
    rw [stp, if_pos (by simp; omega), z2 ⟨by omega, by omega⟩, z2 ⟨by omega, by omega⟩, z2 ⟨l0, l1⟩, z2 ⟨by omega, by omega⟩, z2 (fun _ => ⟨by omega, by omega⟩), l2, W_id (x := gt t p + _) (by omega) (by omega), W_id (by omega) (by omega)]
    generalize gt nb (i : Int) = q at *
    by_cases c : (decide (gt t q < 0) || decide (gt t p + wt p q < gt t q)) = true
    · rw [if_pos c] at hr ⊢
      rw [z2 ⟨by omega, by omega⟩]
      exact hr
    · rw [if_neg c] at hr ⊢
      exact hr
  · intro n t hI
    rw [stp, if_neg (by simp)]
    rw [List.take_length] at hI
    exact ⟨t, rfl, hI⟩
/-- All rounds. -/
theorem y02 (hG : Gr P near wt) (hs : 0 ≤ s) (hs' : s < (P : Int)) (M : Nat → List Int → List Bool → Option ρ) (fin : List Int → Option ρ) (φ : Nat)
    (rnd : ∀ n k t d, k ≤ 512 → DI P near wt s k t d → (∃ t', DF P near wt s t' ∧ M (n + 1) t d = fin t') ∨ (∃ t' p, 0 ≤ p ∧ p < (P : Int) ∧ DI P near wt s (k + 1) t' (z0d d p true) ∧ M (n + 1) t d = M n t' (z0d d p true))) :
    ∀ n k t d, DI P near wt s k t d → P < n + k → ∃ t', DF P near wt s t' ∧ M n t d = fin t' := by
  intro n
  induction n with
  | zero =>
    intro k t d h hn
    have hk : k ≤ P := by rw [← h.cnt, ← h.ld]; exact List.count_le_length
    omega
  | succ n ih =>
    intro k t d h hn
    have hk : k ≤ P := by rw [← h.cnt, ← h.ld]; exact List.count_le_length
    have := hG.small
    rcases rnd n k t d (by omega) h with h1 | ⟨t', p, _, _, h2, h3⟩
    · exact h1
    · rw [h3]
      exact ih (k + 1) t' _ h2 (by omega)
end walk
end Px
end
section
namespace Px
open Go
set_option linter.unusedVariables false
set_option linter.unusedSimpArgs false
section z0f
variable (φ : Nat) (K : List Edge → Int → Int → Int → Int → z7 → z7 → List (List Int) → Ln → Option (Int × Int × Unit)) (x : z7) (a0 b0 : Int)
theorem z6r {i : Nat} (hi : i < x.edges.length) {P : Nat} {near : List (List Int)} {line : Ln} {a b : Int} (hl : near.length = P) (ha : 0 ≤ a) (ha' : a < (P : Int)) (hsz : (gt near a).length ≤ 10000) (hx : x.edges.length ≤ 2048) (hold : ∀ o, lget line a b = some o → 0 ≤ o ∧ o < (x.edges.length : Int)) :
    (if (!(lget line a b).isSome) = true then (ck ((0 : Int) ≤ a ∧ a < (near.length : Int)) (ck ((0 : Int) ≤ a ∧ a < (near.length : Int)) (ck ((a : Int) = a) (ck (fits ((gt near a).length + ([b]).length) 8) (ck ((0 : Int) ≤ a ∧ a < (near.length : Int)) (ck ((a : Int) = a) (z23 φ K i ((lget line a b).getD default) ((lget line a b).isSome) x.edges (x.edges.length : Int) i a0 b0 x (keyP a b) x (z0d near a (gt near a ++ [b])) line))))))) else (z23 φ K i ((lget line a b).getD default) ((lget line a b).isSome) x.edges (x.edges.length : Int) i a0 b0 x (keyP a b) x near line)) =
    K x.edges (x.edges.length : Int) ((i : Int) + 1) a0 b0 x x (ent1 x.edges i a b (near, line)).1 (ent1 x.edges i a b (near, line)).2 := by
  have hW : W ((i : Int) + 1) = (i : Int) + 1 := W_id (by omega) (by omega)
  unfold z23 ent1
  simp only []
  cases h : lget line a b with
  | none =>
    simp only [Option.isSome_none, Bool.not_false, if_true, Option.getD_none, Bool.true_or]
    rw [z2 ⟨ha, by omega⟩, z2 ⟨ha, by omega⟩, z2 trivial, z2 (y1f (by simp; omega) (by omega)), z2 ⟨ha, by omega⟩, z2 trivial, z2 (by simp), z2 (by simp), hW]
  | some o =>
    have ho := hold o h
    simp only [Option.isSome_some, Bool.not_true, Bool.false_eq_true, if_false, Option.getD_some, Bool.false_or]
    rw [z2 (fun _ => ⟨by omega, by omega⟩), z2 (fun _ => ho), hW]
    by_cases c : decide ((gt x.edges (i : Int)).minutes < (gt x.edges o).minutes) = true
    · rw [if_pos c, if_pos c]
    · rw [if_neg c, if_neg c]
theorem zcc {i : Nat} (hi : i < x.edges.length) {P : Nat} {near : List (List Int)} {line : Ln} {a b : Int} (hl : near.length = P) (ha : 0 ≤ a) (ha' : a < (P : Int)) (hsz : (gt near a).length ≤ 10000) (hx : x.edges.length ≤ 2048) (hold : ∀ o, lget line a b = some o → 0 ≤ o ∧ o < (x.edges.length : Int)) :
    (if (!(lget line a b).isSome) = true then (ck ((0 : Int) ≤ a ∧ a < (near.length : Int)) (ck ((0 : Int) ≤ a ∧ a < (near.length : Int)) (ck ((a : Int) = a) (ck (fits ((gt near a).length + ([b]).length) 8) (ck ((0 : Int) ≤ a ∧ a < (near.length : Int)) (ck ((a : Int) = a) (z26 φ K i ((lget line a b).getD default) ((lget line a b).isSome) x.edges (x.edges.length : Int) i a0 b0 x (keyP a b) x (z0d near a (gt near a ++ [b])) line))))))) else (z26 φ K i ((lget line a b).getD default) ((lget line a b).isSome) x.edges (x.edges.length : Int) i a0 b0 x (keyP a b) x near line)) =
    K x.edges (x.edges.length : Int) ((i : Int) + 1) a0 b0 x x (ent1 x.edges i a b (near, line)).1 (ent1 x.edges i a b (near, line)).2 := z6r φ K x a0 b0 hi hl ha ha' hsz hx hold
theorem z6o (hx : zj8 x) {i : Nat} (hi : i < x.edges.length) {near near1 : List (List Int)} {line : Ln} (old : Int) (sm : Bool) (hl : near1.length = x.places.length) (ho : sm = true → 0 ≤ old ∧ old < (x.edges.length : Int))
    (hsz : (gt near1 (gt x.edges (i : Int)).b).length ≤ 10000) (hline : ∀ a b o, lget line a b = some o → 0 ≤ o ∧ o < (x.edges.length : Int)) (line1 : Ln) (h1 : line1 = if (!sm || decide ((gt x.edges (i : Int)).minutes < (gt x.edges old).minutes)) = true then lset line (gt x.edges (i : Int)).a (gt x.edges (i : Int)).b i else line) :
    z27 φ K i old sm i x.edges (x.edges.length : Int) i a0 b0 x (keyP (gt x.edges (i : Int)).a (gt x.edges (i : Int)).b) (gt x.edges (i : Int)) x near1 line =
    K x.edges (x.edges.length : Int) ((i : Int) + 1) a0 b0 x x (ent1 x.edges i (gt x.edges (i : Int)).b (gt x.edges (i : Int)).a (near1, line1)).1 (ent1 x.edges i (gt x.edges (i : Int)).b (gt x.edges (i : Int)).a (near1, line1)).2 := by
  obtain ⟨e1, e2, e3, e4, e5, _⟩ := hx.ends (i := (i : Int)) (by omega) (by omega)
  unfold z27
  rw [z2 (fun _ => ⟨by omega, by omega⟩), z2 (fun h => ho (by simpa using h))]
  by_cases c : (!sm || decide ((gt x.edges (i : Int)).minutes < (gt x.edges old).minutes)) = true
  · rw [if_pos c] at h1 ⊢
    subst h1
    refine z6r φ K x a0 b0 hi hl e3 e4 hsz hx.edges fun o h => ?_
    rw [zj1, if_neg (fun q => e5 q.1.symm)] at h
    exact hline _ _ o h
  · rw [if_neg c] at h1 ⊢
    subst h1
    exact zcc φ K x a0 b0 hi hl e3 e4 hsz hx.edges fun o h => hline _ _ o h
end z0f
section z0f
variable (φ : Nat) (x : z7) (a0 b0 : Int)
theorem zdu (hx : zj8 x) (n : Nat) {i : Nat} (hi : i < x.edges.length) {s : List (List Int) × Ln} (h : HI x.edges x.places.length i s) :
    zf φ (n + 1) x.edges (x.edges.length : Int) i a0 b0 x x s.1 s.2 = zf φ n x.edges (x.edges.length : Int) ((i : Int) + 1) a0 b0 x x (entE x.edges i s).1 (entE x.edges i s).2 := by
  obtain ⟨e1, e2, e3, e4, e5, _⟩ := hx.ends (i := (i : Int)) (by omega) (by omega)
  have hE := hx.edges
  have hline : ∀ a b o, lget s.2 a b = some o → 0 ≤ o ∧ o < (x.edges.length : Int) := fun a b o ho => by
    obtain ⟨h1, h2, _⟩ := h.line _ _ _ ho
    exact ⟨h1, by omega⟩
  have hsa := h.size _ e1 e2
  have hsb := h.size _ e3 e4
  have hlen := h.len
  rw [zf, if_pos (by simp; omega), z2 ⟨by omega, by omega⟩]
  unfold entE
  generalize hs1 : ent1 x.edges i (gt x.edges (i : Int)).a (gt x.edges (i : Int)).b s = s1
  have hs1' := hs1
  unfold ent1 at hs1'
  cases hg : lget s.2 (gt x.edges (i : Int)).a (gt x.edges (i : Int)).b with
  | none =>
    have hg' : @mget (Nat → Int) Int ⟨beqA 2⟩ s.2 (upd (upd (fun _ => (default : Int)) 0 (gt x.edges (i : Int)).a) 1 (gt x.edges (i : Int)).b) = none := hg
    rw [hg] at hs1'
    simp only [Option.isSome_none, Bool.not_false, if_true, Option.getD_none, Bool.true_or] at hs1'
    rw [hg']
    simp only [Option.isSome_none, Bool.not_false, if_true, Option.getD_none]
    rw [z2 ⟨e1, by omega⟩, z2 ⟨e1, by omega⟩, z2 trivial, z2 (y1f (by simp; omega) (by omega)), z2 ⟨e1, by omega⟩, z2 trivial, ← hs1']
    refine z6o φ (zf φ n) x a0 b0 hx hi (near := s.1) _ _ (by rw [z3c]; exact hlen) (fun h => by cases h) ?_ hline _ (by simp)
    rw [z1i _ _ _ _ e1 (by omega) e3, if_neg (fun q => e5 q.symm)]
    omega
  | some o =>
    have hg' : @mget (Nat → Int) Int ⟨beqA 2⟩ s.2 (upd (upd (fun _ => (default : Int)) 0 (gt x.edges (i : Int)).a) 1 (gt x.edges (i : Int)).b) = some o := hg
    rw [hg] at hs1'
    simp only [Option.isSome_some, Bool.not_true, Bool.false_eq_true, if_false, Option.getD_some, Bool.false_or] at hs1'
    rw [hg']
    simp only [Option.isSome_some, Bool.not_true, Bool.false_eq_true, if_false, Option.getD_some]
    rw [← hs1']
    exact z6o φ (zf φ n) x a0 b0 hx hi (near := s.1) _ _ hlen (fun _ => hline _ _ _ hg) (by omega) hline _ (by simp)
theorem zdv (hx : zj8 x) (hφ : 5000 < φ) (line : Ln) : z0n φ φ ((zfz x).length : Int) 0 a0 b0 (zfz x) x line = (ck (z4l (x.places.length : Int) 8) (ck (z4l (((List.replicate ((x.places.length : Int) : Int).toNat (default : Int)).length : Int)) 1) (zm φ φ a0 (((List.replicate ((x.places.length : Int) : Int).toNat (default : Int)).length : Int)) 0 b0 x (List.replicate ((x.places.length : Int) : Int).toNat (default : Int)) ((List.replicate (((List.replicate ((x.places.length : Int) : Int).toNat (default : Int)).length : Int) : Int).toNat (default : Bool))) (z48 x) line))) := by
  have hl0 : (zfz x).length = x.places.length := (zdq hx x.edges.length (Nat.le_refl _)).len
  have hP := hx.places
  have hE := hx.edges
  obtain ⟨n0, hn0⟩ : ∃ n0, n0 = x.places.length := ⟨_, rfl⟩
  rw [← hn0] at hl0 hP
  rw [hl0]
  have hfin : ∀ o : List (List Int), o.length = n0 → (∀ w : Nat, w < n0 → gt o (w : Int) = zd9 (fun a b => decide (a < b)) (gt (zfz x) (w : Int))) → o = z48 x := by
    intro o ho hw
    unfold z48
    refine List.ext_getElem (by simp [ho, hl0]) fun i h1 h2 => ?_
    have := hw i (by omega)
    rw [z8f h1, z8f (by omega)] at this
    simpa using this
  refine z01 (fun n i o => z0n φ n (n0 : Int) i a0 b0 o x line) n0 (fun i o => o.length = n0 ∧ ∀ w : Nat, w < n0 → gt o (w : Int) = if w < i then zd9 (fun a b => decide (a < b)) (gt (zfz x) (w : Int)) else gt (zfz x) (w : Int)) (fun o => o = (ck (z4l (x.places.length : Int) 8) (ck (z4l (((List.replicate ((x.places.length : Int) : Int).toNat (default : Int)).length : Int)) 1) (zm φ φ a0 (((List.replicate ((x.places.length : Int) : Int).toNat (default : Int)).length : Int)) 0 b0 x (List.replicate ((x.places.length : Int) : Int).toNat (default : Int)) ((List.replicate (((List.replicate ((x.places.length : Int) : Int).toNat (default : Int)).length : Int) : Int).toNat (default : Bool))) (z48 x) line)))) ?_ ?_ φ (zfz x) ⟨hl0, fun w hw => by rw [if_neg (by omega)]⟩ (by omega)
  · intro n i o hi ⟨ho1, ho2⟩ hs
    have hsz := (zdq hx x.edges.length (Nat.le_refl _)).size (i : Int) (by omega) (by omega)
    have hsz : (gt (zfz x) (i : Int)).length ≤ 2 * x.edges.length := hsz
    have hso : zgy (gt (zfz x) (i : Int)) = some (zd9 (fun a b => decide (a < b)) (gt (zfz x) (i : Int))) := by
      unfold zgy zi5; rw [if_pos (by omega)]
    rw [z0n, if_pos (by simp; omega), z2 ⟨by omega, by omega⟩, z2 ⟨by omega, by omega⟩, z2 rfl, ho2 i hi, if_neg (by omega), hso, Option.bind_some, W_id (by omega) (by omega)]
    refine hs _ ⟨by rw [z3c]; exact ho1, fun w hw => ?_⟩
    rw [z1i _ _ _ _ (by omega) (by omega) (by omega)]
    by_cases e : w = i
    · subst e; rw [if_pos rfl, if_pos (by omega)]
    · rw [if_neg (by omega), ho2 w hw]
      by_cases h2 : w < i
      · rw [if_pos h2, if_pos (by omega)]
      · rw [if_neg h2, if_neg (by omega)]
  · intro n o ⟨ho1, ho2⟩
    have := hfin o ho1 fun w hw => by rw [ho2 w hw, if_pos hw]
    subst this
    rw [z0n, if_neg (by simp)]
theorem zcy (hx : zj8 x) (hφ : 5000 < φ) : zf φ φ x.edges (x.edges.length : Int) 0 a0 b0 x x (List.replicate ((x.places.length : Int)).toNat (default : List Int)) [] = (ck (z4l (x.places.length : Int) 8) (ck (z4l (((List.replicate ((x.places.length : Int) : Int).toNat (default : Int)).length : Int)) 1) (zm φ φ a0 (((List.replicate ((x.places.length : Int) : Int).toNat (default : Int)).length : Int)) 0 b0 x (List.replicate ((x.places.length : Int) : Int).toNat (default : Int)) ((List.replicate (((List.replicate ((x.places.length : Int) : Int).toNat (default : Int)).length : Int) : Int).toNat (default : Bool))) (z48 x) (z9u x)))) := by
  have hE := hx.edges
  have h0 : (List.replicate ((x.places.length : Int)).toNat (default : List Int), ([] : Ln)) = zhb x.edges x.places.length 0 := by simp [zhb]
  refine z01 (fun n i (s : List (List Int) × Ln) => zf φ n x.edges (x.edges.length : Int) i a0 b0 x x s.1 s.2) x.edges.length (fun i s => s = zhb x.edges x.places.length i) (fun o => o = (ck (z4l (x.places.length : Int) 8) (ck (z4l (((List.replicate ((x.places.length : Int) : Int).toNat (default : Int)).length : Int)) 1) (zm φ φ a0 (((List.replicate ((x.places.length : Int) : Int).toNat (default : Int)).length : Int)) 0 b0 x (List.replicate ((x.places.length : Int) : Int).toNat (default : Int)) ((List.replicate (((List.replicate ((x.places.length : Int) : Int).toNat (default : Int)).length : Int) : Int).toNat (default : Bool))) (z48 x) (z9u x))))) ?_ ?_ φ (List.replicate ((x.places.length : Int)).toNat (default : List Int), []) h0 (by omega)
  · intro n i s hi hs hk
    subst hs
    rw [zdu φ x a0 b0 hx n hi (zdq hx i (by omega))]
    exact hk _ rfl
  · intro n s hs
    subst hs
    rw [zf, if_neg (by simp)]
    exact zdv φ x a0 b0 hx hφ (z9u x)
end z0f
section z2f
variable (φ : Nat) (K : List Edge → Int → Int → Int → Int → z7 → z7 → List (List Int) → Ln → Option ((List Int) × Int × Unit)) (x : z7) (a0 b0 : Int)
end z2f
section z2f
variable (φ : Nat) (x : z7) (a0 b0 : Int)
end z2f
section z3f
variable (φ : Nat) (K : List Edge → Int → Int → List Int → z7 → z7 → List z3a → List (List Int) → Ln → Option ((List z3a) × Int × Unit)) (x : z7) (rt : List Int) (sh : List z3a)
end z3f
section z3f
variable (φ : Nat) (x : z7) (rt : List Int) (sh : List z3a)
end z3f
end Px
end
section
namespace Px
open Go
set_option linter.unusedVariables false
set_option linter.unusedSimpArgs false
section z0f
variable (φ : Nat) (x : z7) (a0 b0 : Int)
theorem zcm (hx : zj8 x) (hφ : 800000 < φ) (hs : 0 ≤ a0) (hs' : a0 < (x.places.length : Int)) : ∃ t, DF x.places.length (z48 x) (wtN x) a0 t ∧
    zm φ φ a0 (((List.replicate ((x.places.length : Int) : Int).toNat (default : Int)).length : Int)) 0 b0 x (List.replicate ((x.places.length : Int) : Int).toNat (default : Int)) ((List.replicate (((List.replicate ((x.places.length : Int) : Int).toNat (default : Int)).length : Int) : Int).toNat (default : Bool)))  (z48 x) (z9u x) = (ck ((0 : Int) ≤ b0 ∧ b0 < (t.length : Int)) (if (decide (((gt t b0) : Int) < 0)) = true then (some (0, 80, ())) else (some ((gt t b0), 0, ())))) := by
  have hG := grN hx
  have hP := hx.places
  have hrep : (List.replicate ((x.places.length : Int) : Int).toNat (default : Int)).length = x.places.length := by simp
  rw [hrep]
  have e1 : ((x.places.length : Int)).toNat = x.places.length := by simp
  rw [e1]
  -- the search
  have search : ∀ t : List Int, t.length = x.places.length → (∀ i : Int, 0 ≤ i → i < (x.places.length : Int) → gt t i = if i = a0 then 0 else -1) →
      ∃ t', DF x.places.length (z48 x) (wtN x) a0 t' ∧ zh φ φ b0 x t (List.replicate x.places.length (default : Bool))  (z48 x) (z9u x) = (ck ((0 : Int) ≤ b0 ∧ b0 < (t'.length : Int)) (if (decide (((gt t' b0) : Int) < 0)) = true then (some (0, 80, ())) else (some ((gt t' b0), 0, ())))) := by
    intro t ht hall
    refine y02 hG hs hs' (fun n t d => zh φ n b0 x t d  (z48 x) (z9u x)) (fun t' => (ck ((0 : Int) ≤ b0 ∧ b0 < (t'.length : Int)) (if (decide (((gt t' b0) : Int) < 0)) = true then (some (0, 80, ())) else (some ((gt t' b0), 0, ()))))) φ ?_ φ 0 t _ (zye hs hs' t ht hall) (by omega)
    intro n k t d hk hD
    obtain ⟨p, hp1, hp2⟩ := y4w hP (fun m p i => z0a φ (zh φ n) m p (x.places.length : Int) i b0 x t d  (z48 x) (z9u x))
      (fun p => (if (decide ((p : Int) < 0)) = true then (ck ((0 : Int) ≤ b0 ∧ b0 < (t.length : Int)) (if (decide (((gt t b0) : Int) < 0)) = true then (some (0, 80, ())) else (some ((gt t b0), 0, ())))) else (ck ((0 : Int) ≤ p ∧ p < (d.length : Int)) (ck ((0 : Int) ≤ p ∧ p < ((z48 x).length : Int)) (ck ((0 : Int) ≤ p ∧ p < ((z48 x).length : Int)) (ck ((p : Int) = p) (z09 φ (zh φ n) φ p ((gt (z48 x) p).length : Int) 0 b0 x t (z0d d p true) (gt (z48 x) p)  (z48 x) p (z9u x))))))))
      t d hD.lt hD.ld (fun m p i => by rw [z0a]) φ (by omega)
    have hM : zh φ (n + 1) b0 x t d  (z48 x) (z9u x) = z0a φ (zh φ n) φ (-1) (x.places.length : Int) 0 b0 x t d  (z48 x) (z9u x) := by
      rw [zh, hD.lt]
    simp only [] at hp1
    simp only [hM]
    rw [hp1]
    rcases hp2 with ⟨rfl, hall⟩ | ⟨p0, p1, p2, p3, p4⟩
    · left
      refine ⟨t, y6s hG hD hall, ?_⟩
      rw [if_pos (by decide)]
    · right
      rw [if_neg (by simp; omega), z2 ⟨p0, by rw [hD.ld]; exact p1⟩, z2 ⟨p0, by rw [hG.len]; exact p1⟩, z2 ⟨p0, by rw [hG.len]; exact p1⟩, z2 trivial]
      obtain ⟨t', h1, h2⟩ := y44 hG p0 p1 hk hD p2 (fun m i t => z09 φ (zh φ n) m p ((gt (z48 x) p).length : Int) i b0 x t (z0d d p true) (gt (z48 x) p)  (z48 x) p (z9u x))
        (fun t => zh φ n b0 x t (z0d d p true)  (z0d (z48 x) p (gt (z48 x) p)) (z9u x)) (gt (z48 x) p) rfl x.edges.length (fun q => (lget (z9u x) p q).getD default) (fun i => (gt x.edges i).minutes)
        (fun q hq => by
          obtain ⟨i, hi, i0, i1, _⟩ := zly hx p0 p1 hq
          rw [hi]
          exact ⟨i0, i1, by unfold wtN; rw [hi]⟩) (fun m i t => by rw [z09]) φ (by have := hG.size p p0 p1; omega)
      refine ⟨t', p, p0, p1, zzw hG p0 p1 hD hs hs' p2 p3 p4 h2, ?_⟩
      rw [zuh _ p0 (by rw [hG.len]; exact p1)] at h1
      exact h1
  -- all times are unknown at first
  refine z01 (fun n i t => zm φ n a0 (x.places.length : Int) i b0 x t (List.replicate x.places.length (default : Bool))  (z48 x) (z9u x)) x.places.length (fun i t => t.length = x.places.length ∧ ∀ j : Int, 0 ≤ j → j < (i : Int) → gt t j = -1) (fun o => ∃ t, DF x.places.length (z48 x) (wtN x) a0 t ∧ o = (ck ((0 : Int) ≤ b0 ∧ b0 < (t.length : Int)) (if (decide (((gt t b0) : Int) < 0)) = true then (some (0, 80, ())) else (some ((gt t b0), 0, ()))))) ?_ ?_ φ (List.replicate x.places.length (default : Int)) ⟨by simp, fun j h0 h1 => by omega⟩ (by omega)
  · intro n i t hi ⟨h1, h2⟩ hs
    rw [zm, if_pos (by simp; omega), z2 ⟨by omega, by omega⟩, W_id (by omega) (by omega)]
    refine hs _ ⟨by rw [z3c]; exact h1, fun j j0 j1 => ?_⟩
    rw [z1i _ _ _ _ (by omega) (by omega) j0]
    by_cases e : j = (i : Int)
    · rw [if_pos e]
    · rw [if_neg e]; exact h2 j j0 (by omega)
  · intro n t ⟨h1, h2⟩
    rw [zm, if_neg (by simp), z2 ⟨hs, by omega⟩]
    obtain ⟨t', h3, h4⟩ := search (z0d t a0 0) (by rw [z3c]; exact h1) (fun i i0 i1 => by
      rw [z1i _ _ _ _ hs (by omega) i0]
      split
      · rfl
      · exact h2 i i0 i1)
    exact ⟨t', h3, h4⟩
end z0f
section z2f
variable (φ : Nat) (x : z7) (a0 b0 : Int)
end z2f
theorem zet {n b : Nat} (h : n ≤ 100000000) (hb : b ≤ 1000) : fits n b := by
  unfold fits
  have : n * b ≤ 100000000 * 1000 := Nat.mul_le_mul h hb
  omega

/-- Between answers. -/
theorem zu1 (φ : Nat) (hφ : 800000 < φ) (x : z7) (a b : Int) : ∃ t e, z0f φ x a b = some (t, e, ()) ∧ 0 ≤ t ∧ t ≤ 51200000 := by
  unfold z0f
  rw [zc8 _ (by omega), Option.bind_some]
  by_cases hn : z81 x = 0
  case neg =>
    rw [if_pos (by simpa using hn), if_pos (by simpa using hn)]
    exact ⟨0, _, rfl, by omega, by omega⟩
  have hx := y6j hn
  have hP := hx.places
  rw [if_neg (by simp [hn])]
  obtain ⟨m, rfl⟩ : ∃ m, φ = m + 3 := ⟨φ - 3, by omega⟩
  have g0 : gt [a, b] 0 = a := rfl
  have g1 : gt [a, b] 1 = b := rfl
  have L : ((([a, b] : List Int).length : Nat) : Int) = 2 := rfl
  have step : ∀ n i, z11 (m + 3) (n + 1) 2 i a b x [a, b] x [] = (if (decide ((i : Int) < 2)) = true then (ck ((0 : Int) ≤ i ∧ i < (2 : Int)) (if ((decide (((gt [a, b] i) : Int) < 0)) || (decide (((x.places.length : Int) : Int) ≤ (gt [a, b] i)))) = true then (some (0, 1, ())) else (z11 (m + 3) n 2 (W (i + 1)) a b x [a, b] x []))) else (ck (z4l (x.places.length : Int) 24) (zf (m + 3) (m + 3) x.edges (x.edges.length : Int) 0 a b x x (List.replicate ((x.places.length : Int) : Int).toNat (default : (List Int))) ([] : List ((Nat → Int) × Int))))) := fun n i => by rw [z11]; rfl
  rw [L, show m + 3 = (m + 2) + 1 from rfl, step, if_pos (by decide), z2 (by decide), g0]
  by_cases ha : 0 ≤ a ∧ a < (x.places.length : Int)
  case neg =>
    rw [if_pos (by simp; omega)]
    exact ⟨0, 1, rfl, by omega, by omega⟩
  rw [if_neg (by simp; omega), show W (0 + 1) = 1 by rfl, show m + 2 = (m + 1) + 1 from rfl, step, if_pos (by decide), z2 (by decide), g1]
  by_cases hb : 0 ≤ b ∧ b < (x.places.length : Int)
  case neg =>
    rw [if_pos (by simp; omega)]
    exact ⟨0, 1, rfl, by omega, by omega⟩
  rw [if_neg (by simp; omega), show W (1 + 1) = 2 by rfl, step, if_neg (by decide), z2 (mk_t _ _ (by omega) (by omega) (by omega)), zcy (m + 3) x a b hx (by omega), z2 (mk_t _ _ (by omega) (by omega) (by omega)), z2 (mk_t _ _ (by omega) (by simp; omega) (by omega))]
  obtain ⟨t, h1, h2⟩ := zcm (m + 3) x a b hx (by omega) ha.1 ha.2
  rw [h2, z2 ⟨hb.1, by rw [h1.lt]; exact hb.2⟩]
  rcases h1.bd b hb.1 hb.2 with h3 | ⟨h3, h4⟩
  · rw [if_pos (by simp; omega)]
    exact ⟨0, 80, rfl, by omega, by omega⟩
  · rw [if_neg (by simp; omega)]
    exact ⟨_, 0, rfl, h3, h4⟩
end Px
end
section
namespace Px
open Go
set_option linter.unusedVariables false
set_option linter.unusedSimpArgs false
set_option maxHeartbeats 4000000
def zvu (fit : Bool) (x : Part) : Bool := !(((((decide ((x.kind : Int) < 1)) || (decide ((3 : Int) < x.kind))) || (decide ((x.serial : Int) < 0))) || (decide ((1073741824 : Int) < x.serial))) || (x.fitted && (!fit)))
theorem za5 (φ : Nat) (l : List Part) (fit : Bool) (h : l.length ≤ 1000) (hφ : 1000 < φ) : zcp φ l fit = some (l.all (zvu fit) && decide ((l.length : Int) ≤ 16), ()) := by
  unfold zcp
  rw [z3y (fun n i => z5i φ n l fit l (l.length : Int) i) (some (decide ((l.length : Int) ≤ 16), ())) (some (false, ())) l (fun x => !zvu fit x) ?_ ?_ φ (by omega)]
  · simp only [List.any_eq_not_all_not, Bool.not_not]
    cases l.all (zvu fit) <;> rfl
  · intro n i hi
    rw [z5i, if_pos (by simp; omega), z2 ⟨by omega, by omega⟩, W_id (by omega) (by omega)]
    show _ = bif !!_ then _ else _
    rw [Bool.not_not]
    cases (((((decide (((gt l i).kind : Int) < 1)) || (decide ((3 : Int) < (gt l i).kind))) || (decide (((gt l i).serial : Int) < 0))) || (decide ((1073741824 : Int) < (gt l i).serial))) || ((gt l i).fitted && (!fit))) <;> rfl
  · intro n; rw [z5i, if_neg (by simp)]
/-- What is known of a valid item. -/
structure zs0 (p : Pool) (it : Item) : Prop where
  kind : 1 ≤ it.kind ∧ it.kind ≤ 15
  wagon : it.kind ≤ 9 → 0 ≤ it.wagon ∧ it.wagon < (p.fleet.wagons.length : Int)
  read : it.kind = 1 → 0 ≤ it.other ∧ it.other < (p.readers.length : Int)
  place : it.kind = 2 ∨ it.kind = 3 ∨ it.kind = 4 ∨ it.kind = 6 ∨ it.kind = 7 ∨ it.kind = 9 → 0 ≤ it.place ∧ it.place < (p.network.places.length : Int)
  from_ : it.kind ≤ 9 → 0 ≤ it.from_ ∧ it.from_ ≤ 1073741824
  to : it.kind = 2 ∨ it.kind = 9 → it.from_ ≤ it.to ∧ it.to ≤ 1073741824
theorem zt9 {ρ : Type} (c q : Bool) (K : Bool → Option ρ) : ((zp (default, ()) (c = true) (some (q, ()))).bind fun y => K (c && y.1)) = K (c && q) := by
  unfold zp
  cases c <;> rfl
theorem zw1 (p : Pool) (it : Item) (hparts : it.parts.length ≤ 1000) (hw : p.fleet.wagons.length ≤ 4096) (hr : p.readers.length ≤ 256) (hs : p.shippers.length ≤ 256) (hpl : p.network.places.length ≤ 512) (ht : p.fleet.types.length ≤ 32) :
    ∃ b, (∀ φ, 1000 < φ → z1v φ p it = some (b, ())) ∧ (b = true → zs0 p it) := by
  have w1 : W ((p.fleet.wagons.length : Int) - 1) = (p.fleet.wagons.length : Int) - 1 := W_id (by omega) (by omega)
  have w2 : W ((p.readers.length : Int) - 1) = (p.readers.length : Int) - 1 := W_id (by omega) (by omega)
  have w3 : W ((p.shippers.length : Int) - 1) = (p.shippers.length : Int) - 1 := W_id (by omega) (by omega)
  have w4 : W ((p.network.places.length : Int) - 1) = (p.network.places.length : Int) - 1 := W_id (by omega) (by omega)
  have w5 : W ((p.fleet.types.length : Int) - 1) = (p.fleet.types.length : Int) - 1 := W_id (by omega) (by omega)
  have hm : ∀ x z : Int, max2 x 0 ≤ z ↔ x ≤ z ∧ 0 ≤ z := by intro x z; unfold max2; split <;> omega
  by_cases hk0 : it.kind < 1
  · refine ⟨false, fun φ hφ => ?_, fun h => by cases h⟩
    unfold z1v za
    rw [if_pos (by simp; omega), if_pos (by simpa using hk0)]
    simp
  by_cases hk16 : 15 < it.kind
  · refine ⟨false, fun φ hφ => ?_, fun h => by cases h⟩
    have e : ∀ k : Int, k ≤ 15 → (it.kind == k) = false := fun k hk => by simp; omega
    unfold z1v
    rw [if_neg (by simp; omega)]
    simp [e, z2k, za]
  have hcases : it.kind = 1 ∨ it.kind = 2 ∨ it.kind = 3 ∨ it.kind = 4 ∨ it.kind = 5 ∨ it.kind = 6 ∨ it.kind = 7 ∨ it.kind = 8 ∨ it.kind = 9 ∨ it.kind = 10 ∨ it.kind = 11 ∨ it.kind = 12 ∨ it.kind = 13 ∨ it.kind = 14 ∨ it.kind = 15 := by omega
  by_cases hin : 0 ≤ it.place ∧ it.place < (p.network.places.length : Int)
  · have e1 : (decide ((0 : Int) ≤ it.place) && decide ((it.place : Int) < (p.network.places.length : Int))) = true := by simp [hin]
    rcases hcases with hk | hk | hk | hk | hk | hk | hk | hk | hk | hk | hk | hk | hk | hk | hk
    case inr.inr.inr.inr.inr.inr.inr.inr.inl =>
      refine ⟨_, fun φ hφ => by
        unfold z1v
        simp only [hk, e1, z4s, z2 hin, w1, w2, w3, w4, w5, za5 φ _ _ hparts hφ, Option.bind_some, Int.reduceLE, Int.reduceLT, Int.reduceBEq, decide_true, decide_false, if_true, Bool.false_eq_true, if_false]
        refine (zt9 _ _ (fun b => za φ ⟨_, _, b⟩)).trans ?_
        unfold za
        rfl, fun hb => ?_⟩
      simp only [Bool.and_eq_true, decide_eq_true_eq, hm, beq_iff_eq, bne_iff_ne, ne_eq, Bool.or_eq_true] at hb
      constructor <;> omega
    case inr.inr.inr.inr.inr.inr.inr.inr.inr.inl =>
      refine ⟨_, fun φ hφ => by
        unfold z1v
        simp only [hk, e1, z2 hin, w1, w2, w3, w4, w5, za5 φ _ _ hparts hφ, Option.bind_some, Int.reduceLE, Int.reduceLT, Int.reduceBEq, decide_true, decide_false, if_true, Bool.false_eq_true, if_false]
        refine (zt9 _ _ (fun b => za φ ⟨_, _, b⟩)).trans ?_
        unfold za
        rfl, fun hb => ?_⟩
      constructor <;> omega
    all_goals
      refine ⟨_, fun φ hφ => by
        unfold z1v
        simp only [hk, e1, z5r, z4v, z4w, z4o, z4u, z4m, z2k, z4r, za, z2 hin, w1, w2, w3, w4, w5, Option.bind_some, Int.reduceLE, Int.reduceLT, Int.reduceBEq, Int.reduceBNe, Int.reduceNe, decide_true, decide_false, if_true, Bool.false_eq_true, if_false]
        rfl, fun hb => ?_⟩
      simp only [Bool.and_eq_true, decide_eq_true_eq, hm, beq_iff_eq, bne_iff_ne, ne_eq, Bool.or_eq_true] at hb
      constructor <;> omega
  · have e1 : (decide ((0 : Int) ≤ it.place) && decide ((it.place : Int) < (p.network.places.length : Int))) = false := by
      rw [← Bool.not_eq_true]; simpa using hin
    rcases hcases with hk | hk | hk | hk | hk | hk | hk | hk | hk | hk | hk | hk | hk | hk | hk
    case inr.inr.inr.inr.inr.inr.inr.inr.inl =>
      refine ⟨_, fun φ hφ => by
        unfold z1v
        simp only [hk, e1, z4s, w1, w2, w3, w4, w5, za5 φ _ _ hparts hφ, Option.bind_some, Int.reduceLE, Int.reduceLT, Int.reduceBEq, decide_true, decide_false, if_true, Bool.false_eq_true, if_false]
        refine (zt9 _ _ (fun b => za φ ⟨_, _, b⟩)).trans ?_
        unfold za
        rfl, fun hb => ?_⟩
      simp at hb
    case inr.inr.inr.inr.inr.inr.inr.inr.inr.inl =>
      refine ⟨_, fun φ hφ => by
        unfold z1v
        simp only [hk, e1, w1, w2, w3, w4, w5, za5 φ _ _ hparts hφ, Option.bind_some, Int.reduceLE, Int.reduceLT, Int.reduceBEq, decide_true, decide_false, if_true, Bool.false_eq_true, if_false]
        refine (zt9 _ _ (fun b => za φ ⟨_, _, b⟩)).trans ?_
        unfold za
        rfl, fun hb => ?_⟩
      constructor <;> omega
    all_goals
      refine ⟨_, fun φ hφ => by
        unfold z1v
        simp only [hk, e1, z5r, z4v, z4w, z4o, z4u, z4m, z2k, z4r, za, w1, w2, w3, w4, w5, Option.bind_some, Int.reduceLE, Int.reduceLT, Int.reduceBEq, Int.reduceBNe, Int.reduceNe, decide_true, decide_false, if_true, Bool.false_eq_true, if_false]
        rfl, fun hb => ?_⟩
      simp only [Bool.and_eq_true, decide_eq_true_eq, hm, beq_iff_eq, bne_iff_ne, ne_eq, Bool.or_eq_true] at hb
      first | (constructor <;> omega) | (simp at hb; done) | (simp at hb; constructor <;> omega)
def zdk (p : Pool) (it : Item) : Bool := ((z1v 2000 p it).getD (false, ())).1
def zz5 (it : Item) : Bool := ((z5n 0 it).getD (false, ())).1
theorem zoe (φ : Nat) (it : Item) : z5n φ it = some (zz5 it, ()) := by
  unfold zz5 z5n
  split <;> rfl
/-- Does an item count? -/
def z6t (p : Pool) (it : Item) : Bool := zz5 it && zdk p it
theorem zoc {p : Pool} (hc : z1s p = 0) {it : Item} (hparts : it.parts.length ≤ 1000) : (∀ φ, 1000 < φ → z1v φ p it = some (zdk p it, ())) ∧ (zdk p it = true → zs0 p it) := by
  obtain ⟨hn, hf, h1, h2, h3, hb⟩ := z6w hc
  obtain ⟨n1, n2, _, _⟩ := zfl hn
  obtain ⟨f1, f2, _⟩ := z37 hf
  obtain ⟨b, hφ, hok⟩ := zw1 p it hparts f2 h1 h2 n1 f1
  have : zdk p it = b := by unfold zdk; rw [hφ 2000 (by omega)]; rfl
  rw [this]
  exact ⟨hφ, hok⟩
theorem zcs (φ : Nat) (hφ : 800000 < φ) {p : Pool} (hc : z1s p = 0) {it : Item} (hparts : it.parts.length ≤ 1000) : z7y φ p it = some (bif z6t p it then 0 else 110, ()) := by
  unfold z7y z6t
  rw [z5v φ hφ, Option.bind_some, if_neg (by simp [hc]), zoe, Option.bind_some]
  cases zz5 it with
  | false => rfl
  | true =>
    rw [gz_t (by simp), (zoc hc hparts).1 φ (by omega), Option.bind_some]
    cases zdk p it <;> rfl
theorem zop {p : Pool} (hc : z1s p = 0) {it : Item} (hparts : it.parts.length ≤ 1000) (h : z6t p it = true) : zs0 p it := by
  simp only [z6t, Bool.and_eq_true] at h
  exact (zoc hc hparts).2 h.2
end Px
end
section
namespace Px
open Go
set_option linter.unusedVariables false
set_option linter.unusedSimpArgs false
theorem zl0 {n b : Nat} (h : n ≤ 100000) (hb : b ≤ 1000) : fits n b := by
  unfold fits
  have : n * b ≤ 100000 * 1000 := Nat.mul_le_mul h hb
  omega
def z6g (r : z6) (place time : Int) : z1f := ⟨r.item.wagon, place, r.ref, false, time, time⟩
/-- The events of a report that counts. -/
def evs (p : Pool) (r : z6) (i : Int) : List z1 :=
  if r.item.kind = 1 then [⟨z6g r (gt p.readers r.item.other).place r.item.from_, i, false, false, r.item.other⟩]
  else if r.item.kind = 2 ∨ r.item.kind = 9 then [⟨z6g r r.item.place r.item.from_, i, false, true, -1⟩, ⟨z6g r r.item.place r.item.to, i, true, true, -1⟩]
  else if r.item.kind = 3 ∨ r.item.kind = 4 ∨ r.item.kind = 6 ∨ r.item.kind = 7 then [⟨z6g r r.item.place r.item.from_, i, false, false, -1⟩] else []
theorem zrq (φ : Nat) (p : Pool) (r : z6) (i : Int) (h : r.item.kind = 1 → 0 ≤ r.item.other ∧ r.item.other < (p.readers.length : Int)) : z0e φ p r i = some (evs p r i, ()) := by
  by_cases h1 : r.item.kind = 1
  · have h' := h h1
    simp [z0e, evs, h1, z2 h', zl, z6g]
  by_cases h2 : r.item.kind = 2
  · simp [z0e, evs, h2, zx, z1g, z1h, zl, z6g]
  by_cases h9 : r.item.kind = 9
  · simp [z0e, evs, h9, zx, z1g, z1h, zl, z6g]
  by_cases h3 : r.item.kind = 3
  · simp [z0e, evs, h3, zx, zw, zl, z6g]
  by_cases h4 : r.item.kind = 4
  · simp [z0e, evs, h4, zx, zw, zl, z6g]
  by_cases h6 : r.item.kind = 6
  · simp [z0e, evs, h6, zx, zw, zl, z6g]
  by_cases h7 : r.item.kind = 7
  · simp [z0e, evs, h7, zx, zw, zl, z6g]
  · simp [z0e, evs, h1, h2, h9, h3, h4, h6, h7, zx, zw]
theorem zgd {p : Pool} {r : z6} {i : Int} {x : z1} (h : x ∈ evs p r i) : x.report = i ∧ x.visit.wagon = r.item.wagon ∧ x.visit.ref = r.ref := by
  unfold evs at h
  split at h
  · simp only [List.mem_singleton] at h; subst h; exact ⟨rfl, rfl, rfl⟩
  · split at h
    · simp only [List.mem_cons, List.not_mem_nil, or_false] at h
      rcases h with rfl | rfl <;> exact ⟨rfl, rfl, rfl⟩
    · split at h
      · simp only [List.mem_singleton] at h; subst h; exact ⟨rfl, rfl, rfl⟩
      · cases h
theorem zrg (p : Pool) (r : z6) (i : Int) : (evs p r i).length ≤ 2 := by
  unfold evs
  split
  · simp
  · split
    · simp
    · split <;> simp
theorem y4x (p : Pool) (r : z6) (i : Int) : (evs p r i).Pairwise fun a b => a.report ≠ b.report ∨ a.second ≠ b.second := by
  unfold evs
  split
  · simp
  · split
    · simp
    · split <;> simp
/-- The numbers of the reports that count. -/
def cntN (p : Pool) (l : List z6) (n : Nat) : List Int := ((List.range n).filter fun (i : Nat) => z6t p (gt l (i : Int)).item).map fun (i : Nat) => (i : Int)
def cnt (p : Pool) (l : List z6) : List Int := cntN p l l.length
theorem znz (p : Pool) (l : List z6) (n : Nat) : cntN p l (n + 1) = cntN p l n ++ (bif z6t p (gt l (n : Int)).item then [(n : Int)] else []) := by
  unfold cntN
  rw [List.range_succ, List.filter_append, List.map_append]
  congr 1
  cases h : z6t p (gt l (n : Int)).item <;> simp [h]
theorem zez (p : Pool) (l : List z6) (n : Nat) : (cntN p l n).length ≤ n := by
  unfold cntN
  rw [List.length_map]
  exact Nat.le_trans (List.length_filter_le _ _) (by simp)
theorem zv8 {p : Pool} {l : List z6} {i : Int} (h : i ∈ cnt p l) : 0 ≤ i ∧ i < (l.length : Int) ∧ z6t p (gt l i).item = true := by
  simp only [cnt, cntN, List.mem_map, List.mem_filter, List.mem_range] at h
  obtain ⟨n, ⟨h1, h2⟩, rfl⟩ := h
  exact ⟨by omega, by omega, h2⟩
theorem y4o (p : Pool) (l : List z6) : (cnt p l).Pairwise (· < ·) := by
  unfold cnt cntN
  rw [List.pairwise_map]
  refine (List.pairwise_lt_range.filter _).imp ?_
  intro a b h
  omega
/-- A list of reports that the laws admit. -/
structure FewL (l : List z6) : Prop where
  len : l.length ≤ 1000
  parts : ∀ r ∈ l, r.item.parts.length ≤ 1000
theorem FewL.gt {l : List z6} (h : FewL l) {i : Int} (h0 : 0 ≤ i) (hi : i < (l.length : Int)) : (Px.gt l i).item.parts.length ≤ 1000 := h.parts _ (zhe h0 hi)
theorem zto (φ : Nat) (hφ : 800000 < φ) {p : Pool} (hc : z1s p = 0) {l : List z6} (hl : FewL l) : z8r φ p l = some (cnt p l, ()) := by
  have h1 := hl.len
  unfold z8r
  refine z01 (fun n i acc => z1p φ n l (l.length : Int) i p acc) l.length (fun i acc => acc = cntN p l i) (fun o => o = some (cnt p l, ())) ?_ ?_ φ [] rfl (by omega)
  · intro n i acc hi hacc hs
    rw [z1p, if_pos (by simp; omega), z2 ⟨by omega, by omega⟩, zcs φ hφ hc (hl.gt (by omega) (by omega)), Option.bind_some, W_id (by omega) (by omega)]
    have hs' := hs (cntN p l (i + 1)) rfl
    rw [znz] at hs'
    cases h : z6t p (gt l (i : Int)).item with
    | true =>
      rw [h] at hs'
      rw [if_pos (by rfl), z2 (zl0 (by have := zez p l i; rw [hacc]; simp; omega) (by omega)), hacc]
      exact hs'
    | false =>
      rw [h] at hs'
      simp only [cond_false, List.append_nil] at hs'
      rw [if_neg (by decide), hacc]
      exact hs'
  · intro n acc hacc
    rw [z1p, if_neg (by simp), hacc]; rfl
/-- The events of a wagon, as they were collected. -/
def unsC (p : Pool) (l : List z6) (c : List Int) (w : Int) : List z1 := c.flatMap fun i => if (gt l i).item.wagon = w then evs p (gt l i) i else []
def uns (p : Pool) (l : List z6) (w : Int) : List z1 := unsC p l (cnt p l) w
theorem zdn (p : Pool) (l : List z6) (w : Int) : ∀ c : List Int, (unsC p l c w).length ≤ 2 * c.length
  | [] => by simp [unsC]
  | i :: c => by
    have := zdn p l w c
    have h2 := zrg p (gt l i) i
    unfold unsC at *
    rw [List.flatMap_cons, List.length_append, List.length_cons]
    split
    · omega
    · simp only [List.length_nil]; omega
theorem y3k {a b : z1} (h : a.report ≠ b.report ∨ a.second ≠ b.second) : cfEv a b < 0 ∨ cfEv b a < 0 := by
  rw [zed, zed]
  have h2 : a.second ≠ b.second → ordB a.second ≠ ordB b.second := by
    cases a.second <;> cases b.second <;> simp [ordB]
  by_cases hs : a.second = b.second
  · have h3 := h.resolve_right (fun q => q hs)
    rw [hs]; omega
  · have := h2 hs
    omega
theorem y4r (p : Pool) (l : List z6) (w : Int) : (uns p l w).Pairwise fun a b => a.report ≠ b.report ∨ a.second ≠ b.second := by
  unfold uns unsC
  rw [List.pairwise_flatMap]
  refine ⟨fun i hi => ?_, (y4o p l).imp ?_⟩
  · split
    · exact y4x _ _ _
    · exact List.Pairwise.nil
  · intro i j hij x hx y hy
    split at hx
    · split at hy
      · rw [(zgd hx).1, (zgd hy).1]
        exact .inl (by omega)
      · cases hy
    · cases hx
theorem y0q {p : Pool} {l : List z6} (hl : l.length ≤ 1000) {w : Int} {x : z1} (h : x ∈ uns p l w) : 0 ≤ x.report ∧ x.report < (l.length : Int) ∧ x.visit.wagon = w ∧ z6t p (gt l x.report).item = true ∧ x ∈ evs p (gt l x.report) x.report := by
  simp only [uns, unsC, List.mem_flatMap] at h
  obtain ⟨i, hi, hx⟩ := h
  obtain ⟨h1, h2, h3⟩ := zv8 hi
  split at hx
  · rename_i hw
    obtain ⟨r1, r2, r3⟩ := zgd hx
    rw [r1]
    exact ⟨h1, h2, by rw [r2, hw], h3, hx⟩
  · cases hx
def ltEv (a b : z1) : Bool := decide (cfEv a b < 0)
def srt (p : Pool) (l : List z6) (w : Int) : List z1 := zd9 ltEv (uns p l w)
theorem ztc {p : Pool} {l : List z6} (hl : l.length ≤ 1000) (w : Int) : sortEv (uns p l w) = some (srt p l w) := by
  refine zyn (fun y hy => ?_) ?_ ((y4r p l w).imp fun h => y3k h)
  · obtain ⟨h1, h2, _⟩ := y0q hl hy
    simp only [okEv, decide_eq_true_eq]; omega
  · have := zdn p l w (cnt p l)
    have h2 := zez p l l.length
    unfold uns cnt at *
    omega
/-- Stays cover the gaps of a zaj. -/
def covM (e : z1) (m : List (Int × Bool)) : List (Int × Bool) := if (e.stay && e.second) = true then mdel m e.report else if e.stay = true then mset m e.report true else m
def zee (e : z1) (b : Bool) : z1 := ⟨⟨e.visit.wagon, e.visit.place, e.visit.ref, b, e.visit.early, e.visit.late⟩, e.report, e.second, e.stay, e.reader⟩
def zhz : List z1 → List (Int × Bool) → List z1
  | [], _ => []
  | e :: t, m => zee e (decide ((0 : Int) < ((covM e m).length : Int))) :: zhz t (covM e m)
theorem zis : ∀ (t : List z1) (m : List (Int × Bool)), (zhz t m).length = t.length
  | [], _ => rfl
  | e :: t, m => by simp [zhz, zis t]
def zaj (p : Pool) (l : List z6) (w : Int) : List z1 := zhz (srt p l w) []
theorem zwi {α : Type} (a : List α) (x y : α) (b : List α) : z0d (a ++ x :: b) (a.length : Int) y = a ++ y :: b := by
  simp [z0d]
theorem y0f {α : Type} [Inhabited α] (a : List α) (x : α) (b : List α) : gt (a ++ x :: b) (a.length : Int) = x := by
  simp [gt]
theorem ztm (φ : Nat) (k : Int → Int → List (List z1) → Option ((List (List z1)) × Unit)) (x19 x20 x24 : Int) (x23 : List (List z1)) :
    ∀ (n : Nat) (done todo : List z1) (m : List (Int × Bool)), todo.length < n → done.length + todo.length ≤ 100000 →
      z0j φ k n ((done.length + todo.length : Nat) : Int) (done.length : Int) x19 x20 (done ++ todo) m x23 x24 = k x19 (W (x20 + 1)) (z0d x23 x24 (done ++ zhz todo m)) := by
  intro n
  induction n with
  | zero => intro d t m h _; omega
  | succ n ih =>
    intro d t m hn hl
    cases t with
    | nil =>
      rw [z0j, if_neg (by simp)]
      rfl
    | cons e t =>
      simp only [List.length_cons] at hn hl
      have hin : (0 : Int) ≤ (d.length : Int) ∧ (d.length : Int) < ((d ++ e :: t).length : Int) := ⟨by omega, by simp; omega⟩
      have key : ∀ m', z2d φ (z0j φ k n) (d.length : Int) ((d.length + (e :: t).length : Nat) : Int) (d.length : Int) x19 x20 (d ++ e :: t) m' x23 x24 =
          k x19 (W (x20 + 1)) (z0d x23 x24 (d ++ zee e (decide ((0 : Int) < (m'.length : Int))) :: zhz t m')) := by
        intro m'
        unfold z2d
        rw [z2 hin, y0f, W_id (by omega) (by omega), zwi]
        have := ih (d ++ [zee e (decide ((0 : Int) < (m'.length : Int)))]) t m' (by omega) (by simp; omega)
        simp only [List.length_append, List.length_cons, List.length_nil, List.append_assoc, List.cons_append, List.nil_append] at this
        rw [show ((d.length + (e :: t).length : Nat) : Int) = ((d.length + (0 + 1) + t.length : Nat) : Int) by simp; omega, show (d.length : Int) + 1 = ((d.length + (0 + 1) : Nat) : Int) by omega]
        exact this
      rw [z0j, if_pos (by simp; omega), z2 hin, z2 (fun _ => hin), y0f]
      have hg : ∀ m', covM e m = m' → zhz (e :: t) m = zee e (decide ((0 : Int) < (m'.length : Int))) :: zhz t m' := fun m' hm => by subst hm; rfl
      by_cases h1 : (e.stay && e.second) = true
      · rw [if_pos h1, z2 hin, key, hg _ (if_pos h1)]
      · rw [if_neg h1, z2 hin]
        by_cases h2 : e.stay = true
        · rw [if_pos h2, z2 hin, key, hg (mset m e.report true) (by unfold covM; rw [if_neg h1, if_pos h2])]
        · rw [if_neg h2, key, hg m (by unfold covM; rw [if_neg h1, if_neg h2])]
theorem zpw (φ : Nat) (hφ : 800000 < φ) {p : Pool} (hc : z1s p = 0) {l : List z6} (hl : FewL l) : z5h φ p l = some ((List.range p.fleet.wagons.length).map fun (w : Nat) => zaj p l (w : Int), ()) := by
  have h1 := hl.len
  obtain ⟨_, hf, _⟩ := z6w hc
  obtain ⟨_, f2, _⟩ := z37 hf
  have hcl := zez p l l.length
  unfold z5h
  rw [z2 (mk_t _ _ (by omega) (by omega) (by omega)), zto φ hφ hc hl, Option.bind_some]
  generalize hn0 : p.fleet.wagons.length = n0 at *
  have second : ∀ out : List (List z1), out.length = n0 → (∀ w : Nat, w < n0 → gt out (w : Int) = uns p l w) → z0w φ φ (out.length : Int) 0 out = some ((List.range n0).map fun (w : Nat) => zaj p l (w : Int), ()) := by
    intro out ho hu
    rw [ho]
    refine z01 (fun n i o => z0w φ n (n0 : Int) i o) n0 (fun i o => o.length = n0 ∧ ∀ w : Nat, w < n0 → gt o (w : Int) = if w < i then zaj p l w else uns p l w) (fun o => o = some ((List.range n0).map fun (w : Nat) => zaj p l (w : Int), ())) ?_ ?_ φ out ⟨ho, fun w hw => by rw [hu w hw, if_neg (by omega)]⟩ (by omega)
    · intro n i o hi ⟨ho1, ho2⟩ hs
      rw [z0w, if_pos (by simp; omega), z2 ⟨by omega, by omega⟩, z2 ⟨by omega, by omega⟩, z2 rfl, ho2 i hi, if_neg (by omega), ztc h1, Option.bind_some]
      have hsl : (srt p l (i : Int)).length ≤ 2000 := by
        rw [srt, (z2b _ _).length_eq]
        have := zdn p l i (cnt p l)
        unfold uns cnt at *
        omega
      have := ztm φ (z0w φ n) (n0 : Int) (i : Int) (i : Int) o φ [] (srt p l (i : Int)) [] (by omega) (by simp; omega)
      simp only [List.length_nil, Nat.zero_add, List.nil_append] at this
      refine this.trans ?_
      rw [W_id (by omega) (by omega)]
      refine hs _ ⟨by rw [z3c]; exact ho1, fun w hw => ?_⟩
      rw [z1i _ _ _ _ (by omega) (by omega) (by omega)]
      by_cases e : w = i
      · subst e; rw [if_pos rfl, if_pos (by omega)]; rfl
      · rw [if_neg (by omega), ho2 w hw]
        by_cases h2 : w < i
        · rw [if_pos h2, if_pos (by omega)]
        · rw [if_neg h2, if_neg (by omega)]
    · intro n o ⟨ho1, ho2⟩
      rw [z0w, if_neg (by simp)]
      congr 2
      refine List.ext_getElem (by simp [ho1]) fun w hw hw2 => ?_
      have := ho2 w (by omega)
      rw [z8f hw, if_pos (by omega)] at this
      simpa using this
  refine z01 (fun n i o => z1l φ n l (cnt p l) ((cnt p l).length : Int) i p o) (cnt p l).length (fun i o => o.length = n0 ∧ ∀ w : Nat, w < n0 → gt o (w : Int) = unsC p l ((cnt p l).take i) w) (fun o => o = some ((List.range n0).map fun (w : Nat) => zaj p l (w : Int), ())) ?_ ?_ φ _ ⟨by simp, fun w hw => ?_⟩ (by unfold cnt; omega)
  · intro n i o hi ⟨ho1, ho2⟩ hs
    have hmem : gt (cnt p l) (i : Int) ∈ cnt p l := zhe (by omega) (by omega)
    obtain ⟨c1, c2, c3⟩ := zv8 hmem
    have hI := zop hc (hl.gt c1 c2) c3
    have hcn : (cnt p l).length ≤ 1000 := by unfold cnt; omega
    rw [z1l, if_pos (by simp; omega), z2 ⟨by omega, by omega⟩, z2 ⟨c1, c2⟩, zrq φ p _ _ hI.read, Option.bind_some]
    have hW : W ((i : Int) + 1) = (i : Int) + 1 := W_id (by omega) (by omega)
    have htake : ∀ w, unsC p l ((cnt p l).take (i + 1)) w = unsC p l ((cnt p l).take i) w ++ (if (gt l (gt (cnt p l) (i : Int))).item.wagon = w then evs p (gt l (gt (cnt p l) (i : Int))) (gt (cnt p l) (i : Int)) else []) := by
      intro w
      rw [z1a _ _ hi]
      simp [unsC]
    generalize gt (cnt p l) (i : Int) = ci at *
    generalize hev : evs p (gt l ci) ci = E at *
    have hE : E.length ≤ 2 := by rw [← hev]; exact zrg _ _ _
    simp only []
    by_cases h0 : 0 < E.length
    · have hkind : (gt l ci).item.kind ≤ 9 := by
        rcases Int.lt_or_le 9 (gt l ci).item.kind with h | h
        · exfalso
          have : E = [] := by
            rw [← hev]; unfold evs
            rw [if_neg (by omega), if_neg (by omega), if_neg (by omega)]
          rw [this] at h0; simp at h0
        · exact h
      have hwg := hI.wagon hkind
      rw [hn0] at hwg
      obtain ⟨w0, hw0⟩ : ∃ w0 : Nat, (gt l ci).item.wagon = (w0 : Int) := ⟨(gt l ci).item.wagon.toNat, by omega⟩
      rw [hw0] at hwg htake ⊢
      have hwg' : (0 : Int) ≤ (w0 : Int) ∧ (w0 : Int) < (o.length : Int) := ⟨by omega, by omega⟩
      have hul := zdn p l w0 ((cnt p l).take i)
      rw [if_pos (by simpa using h0), z2 ⟨c1, c2⟩, z2 hwg', z2 hwg', z2 trivial, ho2 w0 (by omega),
        z2 (zl0 (by rw [List.length_take] at hul; omega) (by omega)), z2 hwg', z2 trivial, hW]
      refine hs _ ⟨by rw [z3c]; exact ho1, fun w hw => ?_⟩
      rw [z1i _ _ _ _ (by omega) (by omega) (by omega), htake]
      by_cases e : (w : Int) = (w0 : Int)
      · rw [if_pos e, e, if_pos rfl]
      · rw [if_neg e, if_neg (fun q => e q.symm), List.append_nil, ho2 w hw]
    · have hnil : E = [] := List.eq_nil_of_length_eq_zero (by omega)
      rw [if_neg (by simpa using h0), hW]
      refine hs _ ⟨ho1, fun w hw => ?_⟩
      rw [htake, hnil, ho2 w hw]
      split <;> simp
  · intro n o ⟨ho1, ho2⟩
    rw [z1l, if_neg (by simp)]
    refine second o ho1 fun w hw => ?_
    rw [ho2 w hw, List.take_length]; rfl
  · rw [z5l _ _ _ (by omega) (by simp; omega)]
    simp [unsC]
    rfl
theorem zxs {p : Pool} {l : List z6} {w : Int} (h0 : 0 ≤ w) (h : w < (p.fleet.wagons.length : Int)) : gt ((List.range p.fleet.wagons.length).map fun (w : Nat) => zaj p l (w : Int)) w = zaj p l w := by
  obtain ⟨n, rfl⟩ : ∃ n : Nat, w = (n : Int) := ⟨w.toNat, by omega⟩
  rw [z8f (by simp; omega)]
  simp
end Px
end
section
namespace Px
open Go
set_option linter.unusedVariables false
set_option linter.unusedSimpArgs false
theorem zjc {p : Pool} {l : List z6} (hl : l.length ≤ 1000) (w : Int) : (zaj p l w).length ≤ 2000 := by
  unfold zaj
  rw [zis, srt, (z2b _ _).length_eq]
  have := zdn p l w (cnt p l)
  have := zez p l l.length
  unfold uns cnt at *
  omega
/-- The visits of a wagon. -/
theorem zz3 (φ : Nat) (hφ : 800000 < φ) (p : Pool) {l : List z6} (hl : FewL l) (w : Int) :
    z72 φ p l w = some (if z1s p = 0 ∧ 0 ≤ w ∧ w < (p.fleet.wagons.length : Int) then (zaj p l w).map (·.visit) else [], ()) := by
  unfold z72
  rw [z5v φ hφ, Option.bind_some]
  by_cases hc : z1s p = 0 ∧ 0 ≤ w ∧ w < (p.fleet.wagons.length : Int)
  case neg =>
    rw [if_neg hc, if_pos (by
      simp only [Bool.or_eq_true, bne_iff_ne, ne_eq, decide_eq_true_eq]
      by_cases h : z1s p = 0
      · omega
      · exact .inl (.inl h))]
  rw [if_pos hc, if_neg (by simp [hc]), zpw φ hφ hc.1 hl, Option.bind_some, z2 ⟨hc.2.1, by simp; exact hc.2.2⟩, zxs hc.2.1 hc.2.2]
  have htl := zjc (p := p) hl.len w
  generalize zaj p l w = t at *
  refine z01 (fun n i acc => z2v φ n t (t.length : Int) i acc) t.length (fun i acc => acc = (t.take i).map (·.visit)) (fun o => o = some (t.map (·.visit), ())) ?_ ?_ φ [] (by simp) (by omega)
  · intro n i acc hi hacc hs
    rw [z2v, if_pos (by simp; omega), z2 ⟨by omega, by omega⟩, z2 (zl0 (by rw [hacc]; simp; omega) (by omega)), W_id (by omega) (by omega)]
    refine hs _ ?_
    rw [hacc, z1a t i hi, List.map_append]; rfl
  · intro n acc hacc
    rw [z2v, if_neg (by simp), hacc, List.take_length]
/-- What the laws ask: a small pool, few reports. -/
theorem y5f (φ : Nat) (hφ : 1000 < φ) (p : Pool) (l : List z6) : ∃ b, zfh φ p l = some (b, ()) ∧ (b = true → FewL l ∧ l.length ≤ 60 ∧ p.network.places.length ≤ 16 ∧ p.network.edges.length ≤ 40 ∧ p.fleet.wagons.length ≤ 8 ∧ p.readers.length ≤ 8) := by
  have hsmall : ∃ b, z6k φ p = some (b, ()) ∧ (b = true → p.network.places.length ≤ 16 ∧ p.network.edges.length ≤ 40 ∧ p.fleet.wagons.length ≤ 8 ∧ p.readers.length ≤ 8) := by
    unfold z6k
    split
    · exact ⟨false, rfl, fun h => by cases h⟩
    · rename_i hc
      simp only [Bool.or_eq_true, decide_eq_true_eq, not_or] at hc
      obtain ⟨⟨⟨⟨⟨⟨c1, c2⟩, c3⟩, c4⟩, c5⟩, c6⟩, c7⟩ := hc
      have : ∃ b, z0r φ φ 0 p = some (b, ()) := by
        refine z01 (fun n i (_ : Unit) => z0r φ n i p) p.railways.length (fun _ _ => True) (fun o => ∃ b, o = some (b, ())) ?_ ?_ φ () trivial (by omega)
        · intro n i _ hi _ hs
          rw [z0r, if_pos (by simp; omega), z2 ⟨by omega, by omega⟩, W_id (by omega) (by omega)]
          split
          · exact ⟨false, rfl⟩
          · exact hs () trivial
        · intro n _ _
          rw [z0r, if_neg (by simp)]
          exact ⟨true, rfl⟩
      obtain ⟨b, hb⟩ := this
      exact ⟨b, hb, fun _ => by omega⟩
  have hfew : ∃ b, z1o φ l 60 = some (b, ()) ∧ (b = true → FewL l ∧ l.length ≤ 60) := by
    unfold z1o
    by_cases h60 : 60 < l.length
    · rw [if_pos (by simp; omega)]
      exact ⟨false, rfl, fun h => by cases h⟩
    · rw [if_neg (by simp; omega)]
      refine z01 (fun n i (_ : Unit) => z07 φ n l i) l.length (fun i _ => ∀ j : Nat, j < i → (gt l (j : Int)).item.parts.length ≤ 40) (fun o => ∃ b, o = some (b, ()) ∧ (b = true → FewL l ∧ l.length ≤ 60)) ?_ ?_ φ () (fun j hj => by omega) (by omega)
      · intro n i _ hi hI hs
        rw [z07, if_pos (by simp; omega), z2 ⟨by omega, by omega⟩, z2 (fun _ => ⟨by omega, by omega⟩), W_id (by omega) (by omega)]
        split
        · exact ⟨false, rfl, fun h => by cases h⟩
        · rename_i hc
          simp only [Bool.or_eq_true, decide_eq_true_eq, not_or] at hc
          refine hs () fun j hj => ?_
          by_cases e : j = i
          · subst e; omega
          · exact hI j (by omega)
      · intro n _ hI
        rw [z07, if_neg (by simp)]
        refine ⟨true, rfl, fun _ => ⟨⟨by omega, fun r hr => ?_⟩, by omega⟩⟩
        obtain ⟨j, hj, rfl⟩ := y4i hr
        have := hI j hj
        omega
  obtain ⟨b1, h1, h2⟩ := hsmall
  obtain ⟨b2, h3, h4⟩ := hfew
  unfold zfh
  rw [h1, Option.bind_some]
  cases b1 with
  | false =>
    rw [gz_f (by simp), Option.bind_some]
    exact ⟨_, rfl, fun h => by cases h⟩
  | true =>
    rw [gz_t rfl, h3, Option.bind_some]
    refine ⟨_, rfl, fun h => ?_⟩
    obtain ⟨q1, q2⟩ := h4 h
    obtain ⟨a1, a2, a3, a4⟩ := h2 rfl
    exact ⟨q1, q2, a1, a2, a3, a4⟩
end Px
end
