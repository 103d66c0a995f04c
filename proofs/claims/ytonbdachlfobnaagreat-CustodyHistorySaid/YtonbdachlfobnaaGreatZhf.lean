/- A part of the proof of custodyHistory_holds. Conditions: none. -/
import Derived.Test.YtonbdachlfobnaaGreatZhe
import Derived.Test.YtonbdachlfobnaaGreatProg
import Derived.Ground.SlsfProg
import Derived.Ground.NamesProg
import Derived.KernelRfl
section
namespace Go.Proofs
open Go.Shelf
def Tryz.sortEv_ren : Go.Shelf.Ren := ⟨fun | 6 => 77 | 15 => 106 | 14 => 105 | 28 => 139 | 29 => 110 | 20 => 131 | 21 => 132 | 22 => 133 | 23 => 134 | 24 => 135 | 25 => 136 | 26 => 137 | 27 => 138 | 46 => 164 | 47 => 165 | 48 => 166 | 49 => 167 | 50 => 168 | 57 => 181 | n => n, fun | 22 => 112 | 24 => 114 | 25 => 171 | 3 => 3 | 39 => 198 | 0 => 0 | 53 => 226 | 55 => 134 | 4 => 4 | 46 => 220 | 45 => 219 | 50 => 103 | 5 => 5 | 9 => 9 | 66 => 248 | 70 => 244 | 76 => 261 | 77 => 262 | n => n, fun | n => n⟩
theorem Tryz.sortEv : Go.Proofs.SlLaysF0.n6 Tryz.prog Tryz.sortEv_ren := {
  mixed := by kernel_rfl
  f6 := ⟨Tryz.f77.name, by decide, Tryz.func77.trans (congrArg some (by kernel_rfl))⟩
  f14 := ⟨Tryz.f105.name, by decide, Tryz.func105.trans (congrArg some (by kernel_rfl))⟩
  f15 := Tryz.func106.trans (congrArg some (by kernel_rfl))
  f20 := ⟨Tryz.f131.name, by decide, Tryz.func131.trans (congrArg some (by kernel_rfl))⟩
  f21 := ⟨Tryz.f132.name, by decide, Tryz.func132.trans (congrArg some (by kernel_rfl))⟩
  f22 := ⟨Tryz.f133.name, by decide, Tryz.func133.trans (congrArg some (by kernel_rfl))⟩
  f23 := ⟨Tryz.f134.name, by decide, Tryz.func134.trans (congrArg some (by kernel_rfl))⟩
  f24 := ⟨Tryz.f135.name, by decide, Tryz.func135.trans (congrArg some (by kernel_rfl))⟩
  f25 := ⟨Tryz.f136.name, by decide, Tryz.func136.trans (congrArg some (by kernel_rfl))⟩
  f26 := ⟨Tryz.f137.name, by decide, Tryz.func137.trans (congrArg some (by kernel_rfl))⟩
  f27 := ⟨Tryz.f138.name, by decide, Tryz.func138.trans (congrArg some (by kernel_rfl))⟩
  f28 := Tryz.func139.trans (congrArg some (by kernel_rfl))
  f29 := Tryz.func110.trans (congrArg some (by kernel_rfl))
  f46 := ⟨Tryz.f164.name, by decide, Tryz.func164.trans (congrArg some (by kernel_rfl))⟩
  f47 := Tryz.func165.trans (congrArg some (by kernel_rfl))
  f48 := Tryz.func166.trans (congrArg some (by kernel_rfl))
  f49 := ⟨Tryz.f167.name, by decide, Tryz.func167.trans (congrArg some (by kernel_rfl))⟩
  f50 := ⟨Tryz.f168.name, by decide, Tryz.func168.trans (congrArg some (by kernel_rfl))⟩
  f57 := ⟨Tryz.f181.name, by decide, Tryz.func181.trans (congrArg some (by kernel_rfl))⟩
  t0 := Tryz.underlying0
  a0 := Tryz.isAgg0
  z0 := Tryz.sizeOf0
  v0 := Tryz.zeroValue0
  t3 := Tryz.underlying3
  a3 := Tryz.isAgg3
  z3 := Tryz.sizeOf3
  v3 := Tryz.zeroValue3
  t4 := Tryz.underlying4
  a4 := Tryz.isAgg4
  z4 := Tryz.sizeOf4
  v4 := Tryz.zeroValue4
  t5 := Tryz.underlying5
  a5 := Tryz.isAgg5
  z5 := Tryz.sizeOf5
  v5 := Tryz.zeroValue5
  t9 := Tryz.underlying9
  a9 := Tryz.isAgg9
  z9 := Tryz.sizeOf9
  v9 := Tryz.zeroValue9
  t22 := Tryz.underlying112
  a22 := Tryz.isAgg112
  z22 := Tryz.sizeOf112
  v22 := Tryz.zeroValue112
  t25 := Tryz.underlying171
  a25 := Tryz.isAgg171
  z25 := Tryz.sizeOf171
  v25 := Tryz.zeroValue171
  t39 := Tryz.underlying198
  a39 := Tryz.isAgg198
  z39 := Tryz.sizeOf198
  v39 := Tryz.zeroValue198
  t45 := Tryz.underlying219
  a45 := Tryz.isAgg219
  z45 := Tryz.sizeOf219
  v45 := Tryz.zeroValue219
  t46 := Tryz.underlying220
  a46 := Tryz.isAgg220
  z46 := Tryz.sizeOf220
  v46 := Tryz.zeroValue220
  t50 := Tryz.underlying103
  a50 := Tryz.isAgg103
  z50 := Tryz.sizeOf103
  v50 := Tryz.zeroValue103
  t53 := Tryz.underlying226
  a53 := Tryz.isAgg226
  z53 := Tryz.sizeOf226
  v53 := Tryz.zeroValue226
  t55 := Tryz.underlying134
  a55 := Tryz.isAgg134
  z55 := Tryz.sizeOf134
  v55 := Tryz.zeroValue134
  t66 := Tryz.underlying248
  a66 := Tryz.isAgg248
  z66 := Tryz.sizeOf248
  v66 := Tryz.zeroValue248
  t70 := Tryz.underlying244
  a70 := Tryz.isAgg244
  z70 := Tryz.sizeOf244
  v70 := Tryz.zeroValue244
  t76 := Tryz.underlying261
  a76 := Tryz.isAgg261
  z76 := Tryz.sizeOf261
  v76 := Tryz.zeroValue261
  t77 := Tryz.underlying262
  a77 := Tryz.isAgg262
  z77 := Tryz.sizeOf262
  v77 := Tryz.zeroValue262 }
def Tryz.lays189_ren : Go.Shelf.Ren := ⟨fun | 189 => 89 | 125 => 106 | 257 => 111 | 128 => 139 | 129 => 110 | 294 => 144 | 295 => 145 | 296 => 146 | 297 => 147 | 298 => 148 | 299 => 149 | 216 => 150 | 300 => 151 | 301 => 152 | 328 => 170 | 329 => 165 | 330 => 166 | 331 => 171 | 332 => 172 | 215 => 107 | 343 => 182 | n => n, fun | 28 => 46 | 3 => 3 | 46 => 198 | 0 => 0 | 51 => 226 | 53 => 134 | 4 => 4 | 183 => 220 | 182 => 219 | 131 => 103 | 5 => 5 | 9 => 9 | 218 => 248 | 222 => 244 | 228 => 261 | 229 => 262 | n => n, fun | n => n⟩
theorem Tryz.lays189 : Go.Proofs.Lays.n189 Tryz.prog Tryz.lays189_ren := {
  mixed := by kernel_rfl
  f125 := Tryz.func106.trans (congrArg some (by kernel_rfl))
  f128 := Tryz.func139.trans (congrArg some (by kernel_rfl))
  f129 := Tryz.func110.trans (congrArg some (by kernel_rfl))
  f189 := Tryz.func89.trans (congrArg some (by kernel_rfl))
  f215 := Tryz.func107.trans (congrArg some (by kernel_rfl))
  f216 := Tryz.func150.trans (congrArg some (by kernel_rfl))
  f257 := Tryz.func111.trans (congrArg some (by kernel_rfl))
  f294 := Tryz.func144.trans (congrArg some (by kernel_rfl))
  f295 := Tryz.func145.trans (congrArg some (by kernel_rfl))
  f296 := Tryz.func146.trans (congrArg some (by kernel_rfl))
  f297 := Tryz.func147.trans (congrArg some (by kernel_rfl))
  f298 := Tryz.func148.trans (congrArg some (by kernel_rfl))
  f299 := Tryz.func149.trans (congrArg some (by kernel_rfl))
  f300 := Tryz.func151.trans (congrArg some (by kernel_rfl))
  f301 := Tryz.func152.trans (congrArg some (by kernel_rfl))
  f328 := Tryz.func170.trans (congrArg some (by kernel_rfl))
  f329 := Tryz.func165.trans (congrArg some (by kernel_rfl))
  f330 := Tryz.func166.trans (congrArg some (by kernel_rfl))
  f331 := Tryz.func171.trans (congrArg some (by kernel_rfl))
  f332 := Tryz.func172.trans (congrArg some (by kernel_rfl))
  f343 := Tryz.func182.trans (congrArg some (by kernel_rfl))
  t0 := Tryz.underlying0
  a0 := Tryz.isAgg0
  z0 := Tryz.sizeOf0
  v0 := Tryz.zeroValue0
  t3 := Tryz.underlying3
  a3 := Tryz.isAgg3
  z3 := Tryz.sizeOf3
  v3 := Tryz.zeroValue3
  t4 := Tryz.underlying4
  a4 := Tryz.isAgg4
  z4 := Tryz.sizeOf4
  v4 := Tryz.zeroValue4
  t5 := Tryz.underlying5
  a5 := Tryz.isAgg5
  z5 := Tryz.sizeOf5
  v5 := Tryz.zeroValue5
  t9 := Tryz.underlying9
  a9 := Tryz.isAgg9
  z9 := Tryz.sizeOf9
  v9 := Tryz.zeroValue9
  t28 := Tryz.underlying46
  a28 := Tryz.isAgg46
  z28 := Tryz.sizeOf46
  v28 := Tryz.zeroValue46
  t46 := Tryz.underlying198
  a46 := Tryz.isAgg198
  z46 := Tryz.sizeOf198
  v46 := Tryz.zeroValue198
  t51 := Tryz.underlying226
  a51 := Tryz.isAgg226
  z51 := Tryz.sizeOf226
  v51 := Tryz.zeroValue226
  t53 := Tryz.underlying134
  a53 := Tryz.isAgg134
  z53 := Tryz.sizeOf134
  v53 := Tryz.zeroValue134
  t131 := Tryz.underlying103
  a131 := Tryz.isAgg103
  z131 := Tryz.sizeOf103
  v131 := Tryz.zeroValue103
  t182 := Tryz.underlying219
  a182 := Tryz.isAgg219
  z182 := Tryz.sizeOf219
  v182 := Tryz.zeroValue219
  t183 := Tryz.underlying220
  a183 := Tryz.isAgg220
  z183 := Tryz.sizeOf220
  v183 := Tryz.zeroValue220
  t218 := Tryz.underlying248
  a218 := Tryz.isAgg248
  z218 := Tryz.sizeOf248
  v218 := Tryz.zeroValue248
  t222 := Tryz.underlying244
  a222 := Tryz.isAgg244
  z222 := Tryz.sizeOf244
  v222 := Tryz.zeroValue244
  t228 := Tryz.underlying261
  a228 := Tryz.isAgg261
  z228 := Tryz.sizeOf261
  v228 := Tryz.zeroValue261
  t229 := Tryz.underlying262
  a229 := Tryz.isAgg262
  z229 := Tryz.sizeOf262
  v229 := Tryz.zeroValue262 }
end Go.Proofs
end
section
namespace Px
open Go
set_option linter.unusedVariables false
set_option linter.unusedSimpArgs false
/-- A loop that counts up. -/
theorem zwa {σ ρ : Type} (L : Nat → Int → σ → Option ρ) (len : Nat) (Inv : Nat → σ → Prop) (G : Option ρ → Prop)
    (step : ∀ n i s, i < len → Inv i s → (∀ s', Inv (i + 1) s' → G (L n ((i : Int) + 1) s')) → G (L (n + 1) i s))
    (done : ∀ n s, Inv len s → G (L (n + 1) len s)) : ∀ n i s, i ≤ len → Inv i s → len - i < n → G (L n i s) := by
  intro n
  induction n with
  | zero => intro i s _ _ h; omega
  | succ n ih =>
    intro i s hi hI hn
    by_cases h : i = len
    · subst h; exact done n s hI
    · refine step n i s (by omega) hI fun s' hs' => ?_
      have := ih (i + 1) s' (by omega) hs' (by omega)
      simpa using this
/-- The same from the start. -/
theorem z04 {σ ρ : Type} (L : Nat → Int → σ → Option ρ) (len : Nat) (Inv : Nat → σ → Prop) (G : Option ρ → Prop)
    (step : ∀ n i s, i < len → Inv i s → (∀ s', Inv (i + 1) s' → G (L n ((i : Int) + 1) s')) → G (L (n + 1) i s))
    (done : ∀ n s, Inv len s → G (L (n + 1) len s)) (n : Nat) (s : σ) (h : Inv 0 s) (hn : len < n) : G (L n 0 s) := by
  simpa using zwa L len Inv G step done n 0 s (Nat.zero_le _) h (by omega)
theorem y9l (x : Int) : W x = if x % 18446744073709551616 ≥ 9223372036854775808 then x % 18446744073709551616 - 18446744073709551616 else x % 18446744073709551616 := by
  simp [W, IntKind.wrap, IntKind.bits, IntKind.signed]
theorem zxf (x : Int) : U x = x % 18446744073709551616 := by
  simp [U, IntKind.wrap, IntKind.bits, IntKind.signed]
theorem W_id {x : Int} (h : -9223372036854775808 ≤ x) (h' : x ≤ 9223372036854775807) : W x = x := by
  rw [y9l]; split <;> omega
theorem U_id {x : Int} (h : 0 ≤ x) (h' : x ≤ 18446744073709551615) : U x = x := by
  rw [zxf]; omega
theorem zm1 {α : Type} [Inhabited α] (ok : α → Bool) (l : List α) (i : Nat) (h : i < l.length) : (l.take (i + 1)).all ok = ((l.take i).all ok && ok (gt l (i : Int))) := by
  rw [List.take_succ_eq_append_getElem h, List.all_append]
  simp [gt, h]
theorem zf7 {α : Type} [Inhabited α] (ok : α → Bool) (l : List α) (i : Nat) (h : i < l.length) : (l.take (i + 1)).any ok = ((l.take i).any ok || ok (gt l (i : Int))) := by
  rw [List.take_succ_eq_append_getElem h, List.any_append]
  simp [gt, h]
theorem z0b {α : Type} [Inhabited α] (l : List α) (i : Nat) (h : i < l.length) : l.take (i + 1) = l.take i ++ [gt l (i : Int)] := by
  rw [List.take_succ_eq_append_getElem h]
  simp [gt, h]
theorem z37 {α : Type} [Inhabited α] {l : List α} {i : Int} (h0 : 0 ≤ i) (h : i < (l.length : Int)) : gt l i ∈ l := by
  have hlt : i.toNat < l.length := by omega
  simp [gt, hlt]
theorem z5b {α : Type} [Inhabited α] {l : List α} {i : Nat} (h : i < l.length) : gt l (i : Int) = l[i] := by
  simp [gt, h]
theorem zv5 {α : Type} [Inhabited α] (l : List α) (i : Nat) (h : i < l.length) : l.drop i = gt l (i : Int) :: l.drop (i + 1) := by
  rw [z5b h, List.getElem_cons_drop]
theorem zrf {α : Type} [Inhabited α] {l : List α} {x : α} (h : x ∈ l) : ∃ i : Nat, i < l.length ∧ gt l (i : Int) = x := by
  obtain ⟨i, hi, e⟩ := List.getElem_of_mem h
  exact ⟨i, hi, by rw [z5b hi, e]⟩
theorem z0d {α : Type} [Inhabited α] (l : List α) (i j : Int) (x : α) (hi : 0 ≤ i) (h : i < (l.length : Int)) (hj : 0 ≤ j) : gt (zy l i x) j = if j = i then x else gt l j := by
  unfold gt zy
  by_cases e : j = i
  · subst e
    have : j.toNat < l.length := by omega
    simp [List.getD, List.getElem?_set, this]
  · have : i.toNat ≠ j.toNat := by omega
    simp [List.getD, List.getElem?_set, this, e]
theorem z2l {α : Type} [Inhabited α] (n : Nat) (x : α) (j : Int) (hj : 0 ≤ j) (h : j < n) : gt (List.replicate n x) j = x := by
  have : j.toNat < n := by omega
  simp [gt, List.getD, List.getElem?_replicate, this]
/-- A loop over a list that remembers whether all its elements were in order. -/
theorem zhz {α ρ : Type} [Inhabited α] (L : Nat → Int → Int → Option ρ) (k : Int → Option ρ) (l : List α) (ok : α → Bool)
    (step : ∀ (n i : Nat) (s : Int), i < l.length → L (n + 1) i s = L n ((i : Int) + 1) (bif ok (gt l i) then s else 1)) (done : ∀ n s, L (n + 1) l.length s = k s) :
    ∀ n s, l.length < n → L n 0 s = k (bif l.all ok then s else 1) := by
  intro n s hn
  refine zwa L l.length (fun i t => t = bif (l.take i).all ok then s else 1) (fun o => o = k (bif l.all ok then s else 1)) ?_ ?_ n 0 s (Nat.zero_le _) (by simp) (by omega)
  · intro n i t hi ht hs
    rw [step n i t hi]
    refine hs _ ?_
    rw [zm1 ok l i hi, ht]
    cases (l.take i).all ok <;> cases ok (gt l (i : Int)) <;> simp
  · intro n t ht
    rw [done, ht, List.take_length]
/-- A loop over a list that ends at the first element of a kind. -/
theorem zx3 {α ρ : Type} [Inhabited α] (L : Nat → Int → Option ρ) (k : Option ρ) (l : List α) (p : α → Bool) (g : α → Option ρ)
    (step : ∀ n i : Nat, i < l.length → L (n + 1) i = bif p (gt l i) then g (gt l i) else L n ((i : Int) + 1)) (done : ∀ n, L (n + 1) l.length = k) :
    ∀ n, l.length < n → L n 0 = match l.find? p with | some x => g x | none => k := by
  intro n hn
  refine z04 (fun n i (_ : Unit) => L n i) l.length (fun i _ => ∀ x ∈ l.take i, p x = false) (fun o => o = match l.find? p with | some x => g x | none => k) ?_ ?_ n () (by simp) hn
  · intro n i _ hi hI hs
    simp only [step n i hi]
    cases e : p (gt l (i : Int)) with
    | false =>
      refine hs () ?_
      rw [z0b l i hi]
      intro x hx
      rcases List.mem_append.1 hx with h | h
      · exact hI x h
      · simp at h; rw [h]; exact e
    | true =>
      have : l.find? p = some (gt l (i : Int)) := by
        have h1 : l = l.take i ++ (gt l (i : Int) :: l.drop (i + 1)) := by
          rw [z5b hi, List.getElem_cons_drop, List.take_append_drop]
        generalize gt l (i : Int) = y at *
        rw [h1, List.find?_append, List.find?_eq_none.2 (fun x hx => by simp [hI x hx])]
        simp [List.find?_cons, e]
      rw [this]; rfl
  · intro n _ hI
    simp only [done]
    rw [List.take_length] at hI
    rw [List.find?_eq_none.2 (fun x hx => by simp [hI x hx])]
theorem zze {α ρ : Type} (l : List α) (p : α → Bool) (r k : ρ) : (match l.find? p with | some _ => r | none => k) = bif l.any p then r else k := by
  induction l with
  | nil => rfl
  | cons x l ih =>
    rw [List.find?_cons, List.any_cons]
    cases p x
    · simpa using ih
    · rfl
theorem zi1 {α ρ : Type} [Inhabited α] (L : Nat → Int → Option ρ) (k r : Option ρ) (l : List α) (p : α → Bool)
    (step : ∀ n i : Nat, i < l.length → L (n + 1) i = bif p (gt l i) then r else L n ((i : Int) + 1)) (done : ∀ n, L (n + 1) l.length = k)
    (n : Nat) (hn : l.length < n) : L n 0 = bif l.any p then r else k := by
  rw [zx3 L k l p (fun _ => r) step done n hn, zze]
def bet (a b c : Int) : Bool := decide (b ≤ a) && decide (a ≤ c)
theorem zqy {a b c : Int} : bet a b c = true ↔ b ≤ a ∧ a ≤ c := by simp [bet]
theorem zum {a b c : Int} (h : bet a b c = true) : b ≤ a ∧ a ≤ c := zqy.1 h
theorem mk_t (n : Int) (b : Nat) (h0 : 0 ≤ n) (h : n ≤ 100000) (hb : b ≤ 1000000) : z0c n b := by
  refine ⟨h0, ?_, by omega⟩
  have : (b : Int) * n ≤ 1000000 * 100000 := Int.mul_le_mul (by omega) h h0 (by omega)
  omega
theorem zub {x y z : Int} : min2 x y < z ↔ x < z ∨ y < z := by unfold min2; split <;> omega
theorem y5j {x y z : Int} : z < max2 x y ↔ z < x ∨ z < y := by unfold max2; split <;> omega
end Px
end
section
namespace Px
open Go
set_option linter.unusedVariables false
set_option linter.unusedSimpArgs false
theorem zpi {a b : Int} : cmpI a b < 0 ↔ a < b := by unfold cmpI; (repeat' split) <;> omega
theorem zql {a b : Int} : cmpI a b = 0 ↔ a = b := by unfold cmpI; (repeat' split) <;> omega
theorem y7h {a b c d e : Int} : or5 a b c d e < 0 ↔ a < 0 ∨ (a = 0 ∧ (b < 0 ∨ (b = 0 ∧ (c < 0 ∨ (c = 0 ∧ (d < 0 ∨ (d = 0 ∧ e < 0))))))) := by
  unfold or5
  by_cases h1 : a = 0
  · by_cases h2 : b = 0
    · by_cases h3 : c = 0
      · by_cases h4 : d = 0
        · simp [h1, h2, h3, h4]
        · simp [h1, h2, h3, h4]
      · simp [h1, h2, h3]
    · simp [h1, h2]
  · simp [h1]
/-- Is an event before another one? -/
theorem zi7 {a b : z1} : cfEv a b < 0 ↔ a.visit.early < b.visit.early ∨ (a.visit.early = b.visit.early ∧ (a.visit.ref.railway < b.visit.ref.railway ∨ (a.visit.ref.railway = b.visit.ref.railway ∧ (a.visit.ref.no < b.visit.ref.no ∨ (a.visit.ref.no = b.visit.ref.no ∧
    (ordB a.second < ordB b.second ∨ (ordB a.second = ordB b.second ∧ a.report < b.report))))))) := by
  unfold cfEv
  rw [y7h, zpi, zpi, zpi, zql, zql, zql]
  have e1 : ∀ x y : Int, (x - y < 0) = (x < y) := fun x y => propext ⟨fun h => by omega, fun h => by omega⟩
  have e2 : ∀ x y : Int, (x - y = 0) = (x = y) := fun x y => propext ⟨fun h => by omega, fun h => by omega⟩
  rw [e1, e1, e2]
theorem zyw : Sort.SWO (Proofs.ltOf fun a b : {y : z1 // okEv y = true} => cfEv a.1 b.1) where
  irrefl := fun x => by
    simp only [Proofs.ltOf, decide_eq_false_iff_not]
    rw [zi7]
    omega
  trans := fun x y z h1 h2 => by
    simp only [Proofs.ltOf, decide_eq_true_eq] at *
    rw [zi7] at *
    omega
  ntrans := fun x y z h1 h2 => by
    simp only [Proofs.ltOf, decide_eq_false_iff_not] at *
    rw [zi7] at *
    omega
theorem zt1 (φ : Nat) (a b : Int) : z6l φ a b = some (cmpI a b, ()) := by
  unfold z6l cmpI
  simp only [bne_self_eq_false, Bool.false_eq_true, if_false, decide_eq_true_eq]
  split
  · rfl
  · split <;> rfl
theorem y06 (φ : Nat) (b : Bool) : z8z φ b = some (ordB b, ()) := by
  unfold z8z ordB
  split <;> rfl
theorem y9a (φ : Nat) (h : 6 ≤ φ) (a b c d e : Int) : zr5 φ [a, b, c, d, e] = some (or5 a b c d e, ()) := by
  obtain ⟨n, rfl⟩ : ∃ n, φ = n + 6 := ⟨φ - 6, by omega⟩
  unfold zr5 or5
  simp only [zeu, List.length_cons, List.length_nil]
  have w : ∀ x : Int, 0 ≤ x → x < 100 → W (x + 1) = x + 1 := fun x h1 h2 => W_id (by omega) (by omega)
  have g0 : gt [a, b, c, d, e] 0 = a := rfl
  have g1 : gt [a, b, c, d, e] 1 = b := rfl
  have g2 : gt [a, b, c, d, e] 2 = c := rfl
  have g3 : gt [a, b, c, d, e] 3 = d := rfl
  have g4 : gt [a, b, c, d, e] 4 = e := rfl
  rw [w 0 (by omega) (by omega), show (0 : Int) + 1 = 1 by rfl, w 1 (by omega) (by omega), show (1 : Int) + 1 = 2 by rfl, w 2 (by omega) (by omega), show (2 : Int) + 1 = 3 by rfl, w 3 (by omega) (by omega), show (3 : Int) + 1 = 4 by rfl, w 4 (by omega) (by omega), show (4 : Int) + 1 = 5 by rfl, g0, g1, g2, g3, g4]
  simp [ck]
  repeat' (split; try rfl)
  all_goals simp_all
theorem znk (φ : Nat) (h : 6 ≤ φ) (a b : z1) (ha : okEv a = true) (hb : okEv b = true) : z6y φ a b = some (cfEv a b, ()) := by
  simp only [okEv, decide_eq_true_eq] at ha hb
  unfold z6y cfEv
  simp only [zt1, y06, Option.bind_some]
  have w1 : W (ordB a.second - ordB b.second) = ordB a.second - ordB b.second := by
    have : ∀ x : Bool, 0 ≤ ordB x ∧ ordB x ≤ 1 := fun x => by cases x <;> decide
    have h1 := this a.second
    have h2 := this b.second
    exact W_id (by omega) (by omega)
  rw [w1, W_id (by omega) (by omega), y9a φ h]
  rfl
theorem zps (a b : z1) (ha : okEv a = true) (hb : okEv b = true) : z6y 10 a b = some (cfEv a b, ()) := znk 10 (by omega) a b ha hb
end Px
end
section
set_option linter.unusedVariables false
set_option linter.unusedSimpArgs false
set_option maxHeartbeats 4000000
set_option maxRecDepth 100000
namespace Px
open Go Go.RowKit Go.Proofs
def z85 (φ : Nat) : H TV (RTup TT [.val 0]) := .x
def zaw (P : Program) (φ : Nat) : Env TV := ⟨P, lk [], lk [], lk []⟩
theorem zmk (φ : Nat) (a) : (zap φ).F a = fnX TV (zaw Tryz.prog φ) φ Tryz.f80 [0, 0] [.val 0] (z85 φ) a := by kernel_rfl
theorem zmo (φ : Nat) : fnO TV (zaw Tryz.prog φ) φ Tryz.f80 [.val 0] (z85 φ) := by
  unfold fnO
  show obl _ _ _ _ _ _ _
  unfold z85
  repeat' (first | exact trivial | (refine ⟨?_, ?_⟩) | (intro _) | kernel_rfl)
theorem zlx (φ : Nat) : z19 TV Tryz.prog 80 (zap φ) :=
  z1p (N := zaw Tryz.prog φ) (zz trivial trivial trivial) (z85 φ) Tryz.func80 (by kernel_rfl) (zmk φ) (zmo φ)
def zph : Msp TV := ⟨3, 0, [], zmh⟩
theorem zx4 : zvt TV Tryz.prog 89 zph := fun l l' sv h => znr (ρ := Tryz.lays189_ren) Tryz.lays189 h
def z89 (φ : Nat) : H TV (RTup TT [.val 0]) := .x
def zal (P : Program) (φ : Nat) : Env TV := ⟨P, lk [], lk [], lk []⟩
theorem zlk (φ : Nat) (a) : (zb2 φ).F a = fnX TV (zal Tryz.prog φ) φ Tryz.f81 [2] [.val 0] (z89 φ) a := by kernel_rfl
theorem zlw (φ : Nat) : fnO TV (zal Tryz.prog φ) φ Tryz.f81 [.val 0] (z89 φ) := by
  unfold fnO
  show obl _ _ _ _ _ _ _
  unfold z89
  repeat' (first | exact trivial | (refine ⟨?_, ?_⟩) | (intro _) | kernel_rfl)
theorem zm4 (φ : Nat) : z19 TV Tryz.prog 81 (zb2 φ) :=
  z1p (N := zal Tryz.prog φ) (zz trivial trivial trivial) (z89 φ) Tryz.func81 (by kernel_rfl) (zlk φ) (zlw φ)
def zht (φ : Nat) : H TV (RTup TT [.val 0]) := (.seq .x (.seq .x (.seq (.seq .x (.body (.loop ⟨[(18, [(3, .val 0), (6, .val 5), (7, .val 0), (8, .val 0)])], []⟩ (fun n z => zeu φ n z.1 z.2.1 z.2.2.1 z.2.2.2.1) (fun zk6 => .x)))) .x)))
def zmq (P : Program) (φ : Nat) : Env TV := ⟨P, lk [], lk [], lk []⟩
theorem zzu (φ : Nat) (a) : (zl9 φ).F a = fnX TV (zmq Tryz.prog φ) φ Tryz.f79 [5] [.val 0] (zht φ) a := by kernel_rfl
theorem y0o (φ : Nat) : fnO TV (zmq Tryz.prog φ) φ Tryz.f79 [.val 0] (zht φ) := by
  unfold fnO
  show obl _ _ _ _ _ _ _
  unfold zht
  repeat' (first | exact trivial | (refine ⟨?_, ?_⟩) | (intro _) | kernel_rfl)
theorem y0w (φ : Nat) : z19 TV Tryz.prog 79 (zl9 φ) :=
  z1p (N := zmq Tryz.prog φ) (zz trivial trivial trivial) (zht φ) Tryz.func79 (by kernel_rfl) (zzu φ) (y0o φ)
def z4r (φ : Nat) : H TV (RTup TT [.val 0]) := .x
def z7o (P : Program) (φ : Nat) : Env TV := ⟨P, lk [(80, zap φ), (81, zb2 φ), (79, zl9 φ)], lk [], lk []⟩
theorem zh1 (φ : Nat) (a) : (zb8 φ).F a = fnX TV (z7o Tryz.prog φ) φ Tryz.f78 [4, 4] [.val 0] (z4r φ) a := by kernel_rfl
theorem zh3 (φ : Nat) : fnO TV (z7o Tryz.prog φ) φ Tryz.f78 [.val 0] (z4r φ) := by
  unfold fnO
  show obl _ _ _ _ _ _ _
  unfold z4r
  repeat' (first | exact trivial | (refine ⟨?_, ?_⟩) | (intro _) | kernel_rfl)
theorem zhb (φ : Nat) : z19 TV Tryz.prog 78 (zb8 φ) :=
  z1p (N := z7o Tryz.prog φ) (zz ⟨zlx φ, zm4 φ, y0w φ, trivial⟩ trivial trivial) (z4r φ) Tryz.func78 (by kernel_rfl) (zh1 φ) (zh3 φ)
def zrg : Msp TV := ⟨114, 4, [78], sortEv⟩
theorem y09 : zvt TV Tryz.prog 77 zrg :=
  zxc (V := TV) (c := 4) (ρ := Tryz.sortEv_ren) Tryz.sortEv Tryz.isAgg114 (by rw [show TV.sz 4 = 11 by kernel_rfl]; exact Tryz.sizeOf114) (by kernel_rfl) (by kernel_rfl) ⟨Tryz.f78, Tryz.func78, by kernel_rfl, by kernel_rfl⟩ zyw fun a b ha hb =>
    (zhb 10 (a, b, ()) (cfEv a b, ()) (zps a b ha hb)).mono fun x news ⟨B, hB, h1, h2⟩ => by
      cases B with
      | nil => exact ⟨h1, h2⟩
      | cons y B => cases hB
def z9d (φ : Nat) : H TV (RTup TT [.val 10]) := .x
def zbo (P : Program) (φ : Nat) : Env TV := ⟨P, lk [], lk [], lk []⟩
theorem zov (φ : Nat) (a) : (zcg φ).F a = fnX TV (zbo Tryz.prog φ) φ Tryz.f31 [0, 0, 0, 0] [.val 10] (z9d φ) a := by kernel_rfl
theorem zoa (φ : Nat) : fnO TV (zbo Tryz.prog φ) φ Tryz.f31 [.val 10] (z9d φ) := by
  unfold fnO
  show obl _ _ _ _ _ _ _
  unfold z9d
  repeat' (first | exact trivial | (refine ⟨?_, ?_⟩) | (intro _) | kernel_rfl)
theorem zny (φ : Nat) : z19 TV Tryz.prog 31 (zcg φ) :=
  z1p (N := zbo Tryz.prog φ) (zz trivial trivial trivial) (z9d φ) Tryz.func31 (by kernel_rfl) (zov φ) (zoa φ)
def z9m (φ : Nat) : H TV (RTup TT [.val 10]) := .x
def zcm (P : Program) (φ : Nat) : Env TV := ⟨P, lk [], lk [], lk []⟩
theorem zot (φ : Nat) (a) : (zco φ).F a = fnX TV (zcm Tryz.prog φ) φ Tryz.f32 [0, 0, 0] [.val 10] (z9m φ) a := by kernel_rfl
theorem zpb (φ : Nat) : fnO TV (zcm Tryz.prog φ) φ Tryz.f32 [.val 10] (z9m φ) := by
  unfold fnO
  show obl _ _ _ _ _ _ _
  unfold z9m
  repeat' (first | exact trivial | (refine ⟨?_, ?_⟩) | (intro _) | kernel_rfl)
theorem zos (φ : Nat) : z19 TV Tryz.prog 32 (zco φ) :=
  z1p (N := zcm Tryz.prog φ) (zz trivial trivial trivial) (z9m φ) Tryz.func32 (by kernel_rfl) (zot φ) (zpb φ)
def z9p (φ : Nat) : H TV (RTup TT [.val 35]) := .x
def zca (P : Program) (φ : Nat) : Env TV := ⟨P, lk [], lk [], lk []⟩
theorem zob (φ : Nat) (a) : (z7e φ).F a = fnX TV (zca Tryz.prog φ) φ Tryz.f33 [] [.val 35] (z9p φ) a := by kernel_rfl
theorem zo9 (φ : Nat) : fnO TV (zca Tryz.prog φ) φ Tryz.f33 [.val 35] (z9p φ) := by
  unfold fnO
  show obl _ _ _ _ _ _ _
  unfold z9p
  repeat' (first | exact trivial | (refine ⟨?_, ?_⟩) | (intro _) | kernel_rfl)
theorem zc4 (φ : Nat) : z19 TV Tryz.prog 33 (z7e φ) :=
  z1p (N := zca Tryz.prog φ) (zz trivial trivial trivial) (z9p φ) Tryz.func33 (by kernel_rfl) (zob φ) (zo9 φ)
def z5o (φ : Nat) : H TV (RTup TT [.val 2]) := .x
def z8y (P : Program) (φ : Nat) : Env TV := ⟨P, lk [], lk [], lk []⟩
theorem zjk (φ : Nat) (a) : (z8k φ).F a = fnX TV (z8y Tryz.prog φ) φ Tryz.f85 [11] [.val 2] (z5o φ) a := by kernel_rfl
theorem zio (φ : Nat) : fnO TV (z8y Tryz.prog φ) φ Tryz.f85 [.val 2] (z5o φ) := by
  unfold fnO
  show obl _ _ _ _ _ _ _
  unfold z5o
  repeat' (first | exact trivial | (refine ⟨?_, ?_⟩) | (intro _) | kernel_rfl)
theorem zjg (φ : Nat) : z19 TV Tryz.prog 85 (z8k φ) :=
  z1p (N := z8y Tryz.prog φ) (zz trivial trivial trivial) (z5o φ) Tryz.func85 (by kernel_rfl) (zjk φ) (zio φ)
def z5r (φ : Nat) : H TV (RTup TT [.val 0]) := (.seq .x (.seq .x (.seq .x (.seq (.seq .x (.body (.loop ⟨[(84, [(1, .ptr 0 0), (3, .val 0), (20, .val 12), (21, .val 0), (22, .val 0)])], [.box 25 [.val 15]]⟩ (fun n z => z2i φ n z.1 z.2.1 z.2.2.1 z.2.2.2.1 z.2.2.2.2.1) (fun zk7 => .x)))) (.seq (.seq .x (.body (.loop ⟨[(84, [(3, .val 0), (31, .val 14), (32, .val 0), (33, .val 0)])], []⟩ (fun n z => z1i φ n z.1 z.2.1 z.2.2.1 z.2.2.2.1) (fun zk13 => .x)))) .x)))))
def z8q (P : Program) (φ : Nat) : Env TV := ⟨P, lk [(85, z8k φ)], lk [], lk []⟩
theorem zic (φ : Nat) (a) : (z68 φ).F a = fnX TV (z8q Tryz.prog φ) φ Tryz.f54 [15] [.val 0] (z5r φ) a := by kernel_rfl
theorem zjn (φ : Nat) : fnO TV (z8q Tryz.prog φ) φ Tryz.f54 [.val 0] (z5r φ) := by
  unfold fnO
  show obl _ _ _ _ _ _ _
  unfold z5r
  repeat' (first | exact trivial | (refine ⟨?_, ?_⟩) | (intro _) | kernel_rfl)
theorem zc6 (φ : Nat) : z19 TV Tryz.prog 54 (z68 φ) :=
  z1p (N := z8q Tryz.prog φ) (zz ⟨zjg φ, trivial⟩ trivial trivial) (z5r φ) Tryz.func54 (by kernel_rfl) (zic φ) (zjn φ)
def z5d (φ : Nat) : H TV (RTup TT [.val 2]) := .x
def z96 (P : Program) (φ : Nat) : Env TV := ⟨P, lk [], lk [], lk []⟩
theorem zi6 (φ : Nat) (a) : (z5a φ).F a = fnX TV (z96 Tryz.prog φ) φ Tryz.f56 [0, 0, 0] [.val 2] (z5d φ) a := by kernel_rfl
theorem zjt (φ : Nat) : fnO TV (z96 Tryz.prog φ) φ Tryz.f56 [.val 2] (z5d φ) := by
  unfold fnO
  show obl _ _ _ _ _ _ _
  unfold z5d
  repeat' (first | exact trivial | (refine ⟨?_, ?_⟩) | (intro _) | kernel_rfl)
theorem zcl (φ : Nat) : z19 TV Tryz.prog 56 (z5a φ) :=
  z1p (N := z96 Tryz.prog φ) (zz trivial trivial trivial) (z5d φ) Tryz.func56 (by kernel_rfl) (zi6 φ) (zjt φ)
def z80 (φ : Nat) : H TV (RTup TT [.val 0]) := (.seq .x (.seq .x (.seq .x (.seq .x (.seq (.seq .x (.body (.loop ⟨[(206, [(1, .ptr 0 0), (3, .ptr 1 0), (4, .func 86 [.ptr 1 0]), (41, .val 18), (42, .val 0), (43, .val 0)])], [.box 31 [.val 25], .box 41 [.val 0]]⟩ (fun n z => z2n φ n z.1 z.2.1 z.2.2.1 z.2.2.2.1 z.2.2.2.2.1) (fun zk7 => (.seq .x (.seq .x (.seq (.body (.seq .x (.seq (.seq .x (.body (.loop ⟨[(206, [(1, .ptr 0 0), (3, .ptr 1 0), (4, .func 86 [.ptr 1 0]), (6, .ptr 2 0), (41, .val 18), (42, .val 0), (43, .val 0), (55, .own 3), (56, .val 0), (57, .val 0)])], [.box 31 [.val 25], .box 41 [.val 0], .box 153 [.val 17], .row 3 0]⟩ (fun n z => z1n φ (fun a0 a1 a2 a3 a4 => zk7 (a0, a1, a2, a3, a4, ())) n z.1 z.2.1 z.2.2.1 z.2.2.2.1 z.2.2.2.2.1 z.2.2.2.2.2.1 z.2.2.2.2.2.2.1 z.2.2.2.2.2.2.2.1 z.2.2.2.2.2.2.2.2.1) (fun zk17 => .x)))) .x))) .x))))))) (.seq (.seq .x (.body (.loop ⟨[(206, [(1, .ptr 0 0), (3, .ptr 1 0), (4, .func 86 [.ptr 1 0]), (83, .val 20), (84, .val 0), (85, .val 0)])], [.box 31 [.val 25], .box 41 [.val 0]]⟩ (fun n z => z07 φ n z.1 z.2.1 z.2.2.1 z.2.2.2.1 z.2.2.2.2.1) (fun zk27 => .x)))) (.seq (.seq .x (.body (.loop ⟨[(206, [(1, .ptr 0 0), (3, .ptr 1 0), (4, .func 86 [.ptr 1 0]), (120, .val 22), (121, .val 0), (122, .val 0)])], [.box 31 [.val 25], .box 41 [.val 0]]⟩ (fun n z => z0r φ n z.1 z.2.1 z.2.2.1 z.2.2.2.1 z.2.2.2.2.1) (fun zk40 => .x)))) (.seq .x (.seq (.seq .x (.body (.loop ⟨[(206, [(3, .ptr 0 0), (4, .func 86 [.ptr 0 0]), (13, .ptr 1 0), (158, .val 24), (159, .val 0), (160, .val 0)])], [.box 41 [.val 0], .box 179 [.val 36]]⟩ (fun n z => zq φ n z.1 z.2.1 z.2.2.1 z.2.2.2.1 z.2.2.2.2.1) (fun zk49 => .x)))) .x)))))))))
def zb0 (P : Program) (φ : Nat) : Env TV := ⟨P, lk [(56, z5a φ)], lk [], lk []⟩
theorem zl8 (φ : Nat) (a) : (zay φ).F a = fnX TV (zb0 Tryz.prog φ) φ Tryz.f55 [25] [.val 0] (z80 φ) a := by kernel_rfl
theorem zl7 (φ : Nat) : fnO TV (zb0 Tryz.prog φ) φ Tryz.f55 [.val 0] (z80 φ) := by
  unfold fnO
  show obl _ _ _ _ _ _ _
  unfold z80
  repeat' (first | exact trivial | (refine ⟨?_, ?_⟩) | (intro _) | kernel_rfl)
theorem zl3 (φ : Nat) : z19 TV Tryz.prog 55 (zay φ) :=
  z1p (N := zb0 Tryz.prog φ) (zz ⟨zcl φ, trivial⟩ trivial trivial) (z80 φ) Tryz.func55 (by kernel_rfl) (zl8 φ) (zl7 φ)
def z4u (φ : Nat) : H TV (RTup TT [.val 0]) := (.seq .x (.seq (.seq .x (.body (.loop ⟨[(45, [(1, .ptr 0 0), (9, .val 31), (10, .val 0)])], [.box 139 [.val 32]]⟩ (fun n z => z23 φ n z.1 z.2.1 z.2.2.1) (fun zk5 => .x)))) (.seq .x (.seq (.seq .x (.body (.loop ⟨[(45, [(5, .val 0), (30, .val 5), (31, .val 0), (32, .val 0)])], []⟩ (fun n z => z1s φ n z.1 z.2.1 z.2.2.1 z.2.2.2.1) (fun zk10 => .x)))) .x))))
def z7v (P : Program) (φ : Nat) : Env TV := ⟨P, lk [], lk [], lk []⟩
theorem zh9 (φ : Nat) (a) : (z7p φ).F a = fnX TV (z7v Tryz.prog φ) φ Tryz.f57 [32] [.val 0] (z4u φ) a := by kernel_rfl
theorem zhm (φ : Nat) : fnO TV (z7v Tryz.prog φ) φ Tryz.f57 [.val 0] (z4u φ) := by
  unfold fnO
  show obl _ _ _ _ _ _ _
  unfold z4u
  repeat' (first | exact trivial | (refine ⟨?_, ?_⟩) | (intro _) | kernel_rfl)
theorem zhj (φ : Nat) : z19 TV Tryz.prog 57 (z7p φ) :=
  z1p (N := z7v Tryz.prog φ) (zz trivial trivial trivial) (z4u φ) Tryz.func57 (by kernel_rfl) (zh9 φ) (zhm φ)
def z9e (φ : Nat) : H TV (RTup TT [.val 16, .val 16]) := .x
def zbp (P : Program) (φ : Nat) : Env TV := ⟨P, lk [], lk [], lk []⟩
theorem znh (φ : Nat) (a) : (z9b φ).F a = fnX TV (zbp Tryz.prog φ) φ Tryz.f141 [16, 16] [.val 16, .val 16] (z9e φ) a := by kernel_rfl
theorem zo7 (φ : Nat) : fnO TV (zbp Tryz.prog φ) φ Tryz.f141 [.val 16, .val 16] (z9e φ) := by
  unfold fnO
  show obl _ _ _ _ _ _ _
  unfold z9e
  repeat' (first | exact trivial | (refine ⟨?_, ?_⟩) | (intro _) | kernel_rfl)
theorem zgs (φ : Nat) : z19 TV Tryz.prog 141 (z9b φ) :=
  z1p (N := zbp Tryz.prog φ) (zz trivial trivial trivial) (z9e φ) Tryz.func141 (by kernel_rfl) (znh φ) (zo7 φ)
def z2m (φ : Nat) : H TV (RTup TT [.val 0]) := (.seq .x (.seq (.ins 1 110 (.seq .x (.seq (.join ⟨[(25, [(0, .val 16), (2, .val 0)]), (6, [])], []⟩ (fun z => z1a φ z.1 z.2.1) (.seq .x .x)) (.seq (.join ⟨[(25, [(0, .val 16), (2, .val 0)]), (6, [])], []⟩ (fun z => z1b φ z.1 z.2.1) (.seq .x .x)) (.seq (.join ⟨[(25, [(0, .val 16), (2, .val 0)]), (6, [])], []⟩ (fun z => z14 φ z.1 z.2.1) (.seq .x .x)) .x)))) .x) .x))
def z3n (P : Program) (φ : Nat) : Env TV := ⟨P, lk [], lk [], lk []⟩
theorem zc3 (φ : Nat) (a) : (z3q φ).F a = fnX TV (z3n Tryz.prog φ) φ Tryz.f169 [16] [.val 0] (z2m φ) a := by kernel_rfl
theorem zbi (φ : Nat) : fnO TV (z3n Tryz.prog φ) φ Tryz.f169 [.val 0] (z2m φ) := by
  unfold fnO
  show obl _ _ _ _ _ _ _
  unfold z2m
  repeat' (first | exact trivial | (refine ⟨?_, ?_⟩) | (intro _) | kernel_rfl)
theorem zby (φ : Nat) : z19 TV Tryz.prog 169 (z3q φ) :=
  z1p (N := z3n Tryz.prog φ) (zz trivial trivial trivial) (z2m φ) Tryz.func169 (by kernel_rfl) (zc3 φ) (zbi φ)
def z9f (φ : Nat) : H TV (RTup TT [.val 16, .val 16]) := (.seq .x (.seq .x (.seq .x (.seq .x (.seq .x (.seq .x (.seq .x (.seq .x (.seq .x (.seq .x (.seq .x (.seq .x (.seq .x (.seq .x (.seq (.join ⟨[(135, [(2, .val 16), (8, .val 16), (9, .val 16), (10, .val 16), (11, .val 16), (13, .val 16), (14, .val 16), (15, .val 16)])], []⟩ (fun z => z4o φ z.1 z.2.1 z.2.2.1 z.2.2.2.1 z.2.2.2.2.1 z.2.2.2.2.2.1 z.2.2.2.2.2.2.1 z.2.2.2.2.2.2.2.1) (.body (.loop ⟨[(135, [(2, .val 16), (8, .val 16), (9, .val 16), (10, .val 16), (11, .val 16), (13, .val 16), (14, .val 16), (15, .val 16), (16, .val 16)])], []⟩ (fun n z => z4m φ n z.1 z.2.1 z.2.2.1 z.2.2.2.1 z.2.2.2.2.1 z.2.2.2.2.2.1 z.2.2.2.2.2.2.1 z.2.2.2.2.2.2.2.1 z.2.2.2.2.2.2.2.2.1) (fun zk40 => .x)))) (.seq .x (.seq .x (.seq .x (.seq (.join ⟨[(135, [(2, .val 16), (8, .val 16), (14, .val 16), (15, .val 16), (17, .val 16), (18, .val 16)])], []⟩ (fun z => z4k φ z.1 z.2.1 z.2.2.1 z.2.2.2.1 z.2.2.2.2.1 z.2.2.2.2.2.1) (.body (.loop ⟨[(135, [(2, .val 16), (8, .val 16), (9, .val 16), (10, .val 16), (14, .val 16), (15, .val 16), (16, .val 16), (17, .val 16), (18, .val 16)])], []⟩ (fun n z => z4f φ n z.1 z.2.1 z.2.2.1 z.2.2.2.1 z.2.2.2.2.1 z.2.2.2.2.2.1 z.2.2.2.2.2.2.1 z.2.2.2.2.2.2.2.1 z.2.2.2.2.2.2.2.2.1) (fun zk30 => .x)))) .x)))))))))))))))))))
def zc9 (P : Program) (φ : Nat) : Env TV := ⟨P, lk [(169, z3q φ)], lk [], lk []⟩
theorem zoi (φ : Nat) (a) : (zcn φ).F a = fnX TV (zc9 Tryz.prog φ) φ Tryz.f143 [16, 16, 16] [.val 16, .val 16] (z9f φ) a := by kernel_rfl
theorem zoq (φ : Nat) : fnO TV (zc9 Tryz.prog φ) φ Tryz.f143 [.val 16, .val 16] (z9f φ) := by
  unfold fnO
  show obl _ _ _ _ _ _ _
  unfold z9f
  repeat' (first | exact trivial | (refine ⟨?_, ?_⟩) | (intro _) | kernel_rfl)
theorem zop (φ : Nat) : z19 TV Tryz.prog 143 (zcn φ) :=
  z1p (N := zc9 Tryz.prog φ) (zz ⟨zby φ, trivial⟩ trivial trivial) (z9f φ) Tryz.func143 (by kernel_rfl) (zoi φ) (zoq φ)
def zd2 (φ : Nat) : H TV (RTup TT [.val 16]) := (.seq .x (.seq .x (.seq .x (.seq (.seq (.ins 1 110 (.seq .x (.seq (.join ⟨[(25, [(0, .val 16), (2, .val 0)]), (33, [(0, .val 16), (1, .val 16), (5, .func 142 [.ptr 0 0]), (6, .val 16)])], [.box 134 [.val 16]]⟩ (fun z => z8u φ z.1 z.2.1 z.2.2.1 z.2.2.2.1 z.2.2.2.2.1 z.2.2.2.2.2.1) (.seq .x .x)) (.seq (.join ⟨[(25, [(0, .val 16), (2, .val 0)]), (33, [(0, .val 16), (1, .val 16), (5, .func 142 [.ptr 0 0]), (6, .val 16)])], [.box 134 [.val 16]]⟩ (fun z => z79 φ z.1 z.2.1 z.2.2.1 z.2.2.2.1 z.2.2.2.2.1 z.2.2.2.2.2.1) (.seq .x .x)) (.seq (.join ⟨[(25, [(0, .val 16), (2, .val 0)]), (33, [(0, .val 16), (1, .val 16), (5, .func 142 [.ptr 0 0]), (6, .val 16)])], [.box 134 [.val 16]]⟩ (fun z => z7b φ z.1 z.2.1 z.2.2.1 z.2.2.2.1 z.2.2.2.2.1 z.2.2.2.2.2.1) (.seq .x .x)) .x)))) .x) (.body (.loop ⟨[(33, [(0, .val 16), (1, .val 16), (5, .func 142 [.ptr 0 0]), (6, .val 16), (10, .val 0), (11, .val 0)])], [.box 134 [.val 16]]⟩ (fun n z => z0a φ n z.1 z.2.1 z.2.2.1 z.2.2.2.1 z.2.2.2.2.1 z.2.2.2.2.2.1) (fun zk30 => (.seq .x (.seq .x (.seq (.body (.seq .x (.seq .x (.seq (.ins 2 110 (.seq .x (.seq (.join ⟨[(25, [(0, .val 16), (2, .val 0)]), (33, [(0, .val 16), (1, .val 16), (5, .func 142 [.ptr 0 0]), (6, .val 16), (7, .val 0), (10, .val 0), (11, .val 0), (18, .val 16)])], [.box 134 [.val 16]]⟩ (fun z => z2k φ (fun a0 a1 a2 a3 a4 a5 => zk30 (a0, a1, a2, a3, a4, a5, ())) z.1 z.2.1 z.2.2.1 z.2.2.2.1 z.2.2.2.2.1 z.2.2.2.2.2.1 z.2.2.2.2.2.2.1 z.2.2.2.2.2.2.2.1 z.2.2.2.2.2.2.2.2.1 z.2.2.2.2.2.2.2.2.2.1) (.seq .x .x)) (.seq (.join ⟨[(25, [(0, .val 16), (2, .val 0)]), (33, [(0, .val 16), (1, .val 16), (5, .func 142 [.ptr 0 0]), (6, .val 16), (7, .val 0), (10, .val 0), (11, .val 0), (18, .val 16)])], [.box 134 [.val 16]]⟩ (fun z => z7c φ (fun a0 a1 a2 a3 a4 a5 => zk30 (a0, a1, a2, a3, a4, a5, ())) z.1 z.2.1 z.2.2.1 z.2.2.2.1 z.2.2.2.2.1 z.2.2.2.2.2.1 z.2.2.2.2.2.2.1 z.2.2.2.2.2.2.2.1 z.2.2.2.2.2.2.2.2.1 z.2.2.2.2.2.2.2.2.2.1) (.seq .x .x)) (.seq (.join ⟨[(25, [(0, .val 16), (2, .val 0)]), (33, [(0, .val 16), (1, .val 16), (5, .func 142 [.ptr 0 0]), (6, .val 16), (7, .val 0), (10, .val 0), (11, .val 0), (18, .val 16)])], [.box 134 [.val 16]]⟩ (fun z => z7d φ (fun a0 a1 a2 a3 a4 a5 => zk30 (a0, a1, a2, a3, a4, a5, ())) z.1 z.2.1 z.2.2.1 z.2.2.2.1 z.2.2.2.2.1 z.2.2.2.2.2.1 z.2.2.2.2.2.2.1 z.2.2.2.2.2.2.2.1 z.2.2.2.2.2.2.2.2.1 z.2.2.2.2.2.2.2.2.2.1) (.seq .x .x)) .x)))) .x) .x)))) .x))))))) .x))))
def zfh (P : Program) (φ : Nat) : Env TV := ⟨P, lk [(141, z9b φ), (143, zcn φ)], lk [], lk []⟩
theorem zt8 (φ : Nat) (a) : (zgk φ).F a = fnX TV (zfh Tryz.prog φ) φ Tryz.f87 [16, 16] [.val 16] (zd2 φ) a := by kernel_rfl
theorem zu2 (φ : Nat) : fnO TV (zfh Tryz.prog φ) φ Tryz.f87 [.val 16] (zd2 φ) := by
  unfold fnO
  show obl _ _ _ _ _ _ _
  unfold zd2
  repeat' (first | exact trivial | (refine ⟨?_, ?_⟩) | (intro _) | kernel_rfl)
theorem ztt (φ : Nat) : z19 TV Tryz.prog 87 (zgk φ) :=
  z1p (N := zfh Tryz.prog φ) (zz ⟨zgs φ, zop φ, trivial⟩ trivial trivial) (zd2 φ) Tryz.func87 (by kernel_rfl) (zt8 φ) (zu2 φ)
def z9i (φ : Nat) : H TV (RTup TT [.val 2]) := .x
def zbl (P : Program) (φ : Nat) : Env TV := ⟨P, lk [(87, zgk φ)], lk [], lk []⟩
theorem zn2 (φ : Nat) (a) : (zc1 φ).F a = fnX TV (zbl Tryz.prog φ) φ Tryz.f58 [16] [.val 2] (z9i φ) a := by kernel_rfl
theorem zo1 (φ : Nat) : fnO TV (zbl Tryz.prog φ) φ Tryz.f58 [.val 2] (z9i φ) := by
  unfold fnO
  show obl _ _ _ _ _ _ _
  unfold z9i
  repeat' (first | exact trivial | (refine ⟨?_, ?_⟩) | (intro _) | kernel_rfl)
theorem zp8 (φ : Nat) : z19 TV Tryz.prog 58 (zc1 φ) :=
  z1p (N := zbl Tryz.prog φ) (zz ⟨ztt φ, trivial⟩ trivial trivial) (z9i φ) Tryz.func58 (by kernel_rfl) (zn2 φ) (zo1 φ)
def z3w (φ : Nat) : H TV (RTup TT [.val 0]) := (.seq .x (.seq .x (.seq .x (.seq .x (.seq .x (.seq .x (.seq (.seq .x (.body (.loop ⟨[(193, [(1, .ptr 0 0), (5, .val 12), (6, .val 0), (7, .val 2), (57, .val 27), (58, .val 0), (59, .val 0)])], [.box 36 [.val 35]]⟩ (fun n z => z1e φ n z.1 z.2.1 z.2.2.1 z.2.2.2.1 z.2.2.2.2.1 z.2.2.2.2.2.1 z.2.2.2.2.2.2.1) (fun zk11 => .x)))) (.seq (.seq .x (.body (.loop ⟨[(193, [(1, .ptr 0 0), (5, .val 12), (6, .val 0), (7, .val 2), (92, .val 29), (93, .val 0), (94, .val 0)])], [.box 36 [.val 35]]⟩ (fun n z => z0z φ n z.1 z.2.1 z.2.2.1 z.2.2.2.1 z.2.2.2.2.1 z.2.2.2.2.2.1 z.2.2.2.2.2.2.1) (fun zk20 => .x)))) (.seq (.seq .x (.body (.loop ⟨[(193, [(1, .ptr 0 0), (5, .val 12), (6, .val 0), (7, .val 2), (120, .val 20), (121, .val 0), (122, .val 0)])], [.box 36 [.val 35]]⟩ (fun n z => z0u φ n z.1 z.2.1 z.2.2.1 z.2.2.2.1 z.2.2.2.2.1 z.2.2.2.2.2.1 z.2.2.2.2.2.2.1) (fun zk29 => .x)))) (.seq (.seq .x (.body (.loop ⟨[(193, [(1, .ptr 0 0), (6, .val 0), (7, .val 2), (135, .val 12), (136, .val 0), (137, .val 0)])], [.box 36 [.val 35]]⟩ (fun n z => z0y φ n z.1 z.2.1 z.2.2.1 z.2.2.2.1 z.2.2.2.2.1 z.2.2.2.2.2.1) (fun zk36 => .x)))) (.seq (.seq .x (.body (.loop ⟨[(193, [(1, .ptr 0 0), (6, .val 0), (7, .val 2), (157, .val 14), (158, .val 0), (159, .val 0)])], [.box 36 [.val 35]]⟩ (fun n z => z0v φ n z.1 z.2.1 z.2.2.1 z.2.2.2.1 z.2.2.2.2.1 z.2.2.2.2.2.1) (fun zk43 => .x)))) (.seq (.seq .x (.body (.loop ⟨[(193, [(7, .val 2), (172, .val 34), (173, .val 0), (174, .val 0)])], []⟩ (fun n z => z10 φ n z.1 z.2.1 z.2.2.1 z.2.2.2.1) (fun zk48 => .x)))) .x))))))))))))
def z6n (P : Program) (φ : Nat) : Env TV := ⟨P, lk [(54, z68 φ), (55, zay φ), (56, z5a φ), (57, z7p φ), (58, zc1 φ)], lk [], lk []⟩
theorem zg7 (φ : Nat) (a) : (z2x φ).F a = fnX TV (z6n Tryz.prog φ) φ Tryz.f27 [35] [.val 0] (z3w φ) a := by kernel_rfl
theorem zfn (φ : Nat) : fnO TV (z6n Tryz.prog φ) φ Tryz.f27 [.val 0] (z3w φ) := by
  unfold fnO
  show obl _ _ _ _ _ _ _
  unfold z3w
  repeat' (first | exact trivial | (refine ⟨?_, ?_⟩) | (intro _) | kernel_rfl)
theorem z6r (φ : Nat) : z19 TV Tryz.prog 27 (z2x φ) :=
  z1p (N := z6n Tryz.prog φ) (zz ⟨zc6 φ, zl3 φ, zcl φ, zhj φ, zp8 φ, trivial⟩ trivial trivial) (z3w φ) Tryz.func27 (by kernel_rfl) (zg7 φ) (zfn φ)
def z5t (φ : Nat) : H TV (RTup TT [.val 2]) := .x
def z94 (P : Program) (φ : Nat) : Env TV := ⟨P, lk [], lk [], lk []⟩
theorem zi8 (φ : Nat) (a) : (z8c φ).F a = fnX TV (z94 Tryz.prog φ) φ Tryz.f129 [9] [.val 2] (z5t φ) a := by kernel_rfl
theorem zil (φ : Nat) : fnO TV (z94 Tryz.prog φ) φ Tryz.f129 [.val 2] (z5t φ) := by
  unfold fnO
  show obl _ _ _ _ _ _ _
  unfold z5t
  repeat' (first | exact trivial | (refine ⟨?_, ?_⟩) | (intro _) | kernel_rfl)
theorem zis (φ : Nat) : z19 TV Tryz.prog 129 (z8c φ) :=
  z1p (N := z94 Tryz.prog φ) (zz trivial trivial trivial) (z5t φ) Tryz.func129 (by kernel_rfl) (zi8 φ) (zil φ)
def zan (φ : Nat) : H TV (RTup TT [.val 2]) := (.seq .x (.seq (.seq .x (.body (.loop ⟨[(43, [(0, .val 8), (1, .val 2), (7, .val 8), (8, .val 0), (9, .val 0)])], []⟩ (fun n z => z57 φ n z.1 z.2.1 z.2.2.1 z.2.2.2.1 z.2.2.2.2.1) (fun zk8 => .x)))) .x))
def zdv (P : Program) (φ : Nat) : Env TV := ⟨P, lk [], lk [], lk []⟩
theorem zqq (φ : Nat) (a) : (zdm φ).F a = fnX TV (zdv Tryz.prog φ) φ Tryz.f180 [8, 2] [.val 2] (zan φ) a := by kernel_rfl
theorem zpw (φ : Nat) : fnO TV (zdv Tryz.prog φ) φ Tryz.f180 [.val 2] (zan φ) := by
  unfold fnO
  show obl _ _ _ _ _ _ _
  unfold zan
  repeat' (first | exact trivial | (refine ⟨?_, ?_⟩) | (intro _) | kernel_rfl)
theorem zpv (φ : Nat) : z19 TV Tryz.prog 180 (zdm φ) :=
  z1p (N := zdv Tryz.prog φ) (zz trivial trivial trivial) (zan φ) Tryz.func180 (by kernel_rfl) (zqq φ) (zpw φ)
def z9c (φ : Nat) : H TV (RTup TT [.val 2]) := (.seq .x (.seq .x (.seq (.join ⟨[(46, [(5, .ptr 0 0)])], [.box 243 [.val 37]]⟩ (fun z => zd φ z.1) (.seq .x (.cond (.ins 0 161 (.seq .x (.seq .x (.seq .x (.seq .x (.body (.seq .x (.cond .x (.seq .x (.cond (.seq (.ins 1 176 (.seq .x (.seq (.join ⟨[(66, [(0, .ptr 0 0), (1, .val 0), (4, .ptr 1 0)]), (135, [(0, .ptr 0 0)]), (46, [(5, .ptr 0 0)])], [.box 243 [.val 37], .box 129 [.val 11]]⟩ (fun z => z5l φ z.1 z.2.1 z.2.2.1) (.seq .x .x)) .x)) .x) .x) (.seq (.join ⟨[(135, [(0, .ptr 0 0), (2, .ptr 0 9), (20, .val 0), (43, .val 2)]), (46, [(5, .ptr 0 0)])], [.box 243 [.val 37]]⟩ (fun z => z4j φ z.1 z.2.1 z.2.2.1) (.seq .x .x)) (.cond (.seq (.ins 1 176 (.seq .x (.seq (.join ⟨[(66, [(0, .ptr 0 0), (1, .val 0), (4, .ptr 1 0)]), (135, [(0, .ptr 0 0), (2, .ptr 0 9)]), (46, [(5, .ptr 0 0)])], [.box 243 [.val 37], .box 129 [.val 11]]⟩ (fun z => z4e φ z.1 z.2.1 z.2.2.1) (.seq .x .x)) .x)) .x) .x) (.seq .x (.cond (.seq .x (.seq .x (.seq (.ins 1 176 (.seq .x (.seq (.join ⟨[(66, [(0, .ptr 0 0), (1, .val 0), (4, .ptr 1 0)]), (135, [(0, .ptr 0 0), (2, .ptr 0 9)]), (46, [(5, .ptr 0 0)])], [.box 243 [.val 37], .box 129 [.val 11]]⟩ (fun z => z4d φ z.1 z.2.1 z.2.2.1) (.seq .x .x)) .x)) .x) .x))) (.seq (.join ⟨[(135, [(0, .ptr 0 0), (2, .ptr 0 9), (116, .val 2)]), (46, [(5, .ptr 0 0)])], [.box 243 [.val 37]]⟩ (fun z => z4h φ z.1 z.2.1) (.seq .x .x)) (.cond (.seq (.ins 1 176 (.seq .x (.seq (.join ⟨[(66, [(0, .ptr 0 0), (1, .val 0), (4, .ptr 1 0)]), (135, [(0, .ptr 0 0), (2, .ptr 0 9)]), (46, [(5, .ptr 0 0)])], [.box 243 [.val 37], .box 129 [.val 11]]⟩ (fun z => z4b φ z.1 z.2.1 z.2.2.1) (.seq .x .x)) .x)) .x) .x) .x))))))))))))))) .x) (.ins 0 162 (.seq .x (.seq .x (.body (.seq .x (.cond .x (.seq .x (.cond (.seq .x (.seq (.ins 1 176 (.seq .x (.seq (.join ⟨[(66, [(0, .ptr 0 0), (1, .val 0), (4, .ptr 1 0)]), (168, [(0, .ptr 0 0), (2, .ptr 0 9)]), (46, [(5, .ptr 0 0)])], [.box 243 [.val 37], .box 129 [.val 11]]⟩ (fun z => z4i φ z.1 z.2.1 z.2.2.1) (.seq .x .x)) .x)) .x) .x)) (.seq .x (.cond .x (.seq (.join ⟨[(168, [(0, .ptr 0 0), (2, .ptr 0 9), (9, .val 0), (91, .val 2)]), (46, [(5, .ptr 0 0)])], [.box 243 [.val 37]]⟩ (fun z => z2o φ z.1 z.2.1 z.2.2.1) (.seq .x .x)) (.cond .x (.seq .x (.cond .x (.seq .x (.cond (.seq .x (.seq (.ins 1 176 (.seq .x (.seq (.join ⟨[(66, [(0, .ptr 0 0), (1, .val 0), (4, .ptr 1 0)]), (168, [(0, .ptr 0 0), (2, .ptr 0 9)]), (46, [(5, .ptr 0 0)])], [.box 243 [.val 37], .box 129 [.val 11]]⟩ (fun z => z4l φ z.1 z.2.1 z.2.2.1) (.seq .x .x)) .x)) .x) .x)) .x))))))))))))))) .x)))) (.seq (.seq .x (.body (.unr 12 .x))) .x))))
def zcj (P : Program) (φ : Nat) : Env TV := ⟨P, lk [(180, zdm φ)], lk [], lk []⟩
theorem zp9 (φ : Nat) (a) : (zch φ).F a = fnX TV (zcj Tryz.prog φ) φ Tryz.f130 [35, 9] [.val 2] (z9c φ) a := by kernel_rfl
theorem znq (φ : Nat) : fnO TV (zcj Tryz.prog φ) φ Tryz.f130 [.val 2] (z9c φ) := by
  unfold fnO
  show obl _ _ _ _ _ _ _
  unfold z9c
  repeat' (first | exact trivial | (refine ⟨?_, ?_⟩) | (intro _) | kernel_rfl)
theorem zpf (φ : Nat) : z19 TV Tryz.prog 130 (zch φ) :=
  z1p (N := zcj Tryz.prog φ) (zz ⟨zpv φ, trivial⟩ trivial trivial) (z9c φ) Tryz.func130 (by kernel_rfl) (zp9 φ) (znq φ)
def zaj (φ : Nat) : H TV (RTup TT [.val 0]) := .x
def zdr (P : Program) (φ : Nat) : Env TV := ⟨P, lk [(27, z2x φ), (129, z8c φ), (130, zch φ)], lk [], lk []⟩
theorem zq1 (φ : Nat) (a) : (zdy φ).F a = fnX TV (zdr Tryz.prog φ) φ Tryz.f103 [35, 9] [.val 0] (zaj φ) a := by kernel_rfl
theorem zqn (φ : Nat) : fnO TV (zdr Tryz.prog φ) φ Tryz.f103 [.val 0] (zaj φ) := by
  unfold fnO
  show obl _ _ _ _ _ _ _
  unfold zaj
  repeat' (first | exact trivial | (refine ⟨?_, ?_⟩) | (intro _) | kernel_rfl)
theorem zqf (φ : Nat) : z19 TV Tryz.prog 103 (zdy φ) :=
  z1p (N := zdr Tryz.prog φ) (zz ⟨z6r φ, zis φ, zpf φ, trivial⟩ trivial trivial) (zaj φ) Tryz.func103 (by kernel_rfl) (zq1 φ) (zqn φ)
def z5i (φ : Nat) : H TV (RTup TT [.val 5]) := (.seq .x (.seq .x (.seq (.seq .x (.body (.loop ⟨[(26, [(2, .ptr 0 0), (5, .own 1), (8, .val 38), (9, .val 0), (10, .val 0)])], [.box 36 [.val 35], .row 3 0]⟩ (fun n z => z1v φ n z.1 z.2.1 z.2.2.1 z.2.2.2.1 z.2.2.2.2.1) (fun zk8 => .x)))) .x)))
def z8r (P : Program) (φ : Nat) : Env TV := ⟨P, lk [(103, zdy φ)], lk [], lk []⟩
theorem zj8 (φ : Nat) (a) : (z8h φ).F a = fnX TV (z8r Tryz.prog φ) φ Tryz.f75 [35, 38] [.val 5] (z5i φ) a := by kernel_rfl
theorem zjj (φ : Nat) : fnO TV (z8r Tryz.prog φ) φ Tryz.f75 [.val 5] (z5i φ) := by
  unfold fnO
  show obl _ _ _ _ _ _ _
  unfold z5i
  repeat' (first | exact trivial | (refine ⟨?_, ?_⟩) | (intro _) | kernel_rfl)
theorem zj0 (φ : Nat) : z19 TV Tryz.prog 75 (z8h φ) :=
  z1p (N := z8r Tryz.prog φ) (zz ⟨zqf φ, trivial⟩ trivial trivial) (z5i φ) Tryz.func75 (by kernel_rfl) (zj8 φ) (zjj φ)
def z3j (φ : Nat) : H TV (RTup TT [.val 4]) := .x
def z60 (P : Program) (φ : Nat) : Env TV := ⟨P, lk [], lk [], lk []⟩
theorem zeq (φ : Nat) (a b) : (z5w φ).F a b = fnXc TV (z60 Tryz.prog φ) φ Tryz.f104 [0, 0] [9, 10, 0] [.val 4] (z3j φ) a b := by kernel_rfl
theorem zez (φ : Nat) : fnO TV (z60 Tryz.prog φ) φ Tryz.f104 [.val 4] (z3j φ) := by
  unfold fnO
  show obl _ _ _ _ _ _ _
  unfold z3j
  repeat' (first | exact trivial | (refine ⟨?_, ?_⟩) | (intro _) | kernel_rfl)
theorem zec (φ : Nat) : ztp TV Tryz.prog 104 (z5w φ) :=
  zwh (N := z60 Tryz.prog φ) (zz trivial trivial trivial) (z3j φ) Tryz.func104 (by kernel_rfl) (zeq φ) (zez φ)
theorem zc8 (φ : Nat) (x14 : Item) (x15 : zg) (x16 : Int) : z0e (z1t φ x14 x15 x16) (z4w φ x14 x15 x16) := by
  unfold z1t z4w
  repeat' (first | exact z0e.one | exact z0e.nil | refine z0e.cons ?_ ?_ | refine z0e.ck ?_ | exact z0e.same (n := 2) rfl | exact z0e.same (n := 3) rfl | exact z0e.same (n := 4) rfl | exact z0e.same (n := 6) rfl | refine z0e.bind fun _ => ?_)
def z4s (φ : Nat) : H TV (RTup TT [.val 39]) := (.seq .x (.seq .x (.seq .x (.seq (.seq .x (.body (.seq .x (.cond .x (.seq (.join ⟨[(68, [(7, .ptr 0 0), (8, .func 104 [.ptr 0 0, .ptr 1 0, .ptr 2 0]), (16, .val 0), (35, .val 2)])], [.box 81 [.val 9], .box 83 [.val 10], .box 3 [.val 0]]⟩ (fun z => z00 φ z.1 z.2.1 z.2.2.1 z.2.2.2.1 z.2.2.2.2.1) (.seq .x .x)) (.cond (.seq (.join ⟨[(68, [(10, .ptr 0 0), (11, .ptr 1 0)])], [.box 114 [.val 4], .box 114 [.val 4]]⟩ (fun z => z1q φ z.1 z.2.1) (.alt ⟨[(68, [(7, .ptr 0 0), (8, .func 104 [.ptr 0 0, .ptr 1 0, .ptr 2 0])])], [.box 81 [.val 9], .box 83 [.val 10], .box 3 [.val 0]]⟩ (fun z => z1t φ z.1 z.2.1 z.2.2.1) (fun z => z4w φ z.1 z.2.1 z.2.2.1))) .x) (.seq (.join ⟨[(68, [(7, .ptr 0 0), (8, .func 104 [.ptr 0 0, .ptr 1 0, .ptr 2 0]), (56, .val 2)])], [.box 81 [.val 9], .box 83 [.val 10], .box 3 [.val 0]]⟩ (fun z => z01 φ z.1 z.2.1 z.2.2.1 z.2.2.2.1) (.seq .x .x)) .x))))))) .x))))
def z7j (P : Program) (φ : Nat) : Env TV := ⟨P, lk [], lk [], lk [(104, z5w φ)]⟩
theorem zh6 (φ : Nat) (a) : (z7t φ).F a = fnX TV (z7j Tryz.prog φ) φ Tryz.f76 [35, 10, 0] [.val 39] (z4s φ) a := by kernel_rfl
theorem zh0 (φ : Nat) : fnO TV (z7j Tryz.prog φ) φ Tryz.f76 [.val 39] (z4s φ) := by
  unfold fnO
  show obl _ _ _ _ _ _ _
  unfold z4s
  repeat' (first | exact trivial | (refine ⟨?_, ?_⟩) | (intro _) | kernel_rfl | exact zc8 ..)
theorem zhd (φ : Nat) : z19 TV Tryz.prog 76 (z7t φ) :=
  z1p (N := z7j Tryz.prog φ) (zz trivial trivial ⟨zec φ, trivial⟩) (z4s φ) Tryz.func76 (by kernel_rfl) (zh6 φ) (zh0 φ)
def z74 (φ : Nat) : H TV (RTup TT [.val 40]) := (.seq .x (.seq .x (.seq (.seq .x (.body (.loop ⟨[(63, [(1, .val 38), (2, .ptr 0 0), (5, .own 1), (19, .val 5), (20, .val 0), (21, .val 0)])], [.box 36 [.val 35], .nst 112 114 39 none]⟩ (fun n z => z1u φ n z.1 z.2.1 z.2.2.1 z.2.2.2.1 z.2.2.2.2.1 z.2.2.2.2.2.1) (fun zk10 => (.seq .x (.seq .x (.seq (.body (.seq .x (.seq .x (.seq .x (.cond (.seq .x (.foc (5, none) (9, none) .x)) .x))))) .x))))))) (.seq (.seq .x (.body (.loop ⟨[(63, [(5, .own 0), (51, .own 0), (52, .val 0), (53, .val 0)])], [.nst 112 114 39 none]⟩ (fun n z => z18 φ n z.1 z.2.1 z.2.2.1) (fun zk15 => (.seq .x (.seq .x (.seq (.body (.seq (.foc (5, none) (53, none) .x) (.seq .x (.ins 1 82 (.seq .x (.seq .x (.body (.loop ⟨[(48, [(0, .own 0), (2, .own 1), (6, .val 0), (7, .val 0)]), (63, [(5, .own 2), (51, .own 2), (52, .val 0), (53, .val 0)])], [.row 114 4, .map 0 2, .nst 112 114 39 (some 0)]⟩ (fun n z => z0s φ (fun a0 a1 a2 => zk15 (a0, a1, a2, ())) n z.1 z.2.1 z.2.2.1 z.2.2.2.1 z.2.2.2.2.1 z.2.2.2.2.2.1 z.2.2.2.2.2.2.1 z.2.2.2.2.2.2.2.1) (fun zk25 => (.seq .x (.seq .x (.seq (.body (.seq .x (.seq (.join ⟨[(48, [(0, .own 0), (2, .own 1), (3, .val 0), (6, .val 0), (7, .val 0)]), (63, [(5, .own 2), (51, .own 2), (52, .val 0), (53, .val 0)])], [.row 114 4, .map 0 2, .nst 112 114 39 (some 0)]⟩ (fun z => z2h φ (fun a0 a1 a2 a3 a4 a5 a6 a7 => zk25 (a0, a1, a2, a3, a4, a5, a6, a7, ())) z.1 z.2.1 z.2.2.1 z.2.2.2.1 z.2.2.2.2.1 z.2.2.2.2.2.1 z.2.2.2.2.2.2.1 z.2.2.2.2.2.2.2.1 z.2.2.2.2.2.2.2.2.1) (.seq .x .x)) .x))) .x)))))))) .x)))) .x))))))) .x))))
def za3 (P : Program) (φ : Nat) : Env TV := ⟨P, lk [(75, z8h φ), (76, z7t φ)], lk [(77, zrg)], lk []⟩
theorem zjz (φ : Nat) (a) : (za2 φ).F a = fnX TV (za3 Tryz.prog φ) φ Tryz.f49 [35, 38] [.val 40] (z74 φ) a := by kernel_rfl
theorem zk1 (φ : Nat) : fnO TV (za3 Tryz.prog φ) φ Tryz.f49 [.val 40] (z74 φ) := by
  unfold fnO
  show obl _ _ _ _ _ _ _
  unfold z74
  repeat' (first | exact trivial | (refine ⟨?_, ?_⟩) | (intro _) | kernel_rfl)
theorem zk3 (φ : Nat) : z19 TV Tryz.prog 49 (za2 φ) :=
  z1p (N := za3 Tryz.prog φ) (zz ⟨zj0 φ, zhd φ, trivial⟩ ⟨y09, trivial⟩ trivial) (z74 φ) Tryz.func49 (by kernel_rfl) (zjz φ) (zk1 φ)
def z43 (φ : Nat) : H TV (RTup TT [.val 0, .val 0]) := (.seq .x (.seq (.ins 4 59 (.seq .x (.seq .x (.seq (.seq .x (.body (.loop ⟨[(77, [(2, .ptr 0 0), (4, .ptr 1 0), (19, .own 2), (20, .val 0), (21, .val 0)]), (30, [(1, .val 0), (2, .val 0), (3, .ptr 3 0)])], [.box 25 [.val 15], .box 147 [.own 4, .raw (.map none)], .row 3 0, .box 25 [.val 15], .row 46 5]⟩ (fun n z => z1f φ n z.1 z.2.1 z.2.2.1 z.2.2.2.1 z.2.2.2.2.1 z.2.2.2.2.2.1 z.2.2.2.2.2.2.1 z.2.2.2.2.2.2.2.1) (fun zk13 => .x)))) (.seq .x (.seq .x (.seq (.seq .x (.body (.loop ⟨[(77, [(4, .ptr 0 0), (8, .func 88 [.ptr 0 0, .ptr 1 0]), (44, .val 14), (45, .val 0), (46, .val 0)]), (30, [(1, .val 0), (2, .val 0), (3, .ptr 2 0)])], [.box 147 [.own 3, .own 4], .box 25 [.val 15], .box 25 [.val 15], .nst 46 3 5 none, .map 41 0]⟩ (fun n z => zm φ n z.1 z.2.1 z.2.2.1 z.2.2.2.1 z.2.2.2.2.1 z.2.2.2.2.2.1 z.2.2.2.2.2.2.1 z.2.2.2.2.2.2.2.1 z.2.2.2.2.2.2.2.2.1) (fun zk23 => (.seq .x (.seq .x (.seq (.body (.seq .x (.seq (.ins 6 88 (.seq .x (.seq .x (.seq (.join ⟨[(56, [(2, .val 0), (3, .ptr 0 0), (4, .ptr 1 0), (8, .ptr 2 0), (9, .val 0), (10, .val 2)]), (77, [(4, .ptr 0 0), (8, .func 88 [.ptr 0 0, .ptr 1 0]), (9, .val 0), (10, .ptr 3 0), (44, .val 14), (45, .val 0), (46, .val 0)]), (30, [(1, .val 0), (2, .val 0), (3, .ptr 4 0)])], [.box 147 [.own 5, .own 6], .box 25 [.val 15], .box 183 [.val 41], .box 133 [.val 13], .box 25 [.val 15], .nst 46 3 5 none, .map 41 0]⟩ (fun z => z2b φ (fun a0 a1 a2 a3 a4 a5 a6 a7 a8 => zk23 (a0, a1, a2, a3, a4, a5, a6, a7, a8, ())) z.1 z.2.1 z.2.2.1 z.2.2.2.1 z.2.2.2.2.1 z.2.2.2.2.2.1 z.2.2.2.2.2.2.1 z.2.2.2.2.2.2.2.1 z.2.2.2.2.2.2.2.2.1 z.2.2.2.2.2.2.2.2.2.1 z.2.2.2.2.2.2.2.2.2.2.1 z.2.2.2.2.2.2.2.2.2.2.2.1 z.2.2.2.2.2.2.2.2.2.2.2.2.1 z.2.2.2.2.2.2.2.2.2.2.2.2.2.1 z.2.2.2.2.2.2.2.2.2.2.2.2.2.2.1) (.seq .x (.cond (.foc (3, some 0) (0, none) .x) .x))) .x))) .x) (.ins 6 88 (.seq .x (.seq .x (.seq (.join ⟨[(56, [(2, .val 0), (3, .ptr 0 0), (4, .ptr 1 0), (8, .ptr 2 0), (9, .val 0), (10, .val 2)]), (77, [(4, .ptr 0 0), (8, .func 88 [.ptr 0 0, .ptr 1 0]), (44, .val 14), (45, .val 0), (46, .val 0)]), (30, [(1, .val 0), (2, .val 0), (3, .ptr 3 0)])], [.box 147 [.own 4, .own 5], .box 25 [.val 15], .box 183 [.val 41], .box 25 [.val 15], .nst 46 3 5 none, .map 41 0]⟩ (fun z => z27 φ (fun a0 a1 a2 a3 a4 a5 a6 a7 a8 => zk23 (a0, a1, a2, a3, a4, a5, a6, a7, a8, ())) z.1 z.2.1 z.2.2.1 z.2.2.2.1 z.2.2.2.2.1 z.2.2.2.2.2.1 z.2.2.2.2.2.2.1 z.2.2.2.2.2.2.2.1 z.2.2.2.2.2.2.2.2.1 z.2.2.2.2.2.2.2.2.2.1 z.2.2.2.2.2.2.2.2.2.2.1 z.2.2.2.2.2.2.2.2.2.2.2.1 z.2.2.2.2.2.2.2.2.2.2.2.2.1) (.seq .x (.cond (.foc (3, some 0) (0, none) .x) .x))) .x))) .x)))) .x))))))) (.seq (.seq .x (.body (.loop ⟨[(77, [(4, .ptr 0 0), (67, .own 1), (68, .val 0), (69, .val 0)]), (30, [(1, .val 0), (2, .val 0), (3, .ptr 2 0)])], [.box 147 [.own 1, .own 3], .nst 46 3 5 none, .box 25 [.val 15], .map 41 0]⟩ (fun n z => z0x φ n z.1 z.2.1 z.2.2.1 z.2.2.2.1 z.2.2.2.2.1 z.2.2.2.2.2.1 z.2.2.2.2.2.2.1) (fun zk75 => (.seq .x (.seq .x (.seq (.body (.seq (.foc (67, none) (69, none) .x) .x)) .x))))))) .x))))))) .x) (.seq .x (.seq (.seq (.ins 3 60 (.seq .x (.seq .x (.seq .x (.seq (.seq .x (.body (.loop ⟨[(118, [(2, .val 0), (3, .ptr 0 0), (4, .ptr 1 0), (7, .own 2), (8, .own 3), (23, .val 0), (24, .val 0)]), (30, [(2, .val 0)])], [.box 25 [.val 15], .box 147 [.own 4, .own 5], .row 3 0, .row 4 2, .nst 46 3 5 none, .map 41 0]⟩ (fun n z => zw φ n z.1 z.2.1 z.2.2.1 z.2.2.2.1 z.2.2.2.2.1 z.2.2.2.2.2.1 z.2.2.2.2.2.2.1 z.2.2.2.2.2.2.2.1 z.2.2.2.2.2.2.2.2.1) (fun zk86 => .x)))) (.seq .x (.body (.loop ⟨[(118, [(3, .ptr 0 0), (4, .ptr 1 0), (7, .own 2), (8, .own 3)]), (30, [(2, .val 0)])], [.box 25 [.val 15], .box 147 [.own 4, .own 5], .row 3 0, .row 4 2, .nst 46 3 5 none, .map 41 0]⟩ (fun n z => zp φ n z.1 z.2.1 z.2.2.1 z.2.2.2.1 z.2.2.2.2.1 z.2.2.2.2.2.1) (fun zk93 => (.body (.seq .x (.seq (.seq .x (.body (.loop ⟨[(118, [(3, .ptr 0 0), (4, .ptr 1 0), (7, .own 2), (8, .own 3), (10, .val 0), (35, .val 0), (36, .val 0)]), (30, [(2, .val 0)])], [.box 25 [.val 15], .box 147 [.own 4, .own 5], .row 3 0, .row 4 2, .nst 46 3 5 none, .map 41 0]⟩ (fun n z => z0m φ (fun a0 a1 a2 a3 a4 a5 => zk93 (a0, a1, a2, a3, a4, a5, ())) n z.1 z.2.1 z.2.2.1 z.2.2.2.1 z.2.2.2.2.1 z.2.2.2.2.2.1 z.2.2.2.2.2.2.1 z.2.2.2.2.2.2.2.1 z.2.2.2.2.2.2.2.2.1) (fun zk103 => .x)))) (.seq .x (.seq .x (.seq (.foc (4, some 0) (10, none) .x) (.body (.loop ⟨[(118, [(3, .ptr 0 0), (4, .ptr 1 0), (7, .own 2), (8, .own 3), (10, .val 0), (78, .own 4), (79, .val 0), (80, .val 0)]), (30, [(2, .val 0)])], [.box 25 [.val 15], .box 147 [.own 5, .own 6], .row 3 0, .row 4 2, .row 3 0, .nst 46 3 5 (some 4), .map 41 0]⟩ (fun n z => z0l φ (fun a0 a1 a2 a3 a4 a5 => zk93 (a0, a1, a2, a3, a4, a5, ())) n z.1 z.2.1 z.2.2.1 z.2.2.2.1 z.2.2.2.2.1 z.2.2.2.2.2.1 z.2.2.2.2.2.2.1 z.2.2.2.2.2.2.2.1 z.2.2.2.2.2.2.2.2.1 z.2.2.2.2.2.2.2.2.2.1 z.2.2.2.2.2.2.2.2.2.2.1) (fun zk115 => .x))))))))))))))))) .x) .x) .x))))
def z6i (P : Program) (φ : Nat) : Env TV := ⟨P, lk [(54, z68 φ)], lk [(89, zph)], lk []⟩
theorem zfg (φ : Nat) (a) : (z2v φ).F a = fnX TV (z6i Tryz.prog φ) φ Tryz.f28 [15, 0, 0] [.val 0, .val 0] (z43 φ) a := by kernel_rfl
theorem zfk (φ : Nat) : fnO TV (z6i Tryz.prog φ) φ Tryz.f28 [.val 0, .val 0] (z43 φ) := by
  unfold fnO
  show obl _ _ _ _ _ _ _
  unfold z43
  repeat' (first | exact trivial | (refine ⟨?_, ?_⟩) | (intro _) | kernel_rfl)
theorem z6u (φ : Nat) : z19 TV Tryz.prog 28 (z2v φ) :=
  z1p (N := z6i Tryz.prog φ) (zz ⟨zc6 φ, trivial⟩ ⟨zx4, trivial⟩ trivial) (z43 φ) Tryz.func28 (by kernel_rfl) (zfg φ) (zfk φ)
def z6z (φ : Nat) : H TV (RTup TT [.val 0]) := .x
def za1 (P : Program) (φ : Nat) : Env TV := ⟨P, lk [(28, z2v φ)], lk [], lk []⟩
theorem zju (φ : Nat) (a) : (z9x φ).F a = fnX TV (za1 Tryz.prog φ) φ Tryz.f51 [15, 3, 3] [.val 0] (z6z φ) a := by kernel_rfl
theorem zjv (φ : Nat) : fnO TV (za1 Tryz.prog φ) φ Tryz.f51 [.val 0] (z6z φ) := by
  unfold fnO
  show obl _ _ _ _ _ _ _
  unfold z6z
  repeat' (first | exact trivial | (refine ⟨?_, ?_⟩) | (intro _) | kernel_rfl)
theorem zk9 (φ : Nat) : z19 TV Tryz.prog 51 (z9x φ) :=
  z1p (N := za1 Tryz.prog φ) (zz ⟨z6u φ, trivial⟩ trivial trivial) (z6z φ) Tryz.func51 (by kernel_rfl) (zju φ) (zjv φ)
def z86 (φ : Nat) : H TV (RTup TT [.val 48, .val 0]) := (.seq .x (.seq .x (.seq .x (.seq .x (.seq .x (.seq (.seq .x (.body (.loop ⟨[(257, [(2, .ptr 0 0), (4, .ptr 1 0), (7, .val 40), (8, .ptr 2 0), (9, .own 3), (40, .val 40), (41, .val 0), (42, .val 0)])], [.box 36 [.val 35], .box 56 [.val 0, .own 4, .own 5, .own 6], .box 110 [.val 0, .own 7, .own 8, .own 9], .map 0 0, .row 69 42, .row 118 44, .row 63 46, .row 69 42, .row 118 44, .row 63 46]⟩ (fun n z => z1m φ n z.1 z.2.1 z.2.2.1 z.2.2.2.1 z.2.2.2.2.1 z.2.2.2.2.2.1 z.2.2.2.2.2.2.1 z.2.2.2.2.2.2.2.1 z.2.2.2.2.2.2.2.2.1 z.2.2.2.2.2.2.2.2.2.1 z.2.2.2.2.2.2.2.2.2.2.1 z.2.2.2.2.2.2.2.2.2.2.2.1 z.2.2.2.2.2.2.2.2.2.2.2.2.1 z.2.2.2.2.2.2.2.2.2.2.2.2.2.1) (fun zk19 => (.seq .x (.seq .x (.seq (.body (.seq .x (.seq .x (.body (.loop ⟨[(257, [(2, .ptr 0 0), (4, .ptr 1 0), (7, .val 40), (8, .ptr 2 0), (9, .own 3), (40, .val 40), (41, .val 0), (42, .val 0), (46, .val 39), (47, .val 0), (48, .val 0)])], [.box 36 [.val 35], .box 56 [.val 0, .own 4, .own 5, .own 6], .box 110 [.val 0, .own 7, .own 8, .own 9], .map 0 0, .row 69 42, .row 118 44, .row 63 46, .row 69 42, .row 118 44, .row 63 46]⟩ (fun n z => z1k φ (fun a0 a1 a2 a3 a4 a5 a6 a7 a8 a9 a10 a11 a12 a13 => zk19 (a0, a1, a2, a3, a4, a5, a6, a7, a8, a9, a10, a11, a12, a13, ())) n z.1 z.2.1 z.2.2.1 z.2.2.2.1 z.2.2.2.2.1 z.2.2.2.2.2.1 z.2.2.2.2.2.2.1 z.2.2.2.2.2.2.2.1 z.2.2.2.2.2.2.2.2.1 z.2.2.2.2.2.2.2.2.2.1 z.2.2.2.2.2.2.2.2.2.2.1 z.2.2.2.2.2.2.2.2.2.2.2.1 z.2.2.2.2.2.2.2.2.2.2.2.2.1 z.2.2.2.2.2.2.2.2.2.2.2.2.2.1 z.2.2.2.2.2.2.2.2.2.2.2.2.2.2.1 z.2.2.2.2.2.2.2.2.2.2.2.2.2.2.2.1 z.2.2.2.2.2.2.2.2.2.2.2.2.2.2.2.2.1) (fun zk37 => .x)))))) .x))))))) (.seq (.seq .x (.body (.loop ⟨[(257, [(2, .ptr 0 0), (4, .ptr 1 0), (7, .val 40), (8, .ptr 2 0), (9, .own 3), (61, .val 27), (62, .val 0), (63, .val 0)])], [.box 36 [.val 35], .box 56 [.val 0, .own 4, .own 5, .own 6], .box 110 [.val 0, .own 7, .own 8, .own 9], .map 0 0, .row 69 42, .row 118 44, .row 63 46, .row 69 42, .row 118 44, .row 63 46]⟩ (fun n z => z16 φ n z.1 z.2.1 z.2.2.1 z.2.2.2.1 z.2.2.2.2.1 z.2.2.2.2.2.1 z.2.2.2.2.2.2.1 z.2.2.2.2.2.2.2.1 z.2.2.2.2.2.2.2.2.1 z.2.2.2.2.2.2.2.2.2.1 z.2.2.2.2.2.2.2.2.2.2.1 z.2.2.2.2.2.2.2.2.2.2.2.1 z.2.2.2.2.2.2.2.2.2.2.2.2.1 z.2.2.2.2.2.2.2.2.2.2.2.2.2.1) (fun zk52 => (.seq .x (.seq .x (.seq (.body (.seq .x (.seq .x (.seq .x (.cond (.seq .x (.seq (.ins 20 50 (.seq .x (.seq .x (.body (.loop ⟨[(39, [(0, .ptr 0 0), (4, .ptr 1 0), (8, .own 2), (9, .val 0), (10, .val 0)]), (257, [(2, .ptr 3 0), (4, .ptr 4 0), (7, .val 40), (8, .ptr 0 0), (9, .own 5), (61, .val 27), (62, .val 0), (63, .val 0), (82, .ptr 0 0), (83, .val 44), (84, .ptr 0 0), (85, .ptr 0 0), (86, .ptr 0 0), (87, .ptr 0 0), (88, .val 0), (89, .ptr 6 1), (90, .val 0), (91, .val 0), (92, .val 42), (93, .ptr 0 0), (94, .ptr 0 0), (95, .ptr 0 0), (96, .ptr 0 0), (97, .val 0), (98, .ptr 6 2), (99, .val 0), (100, .val 42), (101, .own 2)])], [.box 110 [.val 0, .own 7, .own 8, .own 9], .box 118 [.val 44], .row 69 42, .box 36 [.val 35], .box 56 [.val 0, .own 10, .own 11, .own 12], .map 0 0, .box 116 [.val 26], .row 69 42, .row 118 44, .row 63 46, .row 69 42, .row 118 44, .row 63 46]⟩ (fun n z => z2c φ (fun a0 a1 a2 a3 a4 a5 a6 a7 a8 a9 a10 a11 a12 a13 => zk52 (a0, a1, a2, a3, a4, a5, a6, a7, a8, a9, a10, a11, a12, a13, ())) n z.1 z.2.1 z.2.2.1 z.2.2.2.1 z.2.2.2.2.1 z.2.2.2.2.2.1 z.2.2.2.2.2.2.1 z.2.2.2.2.2.2.2.1 z.2.2.2.2.2.2.2.2.1 z.2.2.2.2.2.2.2.2.2.1 z.2.2.2.2.2.2.2.2.2.2.1 z.2.2.2.2.2.2.2.2.2.2.2.1 z.2.2.2.2.2.2.2.2.2.2.2.2.1 z.2.2.2.2.2.2.2.2.2.2.2.2.2.1 z.2.2.2.2.2.2.2.2.2.2.2.2.2.2.1 z.2.2.2.2.2.2.2.2.2.2.2.2.2.2.2.1 z.2.2.2.2.2.2.2.2.2.2.2.2.2.2.2.2.1 z.2.2.2.2.2.2.2.2.2.2.2.2.2.2.2.2.2.1 z.2.2.2.2.2.2.2.2.2.2.2.2.2.2.2.2.2.2.1 z.2.2.2.2.2.2.2.2.2.2.2.2.2.2.2.2.2.2.2.1 z.2.2.2.2.2.2.2.2.2.2.2.2.2.2.2.2.2.2.2.2.1 z.2.2.2.2.2.2.2.2.2.2.2.2.2.2.2.2.2.2.2.2.2.1 z.2.2.2.2.2.2.2.2.2.2.2.2.2.2.2.2.2.2.2.2.2.2.1 z.2.2.2.2.2.2.2.2.2.2.2.2.2.2.2.2.2.2.2.2.2.2.2.1 z.2.2.2.2.2.2.2.2.2.2.2.2.2.2.2.2.2.2.2.2.2.2.2.2.1 z.2.2.2.2.2.2.2.2.2.2.2.2.2.2.2.2.2.2.2.2.2.2.2.2.2.1 z.2.2.2.2.2.2.2.2.2.2.2.2.2.2.2.2.2.2.2.2.2.2.2.2.2.2.1) (fun zk80 => .x))))) .x) .x)) .x))))) .x))))))) (.seq (.seq .x (.body (.loop ⟨[(257, [(2, .ptr 0 0), (4, .ptr 1 0), (8, .ptr 2 0), (9, .own 3), (113, .val 40), (114, .val 0), (115, .val 0)])], [.box 36 [.val 35], .box 56 [.val 0, .own 4, .own 5, .own 6], .box 110 [.val 0, .own 7, .own 8, .own 9], .map 0 0, .row 69 42, .row 118 44, .row 63 46, .row 69 42, .row 118 44, .row 63 46]⟩ (fun n z => z1j φ n z.1 z.2.1 z.2.2.1 z.2.2.2.1 z.2.2.2.2.1 z.2.2.2.2.2.1 z.2.2.2.2.2.2.1 z.2.2.2.2.2.2.2.1 z.2.2.2.2.2.2.2.2.1 z.2.2.2.2.2.2.2.2.2.1 z.2.2.2.2.2.2.2.2.2.2.1 z.2.2.2.2.2.2.2.2.2.2.2.1 z.2.2.2.2.2.2.2.2.2.2.2.2.1) (fun zk94 => (.seq .x (.seq .x (.seq (.body (.seq .x (.seq .x (.body (.loop ⟨[(257, [(2, .ptr 0 0), (4, .ptr 1 0), (8, .ptr 2 0), (9, .own 3), (19, .val 39), (113, .val 40), (114, .val 0), (115, .val 0), (119, .val 39), (120, .val 0), (121, .val 0)])], [.box 36 [.val 35], .box 56 [.val 0, .own 4, .own 5, .own 6], .box 110 [.val 0, .own 7, .own 8, .own 9], .map 0 0, .row 69 42, .row 118 44, .row 63 46, .row 69 42, .row 118 44, .row 63 46]⟩ (fun n z => z05 φ (fun a0 a1 a2 a3 a4 a5 a6 a7 a8 a9 a10 a11 a12 => zk94 (a0, a1, a2, a3, a4, a5, a6, a7, a8, a9, a10, a11, a12, ())) n z.1 z.2.1 z.2.2.1 z.2.2.2.1 z.2.2.2.2.1 z.2.2.2.2.2.1 z.2.2.2.2.2.2.1 z.2.2.2.2.2.2.2.1 z.2.2.2.2.2.2.2.2.1 z.2.2.2.2.2.2.2.2.2.1 z.2.2.2.2.2.2.2.2.2.2.1 z.2.2.2.2.2.2.2.2.2.2.2.1 z.2.2.2.2.2.2.2.2.2.2.2.2.1 z.2.2.2.2.2.2.2.2.2.2.2.2.2.1 z.2.2.2.2.2.2.2.2.2.2.2.2.2.2.1 z.2.2.2.2.2.2.2.2.2.2.2.2.2.2.2.1 z.2.2.2.2.2.2.2.2.2.2.2.2.2.2.2.2.1) (fun zk112 => (.seq .x (.seq .x (.seq (.body (.seq .x (.seq .x (.seq .x (.seq .x (.seq (.join ⟨[(257, [(2, .ptr 0 0), (4, .ptr 1 0), (8, .ptr 2 0), (9, .own 3), (19, .val 39), (20, .val 0), (21, .ptr 4 0), (22, .val 0), (113, .val 40), (114, .val 0), (115, .val 0), (119, .val 39), (120, .val 0), (121, .val 0)])], [.box 36 [.val 35], .box 56 [.val 0, .own 5, .own 6, .own 7], .box 110 [.val 0, .own 8, .own 9, .own 10], .map 0 0, .box 114 [.val 4], .row 69 42, .row 118 44, .row 63 46, .row 69 42, .row 118 44, .row 63 46]⟩ (fun z => z0t φ (fun a0 a1 a2 a3 a4 a5 a6 a7 a8 a9 a10 a11 a12 a13 a14 a15 a16 => zk112 (a0, a1, a2, a3, a4, a5, a6, a7, a8, a9, a10, a11, a12, a13, a14, a15, a16, ())) z.1 z.2.1 z.2.2.1 z.2.2.2.1 z.2.2.2.2.1 z.2.2.2.2.2.1 z.2.2.2.2.2.2.1 z.2.2.2.2.2.2.2.1 z.2.2.2.2.2.2.2.2.1 z.2.2.2.2.2.2.2.2.2.1 z.2.2.2.2.2.2.2.2.2.2.1 z.2.2.2.2.2.2.2.2.2.2.2.1 z.2.2.2.2.2.2.2.2.2.2.2.2.1 z.2.2.2.2.2.2.2.2.2.2.2.2.2.1 z.2.2.2.2.2.2.2.2.2.2.2.2.2.2.1 z.2.2.2.2.2.2.2.2.2.2.2.2.2.2.2.1 z.2.2.2.2.2.2.2.2.2.2.2.2.2.2.2.2.1 z.2.2.2.2.2.2.2.2.2.2.2.2.2.2.2.2.2.1 z.2.2.2.2.2.2.2.2.2.2.2.2.2.2.2.2.2.2.1 z.2.2.2.2.2.2.2.2.2.2.2.2.2.2.2.2.2.2.2.1) (.seq .x (.cond (.ins 10 50 (.seq .x (.seq .x (.body (.loop ⟨[(39, [(0, .ptr 0 0), (4, .ptr 1 0), (8, .own 2), (9, .val 0), (10, .val 0)]), (257, [(2, .ptr 3 0), (4, .ptr 4 0), (8, .ptr 0 0), (9, .own 5), (19, .val 39), (20, .val 0), (21, .ptr 6 0), (22, .val 0), (113, .val 40), (114, .val 0), (115, .val 0), (119, .val 39), (120, .val 0), (121, .val 0)])], [.box 110 [.val 0, .own 7, .own 8, .own 9], .box 118 [.val 44], .row 69 42, .box 36 [.val 35], .box 56 [.val 0, .own 10, .own 11, .own 12], .map 0 0, .box 114 [.val 4], .row 69 42, .row 118 44, .row 63 46, .row 69 42, .row 118 44, .row 63 46]⟩ (fun n z => z1y φ (fun a0 a1 a2 a3 a4 a5 a6 a7 a8 a9 a10 a11 a12 a13 a14 a15 a16 => zk112 (a0, a1, a2, a3, a4, a5, a6, a7, a8, a9, a10, a11, a12, a13, a14, a15, a16, ())) n z.1 z.2.1 z.2.2.1 z.2.2.2.1 z.2.2.2.2.1 z.2.2.2.2.2.1 z.2.2.2.2.2.2.1 z.2.2.2.2.2.2.2.1 z.2.2.2.2.2.2.2.2.1 z.2.2.2.2.2.2.2.2.2.1 z.2.2.2.2.2.2.2.2.2.2.1 z.2.2.2.2.2.2.2.2.2.2.2.1 z.2.2.2.2.2.2.2.2.2.2.2.2.1 z.2.2.2.2.2.2.2.2.2.2.2.2.2.1 z.2.2.2.2.2.2.2.2.2.2.2.2.2.2.1 z.2.2.2.2.2.2.2.2.2.2.2.2.2.2.2.1 z.2.2.2.2.2.2.2.2.2.2.2.2.2.2.2.2.1 z.2.2.2.2.2.2.2.2.2.2.2.2.2.2.2.2.2.1 z.2.2.2.2.2.2.2.2.2.2.2.2.2.2.2.2.2.2.1 z.2.2.2.2.2.2.2.2.2.2.2.2.2.2.2.2.2.2.2.1 z.2.2.2.2.2.2.2.2.2.2.2.2.2.2.2.2.2.2.2.2.1 z.2.2.2.2.2.2.2.2.2.2.2.2.2.2.2.2.2.2.2.2.2.1 z.2.2.2.2.2.2.2.2.2.2.2.2.2.2.2.2.2.2.2.2.2.2.1 z.2.2.2.2.2.2.2.2.2.2.2.2.2.2.2.2.2.2.2.2.2.2.2.1) (fun zk195 => .x))))) .x) (.seq .x (.ins 16 50 (.seq .x (.seq .x (.body (.loop ⟨[(39, [(0, .ptr 0 0), (4, .ptr 1 0), (8, .own 2), (9, .val 0), (10, .val 0)]), (257, [(2, .ptr 3 0), (4, .ptr 4 0), (8, .ptr 0 0), (9, .own 5), (19, .val 39), (20, .val 0), (21, .ptr 6 0), (22, .val 0), (113, .val 40), (114, .val 0), (115, .val 0), (119, .val 39), (120, .val 0), (121, .val 0)])], [.box 110 [.val 0, .own 7, .own 8, .own 9], .box 118 [.val 44], .row 69 42, .box 36 [.val 35], .box 56 [.val 0, .own 10, .own 11, .own 12], .map 0 0, .box 114 [.val 4], .row 69 42, .row 118 44, .row 63 46, .row 69 42, .row 118 44, .row 63 46]⟩ (fun n z => z1w φ (fun a0 a1 a2 a3 a4 a5 a6 a7 a8 a9 a10 a11 a12 a13 a14 a15 a16 => zk112 (a0, a1, a2, a3, a4, a5, a6, a7, a8, a9, a10, a11, a12, a13, a14, a15, a16, ())) n z.1 z.2.1 z.2.2.1 z.2.2.2.1 z.2.2.2.2.1 z.2.2.2.2.2.1 z.2.2.2.2.2.2.1 z.2.2.2.2.2.2.2.1 z.2.2.2.2.2.2.2.2.1 z.2.2.2.2.2.2.2.2.2.1 z.2.2.2.2.2.2.2.2.2.2.1 z.2.2.2.2.2.2.2.2.2.2.2.1 z.2.2.2.2.2.2.2.2.2.2.2.2.1 z.2.2.2.2.2.2.2.2.2.2.2.2.2.1 z.2.2.2.2.2.2.2.2.2.2.2.2.2.2.1 z.2.2.2.2.2.2.2.2.2.2.2.2.2.2.2.1 z.2.2.2.2.2.2.2.2.2.2.2.2.2.2.2.2.1 z.2.2.2.2.2.2.2.2.2.2.2.2.2.2.2.2.2.1 z.2.2.2.2.2.2.2.2.2.2.2.2.2.2.2.2.2.2.1 z.2.2.2.2.2.2.2.2.2.2.2.2.2.2.2.2.2.2.2.1 z.2.2.2.2.2.2.2.2.2.2.2.2.2.2.2.2.2.2.2.2.1 z.2.2.2.2.2.2.2.2.2.2.2.2.2.2.2.2.2.2.2.2.2.1 z.2.2.2.2.2.2.2.2.2.2.2.2.2.2.2.2.2.2.2.2.2.2.1 z.2.2.2.2.2.2.2.2.2.2.2.2.2.2.2.2.2.2.2.2.2.2.2.1) (fun zk220 => .x))))) .x))))) (.seq .x (.cond (.seq .x (.ins 19 50 (.seq .x (.seq .x (.body (.loop ⟨[(39, [(0, .ptr 0 0), (4, .ptr 1 0), (8, .own 2), (9, .val 0), (10, .val 0)]), (257, [(2, .ptr 3 0), (4, .ptr 4 0), (8, .ptr 0 0), (9, .own 5), (19, .val 39), (113, .val 40), (114, .val 0), (115, .val 0), (119, .val 39), (120, .val 0), (121, .val 0), (215, .ptr 0 0), (216, .ptr 6 2), (217, .val 1), (218, .ptr 7 0), (219, .ptr 7 2), (220, .val 1), (221, .val 44), (222, .val 0), (223, .val 0), (224, .val 0), (225, .ptr 3 0), (226, .val 15), (227, .val 3), (228, .ptr 7 0), (229, .val 3), (230, .val 0), (231, .val 0), (232, .val 42), (233, .own 2)])], [.box 110 [.val 0, .own 8, .own 9, .own 10], .box 118 [.val 44], .row 69 42, .box 36 [.val 35], .box 56 [.val 0, .own 11, .own 12, .own 13], .map 0 0, .box 65 [.val 3], .box 114 [.val 4], .row 69 42, .row 118 44, .row 63 46, .row 69 42, .row 118 44, .row 63 46]⟩ (fun n z => z1x φ (fun a0 a1 a2 a3 a4 a5 a6 a7 a8 a9 a10 a11 a12 a13 a14 a15 a16 => zk112 (a0, a1, a2, a3, a4, a5, a6, a7, a8, a9, a10, a11, a12, a13, a14, a15, a16, ())) n z.1 z.2.1 z.2.2.1 z.2.2.2.1 z.2.2.2.2.1 z.2.2.2.2.2.1 z.2.2.2.2.2.2.1 z.2.2.2.2.2.2.2.1 z.2.2.2.2.2.2.2.2.1 z.2.2.2.2.2.2.2.2.2.1 z.2.2.2.2.2.2.2.2.2.2.1 z.2.2.2.2.2.2.2.2.2.2.2.1 z.2.2.2.2.2.2.2.2.2.2.2.2.1 z.2.2.2.2.2.2.2.2.2.2.2.2.2.1 z.2.2.2.2.2.2.2.2.2.2.2.2.2.2.1 z.2.2.2.2.2.2.2.2.2.2.2.2.2.2.2.1 z.2.2.2.2.2.2.2.2.2.2.2.2.2.2.2.2.1 z.2.2.2.2.2.2.2.2.2.2.2.2.2.2.2.2.2.1 z.2.2.2.2.2.2.2.2.2.2.2.2.2.2.2.2.2.2.1 z.2.2.2.2.2.2.2.2.2.2.2.2.2.2.2.2.2.2.2.1 z.2.2.2.2.2.2.2.2.2.2.2.2.2.2.2.2.2.2.2.2.1 z.2.2.2.2.2.2.2.2.2.2.2.2.2.2.2.2.2.2.2.2.2.1 z.2.2.2.2.2.2.2.2.2.2.2.2.2.2.2.2.2.2.2.2.2.2.1 z.2.2.2.2.2.2.2.2.2.2.2.2.2.2.2.2.2.2.2.2.2.2.2.1 z.2.2.2.2.2.2.2.2.2.2.2.2.2.2.2.2.2.2.2.2.2.2.2.2.1 z.2.2.2.2.2.2.2.2.2.2.2.2.2.2.2.2.2.2.2.2.2.2.2.2.2.1 z.2.2.2.2.2.2.2.2.2.2.2.2.2.2.2.2.2.2.2.2.2.2.2.2.2.2.1 z.2.2.2.2.2.2.2.2.2.2.2.2.2.2.2.2.2.2.2.2.2.2.2.2.2.2.2.1 z.2.2.2.2.2.2.2.2.2.2.2.2.2.2.2.2.2.2.2.2.2.2.2.2.2.2.2.2.1 z.2.2.2.2.2.2.2.2.2.2.2.2.2.2.2.2.2.2.2.2.2.2.2.2.2.2.2.2.2.1 z.2.2.2.2.2.2.2.2.2.2.2.2.2.2.2.2.2.2.2.2.2.2.2.2.2.2.2.2.2.2.1 z.2.2.2.2.2.2.2.2.2.2.2.2.2.2.2.2.2.2.2.2.2.2.2.2.2.2.2.2.2.2.2.1 z.2.2.2.2.2.2.2.2.2.2.2.2.2.2.2.2.2.2.2.2.2.2.2.2.2.2.2.2.2.2.2.2.1 z.2.2.2.2.2.2.2.2.2.2.2.2.2.2.2.2.2.2.2.2.2.2.2.2.2.2.2.2.2.2.2.2.2.1 z.2.2.2.2.2.2.2.2.2.2.2.2.2.2.2.2.2.2.2.2.2.2.2.2.2.2.2.2.2.2.2.2.2.2.1) (fun zk170 => .x))))) .x)) .x)))))))) .x))))))))) .x))))))) .x))))))))
def zam (P : Program) (φ : Nat) : Env TV := ⟨P, lk [(27, z2x φ), (49, za2 φ), (51, z9x φ)], lk [], lk []⟩
theorem zlp (φ : Nat) (a) : (z5k φ).F a = fnX TV (zam Tryz.prog φ) φ Tryz.f22 [35, 38] [.val 48, .val 0] (z86 φ) a := by kernel_rfl
theorem zlj (φ : Nat) : fnO TV (zam Tryz.prog φ) φ Tryz.f22 [.val 48, .val 0] (z86 φ) := by
  unfold fnO
  show obl _ _ _ _ _ _ _
  unfold z86
  repeat' (first | exact trivial | (refine ⟨?_, ?_⟩) | (intro _) | kernel_rfl)
theorem zao (φ : Nat) : z19 TV Tryz.prog 22 (z5k φ) :=
  z1p (N := zam Tryz.prog φ) (zz ⟨z6r φ, zk3 φ, zk9 φ, trivial⟩ trivial trivial) (z86 φ) Tryz.func22 (by kernel_rfl) (zlp φ) (zlj φ)
def z9a (φ : Nat) : H TV (RTup TT [.val 0]) := (.seq .x (.seq .x (.seq .x (.seq (.seq .x (.body (.loop ⟨[(48, [(0, .val 0), (16, .val 43), (17, .val 0), (18, .val 0)])], []⟩ (fun n z => z40 φ n z.1 z.2.1 z.2.2.1 z.2.2.2.1) (fun zk7 => .x)))) .x))))
def zbt (P : Program) (φ : Nat) : Env TV := ⟨P, lk [], lk [], lk []⟩
theorem zoe (φ : Nat) (a) : (z9n φ).F a = fnX TV (zbt Tryz.prog φ) φ Tryz.f52 [0, 43] [.val 0] (z9a φ) a := by kernel_rfl
theorem zpd (φ : Nat) : fnO TV (zbt Tryz.prog φ) φ Tryz.f52 [.val 0] (z9a φ) := by
  unfold fnO
  show obl _ _ _ _ _ _ _
  unfold z9a
  repeat' (first | exact trivial | (refine ⟨?_, ?_⟩) | (intro _) | kernel_rfl)
theorem zgr (φ : Nat) : z19 TV Tryz.prog 52 (z9n φ) :=
  z1p (N := zbt Tryz.prog φ) (zz trivial trivial trivial) (z9a φ) Tryz.func52 (by kernel_rfl) (zoe φ) (zpd φ)
end Px
end
section
set_option linter.unusedVariables false
set_option linter.unusedSimpArgs false
set_option maxHeartbeats 4000000
set_option maxRecDepth 100000
namespace Px
open Go Go.RowKit Go.Proofs
def z9h (φ : Nat) : H TV (RTup TT [.val 50, .val 50]) := .x
def zbg (P : Program) (φ : Nat) : Env TV := ⟨P, lk [], lk [], lk []⟩
theorem zo3 (φ : Nat) (a) : (zci φ).F a = fnX TV (zbg Tryz.prog φ) φ Tryz.f140 [50, 50] [.val 50, .val 50] (z9h φ) a := by kernel_rfl
theorem zof (φ : Nat) : fnO TV (zbg Tryz.prog φ) φ Tryz.f140 [.val 50, .val 50] (z9h φ) := by
  unfold fnO
  show obl _ _ _ _ _ _ _
  unfold z9h
  repeat' (first | exact trivial | (refine ⟨?_, ?_⟩) | (intro _) | kernel_rfl)
theorem zoc (φ : Nat) : z19 TV Tryz.prog 140 (zci φ) :=
  z1p (N := zbg Tryz.prog φ) (zz trivial trivial trivial) (z9h φ) Tryz.func140 (by kernel_rfl) (zo3 φ) (zof φ)
def zd0 (φ : Nat) : H TV (RTup TT [.val 16, .val 16]) := .x
def zg3 (P : Program) (φ : Nat) : Env TV := ⟨P, lk [(140, zci φ), (141, z9b φ)], lk [], lk []⟩
theorem zt3 (φ : Nat) (a) : (zfp φ).F a = fnX TV (zg3 Tryz.prog φ) φ Tryz.f108 [16, 16] [.val 16, .val 16] (zd0 φ) a := by kernel_rfl
theorem zta (φ : Nat) : fnO TV (zg3 Tryz.prog φ) φ Tryz.f108 [.val 16, .val 16] (zd0 φ) := by
  unfold fnO
  show obl _ _ _ _ _ _ _
  unfold zd0
  repeat' (first | exact trivial | (refine ⟨?_, ?_⟩) | (intro _) | kernel_rfl)
theorem zsx (φ : Nat) : z19 TV Tryz.prog 108 (zfp φ) :=
  z1p (N := zg3 Tryz.prog φ) (zz ⟨zoc φ, zgs φ, trivial⟩ trivial trivial) (zd0 φ) Tryz.func108 (by kernel_rfl) (zt3 φ) (zta φ)
def z5u (φ : Nat) : H TV (RTup TT [.row 3 0]) := (.seq .x (.seq .x (.seq .x (.seq .x (.seq .x (.seq .x (.seq (.body (.loop ⟨[(48, [(7, .own 0), (8, .val 0)])], [.row 3 0]⟩ (fun n z => z36 φ n z.1 z.2.1) (fun zk6 => .x))) .x)))))))
def z8f (P : Program) (φ : Nat) : Env TV := ⟨P, lk [(108, zfp φ)], lk [], lk []⟩
theorem zjm (φ : Nat) (a) : (z8x φ).F a = fnX TV (z8f Tryz.prog φ) φ Tryz.f83 [5, 0] [.row 3 0] (z5u φ) a := by kernel_rfl
theorem zje (φ : Nat) : fnO TV (z8f Tryz.prog φ) φ Tryz.f83 [.row 3 0] (z5u φ) := by
  unfold fnO
  show obl _ _ _ _ _ _ _
  unfold z5u
  repeat' (first | exact trivial | (refine ⟨?_, ?_⟩) | (intro _) | kernel_rfl)
theorem zjh (φ : Nat) : z19 TV Tryz.prog 83 (z8x φ) :=
  z1p (N := z8f Tryz.prog φ) (zz ⟨zsx φ, trivial⟩ trivial trivial) (z5u φ) Tryz.func83 (by kernel_rfl) (zjm φ) (zje φ)
theorem zei (φ : Nat) (k24 : ((List z7) → Int → Int → Int → (List z7) → Int → Int → (List Int) → (List Int) → Option ((List Int) × (List Int) × Int × Unit))) (x25 : Int) (x26 : Int) (x27 : (List z7)) (x28 : Int) (x29 : Int) (x30 : Int) (x31 : Int) (x32 : (List z7)) (x33 : Int) (x34 : Int) (x35 : z7) (x36 : (List Int)) (x37 : (List Int)) : z0e (z3o φ k24 x25 x26 x27 x28 x29 x30 x31 x32 x33 x34 x35 x36 x37) (z7w φ k24 x25 x26 x27 x28 x29 x30 x31 x32 x33 x34 x35 x36 x37) := by
  unfold z3o z7w
  repeat' (first | exact z0e.one | exact z0e.nil | refine z0e.cons ?_ ?_ | refine z0e.ck ?_ | exact z0e.same (n := 2) rfl | exact z0e.same (n := 3) rfl | exact z0e.same (n := 4) rfl | exact z0e.same (n := 6) rfl | refine z0e.bind fun _ => ?_)
theorem zes (φ : Nat) (x39 : Int) (x40 : (List Int)) (x41 : (List Int)) : z0e (z8o φ x39 x40 x41) (zb5 φ x39 x40 x41) := by
  unfold z8o zb5
  repeat' (first | exact z0e.one | exact z0e.nil | refine z0e.cons ?_ ?_ | refine z0e.ck ?_ | exact z0e.same (n := 2) rfl | exact z0e.same (n := 3) rfl | exact z0e.same (n := 4) rfl | exact z0e.same (n := 6) rfl | refine z0e.bind fun _ => ?_)
theorem ze9 (φ : Nat) (x43 : Int) (x44 : (List Int)) (x45 : (List Int)) : z0e (z5m φ x43 x44 x45) (z7i φ x43 x44 x45) := by
  unfold z5m z7i
  repeat' (first | exact z0e.one | exact z0e.nil | refine z0e.cons ?_ ?_ | refine z0e.ck ?_ | exact z0e.same (n := 2) rfl | exact z0e.same (n := 3) rfl | exact z0e.same (n := 4) rfl | exact z0e.same (n := 6) rfl | refine z0e.bind fun _ => ?_)
theorem ze5 (φ : Nat) (x47 : Int) (x48 : (List z7)) (x49 : (List Int)) (x50 : (List Int)) : z0e (z3p φ x47 x48 x49 x50) (z7g φ x47 x48 x49 x50) := by
  unfold z3p z7g
  constructor
  intro r h
  obtain ⟨hp, h⟩ := z9y h
  obtain ⟨y, hy, hk⟩ := bind_some h
  exact ⟨[some r, some r, some r], by simp [z6 hp, hy, catL, cat2]; exact hk, by simp⟩
def z82 (φ : Nat) : H TV (RTup TT [.val 5, .val 5, .val 0]) := (.seq .x (.seq (.join ⟨[(19, [(0, .val 0), (1, .val 43), (4, .ptr 0 0), (5, .ptr 1 0)])], [.box 46 [.own 2], .box 46 [.own 3], .row 3 0, .row 3 0]⟩ (fun z => z3d φ z.1 z.2.1 z.2.2.1 z.2.2.2.1) (.alt ⟨[(19, [(0, .val 0), (1, .val 43), (4, .ptr 0 0), (5, .ptr 1 0)])], [.box 46 [.own 2], .box 46 [.own 3], .row 3 0, .row 3 0]⟩ (fun z => z3p φ z.1 z.2.1 z.2.2.1 z.2.2.2.1) (fun z => z7g φ z.1 z.2.1 z.2.2.1 z.2.2.2.1))) (.seq (.ins 3 72 (.seq .x (.body (.seq .x (.seq .x (.seq (.seq .x (.body (.loop ⟨[(30, [(1, .val 43), (2, .func 84 [.ptr 0 0, .ptr 1 0]), (7, .val 0), (10, .val 0), (11, .val 0)]), (19, [(4, .ptr 0 0), (5, .ptr 1 0)])], [.box 46 [.own 2], .box 46 [.own 3], .row 3 0, .row 3 0]⟩ (fun n z => z2u φ n z.1 z.2.1 z.2.2.1 z.2.2.2.1 z.2.2.2.2.1 z.2.2.2.2.2.1) (fun zk14 => (.seq .x (.seq .x (.seq (.body (.seq .x (.seq (.seq .x (.body (.loop ⟨[(30, [(1, .val 43), (2, .func 84 [.ptr 0 0, .ptr 1 0]), (7, .val 0), (10, .val 0), (11, .val 0), (13, .val 43), (14, .val 0), (15, .val 0)]), (19, [(4, .ptr 0 0), (5, .ptr 1 0)])], [.box 46 [.own 2], .box 46 [.own 3], .row 3 0, .row 3 0]⟩ (fun n z => z1o φ (fun a0 a1 a2 a3 a4 a5 => zk14 (a0, a1, a2, a3, a4, a5, ())) n z.1 z.2.1 z.2.2.1 z.2.2.2.1 z.2.2.2.2.1 z.2.2.2.2.2.1 z.2.2.2.2.2.2.1 z.2.2.2.2.2.2.2.1 z.2.2.2.2.2.2.2.2.1) (fun zk24 => (.seq .x (.seq .x (.seq (.body (.seq .x (.seq (.ins 3 84 (.seq .x (.seq (.seq .x (.seq .x (.cond (.seq (.alt ⟨[(33, [(0, .val 0), (2, .ptr 0 0), (3, .ptr 1 0), (5, .ptr 2 0), (7, .val 0)]), (30, [(1, .val 43), (2, .func 84 [.ptr 0 0, .ptr 1 0]), (7, .val 0), (8, .val 0), (10, .val 0), (11, .val 0), (13, .val 43), (14, .val 0), (15, .val 0)]), (19, [(4, .ptr 0 0), (5, .ptr 1 0)])], [.box 46 [.own 3], .box 46 [.own 4], .box 69 [.val 42], .row 3 0, .row 3 0]⟩ (fun z => z3o φ (fun a0 a1 a2 a3 a4 a5 a6 a7 a8 => zk24 (a0, a1, a2, a3, a4, a5, a6, a7, a8, ())) z.1 z.2.1 z.2.2.1 z.2.2.2.1 z.2.2.2.2.1 z.2.2.2.2.2.1 z.2.2.2.2.2.2.1 z.2.2.2.2.2.2.2.1 z.2.2.2.2.2.2.2.2.1 z.2.2.2.2.2.2.2.2.2.1 z.2.2.2.2.2.2.2.2.2.2.1 z.2.2.2.2.2.2.2.2.2.2.2.1 z.2.2.2.2.2.2.2.2.2.2.2.2.1) (fun z => z7w φ (fun a0 a1 a2 a3 a4 a5 a6 a7 a8 => zk24 (a0, a1, a2, a3, a4, a5, a6, a7, a8, ())) z.1 z.2.1 z.2.2.1 z.2.2.2.1 z.2.2.2.2.1 z.2.2.2.2.2.1 z.2.2.2.2.2.2.1 z.2.2.2.2.2.2.2.1 z.2.2.2.2.2.2.2.2.1 z.2.2.2.2.2.2.2.2.2.1 z.2.2.2.2.2.2.2.2.2.2.1 z.2.2.2.2.2.2.2.2.2.2.2.1 z.2.2.2.2.2.2.2.2.2.2.2.2.1)) .x) .x))) .x)) .x) .x))) .x))))))) .x))) .x))))))) .x))))) .x) (.seq (.alt ⟨[(19, [(4, .ptr 0 0), (5, .ptr 1 0), (6, .val 0)])], [.box 46 [.own 2], .box 46 [.own 3], .row 3 0, .row 3 0]⟩ (fun z => z5m φ z.1 z.2.1 z.2.2.1) (fun z => z7i φ z.1 z.2.1 z.2.2.1)) .x))))
def zas (P : Program) (φ : Nat) : Env TV := ⟨P, lk [(83, z8x φ)], lk [], lk []⟩
theorem zm2 (φ : Nat) (a) : (z81 φ).F a = fnX TV (zas Tryz.prog φ) φ Tryz.f53 [0, 43] [.val 5, .val 5, .val 0] (z82 φ) a := by kernel_rfl
theorem zll (φ : Nat) : fnO TV (zas Tryz.prog φ) φ Tryz.f53 [.val 5, .val 5, .val 0] (z82 φ) := by
  unfold fnO
  show obl _ _ _ _ _ _ _
  unfold z82
  repeat' (first | exact trivial | (refine ⟨?_, ?_⟩) | (intro _) | kernel_rfl | exact zei .. | exact zes .. | exact ze9 .. | exact ze5 ..)
theorem zem (φ : Nat) : z19 TV Tryz.prog 53 (z81 φ) :=
  z1p (N := zas Tryz.prog φ) (zz ⟨zjh φ, trivial⟩ trivial trivial) (z82 φ) Tryz.func53 (by kernel_rfl) (zm2 φ) (zll φ)
def z9q (φ : Nat) : H TV (RTup TT [.val 5, .val 0]) := .x
def zbs (P : Program) (φ : Nat) : Env TV := ⟨P, lk [(52, z9n φ), (53, z81 φ)], lk [], lk []⟩
theorem zp1 (φ : Nat) (a) : (z78 φ).F a = fnX TV (zbs Tryz.prog φ) φ Tryz.f23 [0, 43] [.val 5, .val 0] (z9q φ) a := by kernel_rfl
theorem zor (φ : Nat) : fnO TV (zbs Tryz.prog φ) φ Tryz.f23 [.val 5, .val 0] (z9q φ) := by
  unfold fnO
  show obl _ _ _ _ _ _ _
  unfold z9q
  repeat' (first | exact trivial | (refine ⟨?_, ?_⟩) | (intro _) | kernel_rfl)
theorem zbh (φ : Nat) : z19 TV Tryz.prog 23 (z78 φ) :=
  z1p (N := zbs Tryz.prog φ) (zz ⟨zgr φ, zem φ, trivial⟩ trivial trivial) (z9q φ) Tryz.func23 (by kernel_rfl) (zp1 φ) (zor φ)
def z31 (φ : Nat) : H TV (RTup TT [.val 5]) := (.seq .x (.seq .x (.seq (.seq .x (.body (.loop ⟨[(45, [(2, .ptr 0 0), (3, .ptr 1 0), (5, .ptr 2 0), (15, .val 0), (16, .val 0)])], [.box 56 [.val 48], .box 4 [.val 2], .box 46 [.own 3], .row 3 0]⟩ (fun n z => z0k φ n z.1 z.2.1 z.2.2.1 z.2.2.2.1 z.2.2.2.2.1) (fun zk8 => .x)))) (.seq .x (.seq .x (.seq (.seq .x (.body (.loop ⟨[(45, [(2, .ptr 0 0), (5, .ptr 1 0), (7, .ptr 2 0), (8, .func 90 [.ptr 3 0, .ptr 1 0, .ptr 2 0]), (27, .val 0), (28, .val 0)])], [.box 56 [.val 48], .box 46 [.own 4], .box 4 [.val 2], .box 4 [.val 2], .row 3 0]⟩ (fun n z => z12 φ n z.1 z.2.1 z.2.2.1 z.2.2.2.1 z.2.2.2.2.1 z.2.2.2.2.2.1) (fun zk15 => (.seq .x (.seq .x (.seq (.body (.seq .x (.seq .x (.seq .x (.body (.loop ⟨[(45, [(2, .ptr 0 0), (5, .ptr 1 0), (7, .ptr 2 0), (8, .func 90 [.ptr 3 0, .ptr 1 0, .ptr 2 0]), (27, .val 0), (28, .val 0), (33, .val 43), (34, .val 0), (35, .val 0)])], [.box 56 [.val 48], .box 46 [.own 4], .box 4 [.val 2], .box 4 [.val 2], .row 3 0]⟩ (fun n z => zr φ (fun a0 a1 a2 a3 a4 a5 => zk15 (a0, a1, a2, a3, a4, a5, ())) n z.1 z.2.1 z.2.2.1 z.2.2.2.1 z.2.2.2.2.1 z.2.2.2.2.2.1 z.2.2.2.2.2.2.1 z.2.2.2.2.2.2.2.1 z.2.2.2.2.2.2.2.2.1) (fun zk25 => (.seq .x (.seq .x (.seq (.body (.seq .x (.ins 2 90 (.seq .x (.seq .x (.seq (.join ⟨[(43, [(2, .ptr 0 0), (3, .ptr 1 0), (4, .ptr 2 0), (5, .val 0), (6, .val 0)]), (45, [(2, .ptr 3 0), (5, .ptr 0 0), (7, .ptr 1 0), (8, .func 90 [.ptr 4 0, .ptr 0 0, .ptr 1 0]), (27, .val 0), (28, .val 0), (33, .val 43), (34, .val 0), (35, .val 0)])], [.box 46 [.own 5], .box 4 [.val 2], .box 69 [.val 42], .box 56 [.val 48], .box 4 [.val 2], .row 3 0]⟩ (fun z => z1l φ (fun a0 a1 a2 a3 a4 a5 a6 a7 a8 => zk25 (a0, a1, a2, a3, a4, a5, a6, a7, a8, ())) z.1 z.2.1 z.2.2.1 z.2.2.2.1 z.2.2.2.2.1 z.2.2.2.2.2.1 z.2.2.2.2.2.2.1 z.2.2.2.2.2.2.2.1 z.2.2.2.2.2.2.2.2.1 z.2.2.2.2.2.2.2.2.2.1 z.2.2.2.2.2.2.2.2.2.2.1 z.2.2.2.2.2.2.2.2.2.2.2.1) (.seq .x .x)) .x))) .x))) .x)))))))))) .x))))))) .x))))))
def z4v (P : Program) (φ : Nat) : Env TV := ⟨P, lk [], lk [], lk []⟩
theorem zdj (φ : Nat) (a) : (z2z φ).F a = fnX TV (z4v Tryz.prog φ) φ Tryz.f62 [48, 2] [.val 5] (z31 φ) a := by kernel_rfl
theorem zdn (φ : Nat) : fnO TV (z4v Tryz.prog φ) φ Tryz.f62 [.val 5] (z31 φ) := by
  unfold fnO
  show obl _ _ _ _ _ _ _
  unfold z31
  repeat' (first | exact trivial | (refine ⟨?_, ?_⟩) | (intro _) | kernel_rfl)
theorem z8w (φ : Nat) : z19 TV Tryz.prog 62 (z2z φ) :=
  z1p (N := z4v Tryz.prog φ) (zz trivial trivial trivial) (z31 φ) Tryz.func62 (by kernel_rfl) (zdj φ) (zdn φ)
def z5h (φ : Nat) : H TV (RTup TT [.val 48, .val 51, .val 0]) := (.seq .x (.seq .x (.seq .x (.seq .x (.seq .x (.seq (.seq .x (.body (.loop ⟨[(72, [(4, .ptr 0 0), (5, .own 1), (9, .val 5), (10, .val 5), (40, .val 47), (41, .val 0), (42, .val 0)])], [.box 56 [.val 48], .row 65 3]⟩ (fun n z => z1c φ n z.1 z.2.1 z.2.2.1 z.2.2.2.1 z.2.2.2.2.1 z.2.2.2.2.2.1 z.2.2.2.2.2.2.1) (fun zk14 => .x)))) .x))))))
def z8n (P : Program) (φ : Nat) : Env TV := ⟨P, lk [(22, z5k φ), (23, z78 φ), (62, z2z φ)], lk [], lk []⟩
theorem zia (φ : Nat) (a) : (z61 φ).F a = fnX TV (z8n Tryz.prog φ) φ Tryz.f38 [35, 38] [.val 48, .val 51, .val 0] (z5h φ) a := by kernel_rfl
theorem zif (φ : Nat) : fnO TV (z8n Tryz.prog φ) φ Tryz.f38 [.val 48, .val 51, .val 0] (z5h φ) := by
  unfold fnO
  show obl _ _ _ _ _ _ _
  unfold z5h
  repeat' (first | exact trivial | (refine ⟨?_, ?_⟩) | (intro _) | kernel_rfl)
theorem zck (φ : Nat) : z19 TV Tryz.prog 38 (z61 φ) :=
  z1p (N := z8n Tryz.prog φ) (zz ⟨zao φ, zbh φ, z8w φ, trivial⟩ trivial trivial) (z5h φ) Tryz.func38 (by kernel_rfl) (zia φ) (zif φ)
def z4t (φ : Nat) : H TV (RTup TT [.val 51, .val 0]) := .x
def z7l (P : Program) (φ : Nat) : Env TV := ⟨P, lk [(38, z61 φ)], lk [], lk []⟩
theorem zha (φ : Nat) (a) : (z7r φ).F a = fnX TV (z7l Tryz.prog φ) φ Tryz.f12 [35, 38] [.val 51, .val 0] (z4t φ) a := by kernel_rfl
theorem zhc (φ : Nat) : fnO TV (z7l Tryz.prog φ) φ Tryz.f12 [.val 51, .val 0] (z4t φ) := by
  unfold fnO
  show obl _ _ _ _ _ _ _
  unfold z4t
  repeat' (first | exact trivial | (refine ⟨?_, ?_⟩) | (intro _) | kernel_rfl)
theorem zhf (φ : Nat) : z19 TV Tryz.prog 12 (z7r φ) :=
  z1p (N := z7l Tryz.prog φ) (zz ⟨zck φ, trivial⟩ trivial trivial) (z4t φ) Tryz.func12 (by kernel_rfl) (zha φ) (zhc φ)
def z3x (φ : Nat) : H TV (RTup TT [.val 51, .val 0]) := (.seq .x (.seq (.ins 2 12 (.seq .x (.seq (.ins 2 38 (.seq .x (.seq .x (.seq .x (.seq .x (.seq .x (.seq (.seq .x (.body (.loop ⟨[(72, [(4, .ptr 0 0), (5, .own 1), (9, .val 5), (10, .val 5), (40, .val 47), (41, .val 0), (42, .val 0)]), (15, []), (30, [])], [.box 56 [.val 48], .row 65 3]⟩ (fun n z => z0w φ n z.1 z.2.1 z.2.2.1 z.2.2.2.1 z.2.2.2.2.1 z.2.2.2.2.2.1 z.2.2.2.2.2.2.1) (fun zk24 => .x)))) .x)))))) .x) .x)) .x) (.seq (.seq .x (.body (.loop ⟨[(30, [(4, .own 0), (5, .val 0), (14, .val 0), (15, .val 0)])], [.row 65 3]⟩ (fun n z => z1d φ n z.1 z.2.1 z.2.2.1 z.2.2.2.1) (fun zk29 => .x)))) .x)))
def z6k (P : Program) (φ : Nat) : Env TV := ⟨P, lk [(22, z5k φ), (23, z78 φ), (62, z2z φ)], lk [], lk []⟩
theorem zg9 (φ : Nat) (a) : (z3z φ).F a = fnX TV (z6k Tryz.prog φ) φ Tryz.f18 [35, 38] [.val 51, .val 0] (z3x φ) a := by kernel_rfl
theorem zff (φ : Nat) : fnO TV (z6k Tryz.prog φ) φ Tryz.f18 [.val 51, .val 0] (z3x φ) := by
  unfold fnO
  show obl _ _ _ _ _ _ _
  unfold z3x
  repeat' (first | exact trivial | (refine ⟨?_, ?_⟩) | (intro _) | kernel_rfl)
theorem za4 (φ : Nat) : z19 TV Tryz.prog 18 (z3z φ) :=
  z1p (N := z6k Tryz.prog φ) (zz ⟨zao φ, zbh φ, z8w φ, trivial⟩ trivial trivial) (z3x φ) Tryz.func18 (by kernel_rfl) (zg9 φ) (zff φ)
def z3m (φ : Nat) : H TV (RTup TT [.val 2]) := (.seq .x (.seq .x (.seq (.seq .x (.body (.loop ⟨[(26, [(0, .val 51), (1, .val 51), (5, .val 0)])], []⟩ (fun n z => z4x φ n z.1 z.2.1 z.2.2.1) (fun zk6 => .x)))) .x)))
def z6a (P : Program) (φ : Nat) : Env TV := ⟨P, lk [], lk [], lk []⟩
theorem zfb (φ : Nat) (a) : (z5y φ).F a = fnX TV (z6a Tryz.prog φ) φ Tryz.f20 [51, 51] [.val 2] (z3m φ) a := by kernel_rfl
theorem ze6 (φ : Nat) : fnO TV (z6a Tryz.prog φ) φ Tryz.f20 [.val 2] (z3m φ) := by
  unfold fnO
  show obl _ _ _ _ _ _ _
  unfold z3m
  repeat' (first | exact trivial | (refine ⟨?_, ?_⟩) | (intro _) | kernel_rfl)
theorem zeo (φ : Nat) : z19 TV Tryz.prog 20 (z5y φ) :=
  z1p (N := z6a Tryz.prog φ) (zz trivial trivial trivial) (z3m φ) Tryz.func20 (by kernel_rfl) (zfb φ) (ze6 φ)
def z88 (φ : Nat) : H TV (RTup TT [.val 48, .val 51, .val 0, .val 0, .val 0]) := (.seq .x (.seq .x (.seq .x (.seq .x (.seq (.body (.loop ⟨[(82, [(2, .val 0), (8, .ptr 0 0), (9, .val 51), (10, .val 0), (12, .val 0)])], [.box 56 [.val 48]]⟩ (fun n z => z8d φ n z.1 z.2.1 z.2.2.1 z.2.2.2.1 z.2.2.2.2.1) (fun zk12 => .x))) (.seq (.seq .x (.body (.loop ⟨[(82, [(2, .val 0), (8, .ptr 0 0), (9, .val 51), (10, .val 0), (11, .val 0), (12, .val 0)])], [.box 56 [.val 48]]⟩ (fun n z => z92 φ n z.1 z.2.1 z.2.2.1 z.2.2.2.1 z.2.2.2.2.1 z.2.2.2.2.2.1) (fun zk19 => .x)))) .x))))))
def zat (P : Program) (φ : Nat) : Env TV := ⟨P, lk [(27, z2x φ), (38, z61 φ)], lk [], lk []⟩
theorem zlz (φ : Nat) (a) : (z7z φ).F a = fnX TV (zat Tryz.prog φ) φ Tryz.f42 [35, 38, 0, 0] [.val 48, .val 51, .val 0, .val 0, .val 0] (z88 φ) a := by kernel_rfl
theorem zlu (φ : Nat) : fnO TV (zat Tryz.prog φ) φ Tryz.f42 [.val 48, .val 51, .val 0, .val 0, .val 0] (z88 φ) := by
  unfold fnO
  show obl _ _ _ _ _ _ _
  unfold z88
  repeat' (first | exact trivial | (refine ⟨?_, ?_⟩) | (intro _) | kernel_rfl)
theorem zeb (φ : Nat) : z19 TV Tryz.prog 42 (z7z φ) :=
  z1p (N := zat Tryz.prog φ) (zz ⟨z6r φ, zck φ, trivial⟩ trivial trivial) (z88 φ) Tryz.func42 (by kernel_rfl) (zlz φ) (zlu φ)
def z3v (φ : Nat) : H TV (RTup TT [.val 0, .val 2, .val 0]) := (.seq .x (.seq .x (.seq .x (.seq (.seq .x (.body (.loop ⟨[(64, [(3, .val 0), (12, .val 51), (13, .val 0), (14, .val 0), (15, .val 0)])], []⟩ (fun n z => z33 φ n z.1 z.2.1 z.2.2.1 z.2.2.2.1 z.2.2.2.2.1) (fun zk11 => .x)))) .x))))
def z6s (P : Program) (φ : Nat) : Env TV := ⟨P, lk [(42, z7z φ)], lk [], lk []⟩
theorem zg6 (φ : Nat) (a) : (z3u φ).F a = fnX TV (z6s Tryz.prog φ) φ Tryz.f14 [35, 38, 0, 0] [.val 0, .val 2, .val 0] (z3v φ) a := by kernel_rfl
theorem zfz (φ : Nat) : fnO TV (z6s Tryz.prog φ) φ Tryz.f14 [.val 0, .val 2, .val 0] (z3v φ) := by
  unfold fnO
  show obl _ _ _ _ _ _ _
  unfold z3v
  repeat' (first | exact trivial | (refine ⟨?_, ?_⟩) | (intro _) | kernel_rfl)
theorem za5 (φ : Nat) : z19 TV Tryz.prog 14 (z3u φ) :=
  z1p (N := z6s Tryz.prog φ) (zz ⟨zeb φ, trivial⟩ trivial trivial) (z3v φ) Tryz.func14 (by kernel_rfl) (zg6 φ) (zfz φ)
def z5f (φ : Nat) : H TV (RTup TT [.val 2]) := .x
def z8j (P : Program) (φ : Nat) : Env TV := ⟨P, lk [(33, z7e φ), (14, z3u φ)], lk [], lk []⟩
theorem zik (φ : Nat) (a) : (z8g φ).F a = fnX TV (z8j Tryz.prog φ) φ Tryz.f34 [38, 0] [.val 2] (z5f φ) a := by kernel_rfl
theorem zim (φ : Nat) : fnO TV (z8j Tryz.prog φ) φ Tryz.f34 [.val 2] (z5f φ) := by
  unfold fnO
  show obl _ _ _ _ _ _ _
  unfold z5f
  repeat' (first | exact trivial | (refine ⟨?_, ?_⟩) | (intro _) | kernel_rfl)
theorem zix (φ : Nat) : z19 TV Tryz.prog 34 (z8g φ) :=
  z1p (N := z8j Tryz.prog φ) (zz ⟨zc4 φ, za5 φ, trivial⟩ trivial trivial) (z5f φ) Tryz.func34 (by kernel_rfl) (zik φ) (zim φ)
def z2r (φ : Nat) : H TV (RTup TT [.val 0, .val 2]) := .x
def z49 (P : Program) (φ : Nat) : Env TV := ⟨P, lk [(28, z2v φ)], lk [], lk []⟩
theorem zd5 (φ : Nat) (a b) : (z44 φ).F a b = fnXc TV (z49 Tryz.prog φ) φ Tryz.f45 [0, 0] [35, 51, 0] [.val 0, .val 2] (z2r φ) a b := by kernel_rfl
theorem zd9 (φ : Nat) : fnO TV (z49 Tryz.prog φ) φ Tryz.f45 [.val 0, .val 2] (z2r φ) := by
  unfold fnO
  show obl _ _ _ _ _ _ _
  unfold z2r
  repeat' (first | exact trivial | (refine ⟨?_, ?_⟩) | (intro _) | kernel_rfl)
theorem zdb (φ : Nat) : ztp TV Tryz.prog 45 (z44 φ) :=
  zwh (N := z49 Tryz.prog φ) (zz ⟨z6u φ, trivial⟩ trivial trivial) (z2r φ) Tryz.func45 (by kernel_rfl) (zd5 φ) (zd9 φ)
def z2s (φ : Nat) : H TV (RTup TT [.val 0, .val 2]) := .x
def z47 (P : Program) (φ : Nat) : Env TV := ⟨P, lk [(28, z2v φ)], lk [], lk []⟩
theorem zd6 (φ : Nat) (a b) : (z48 φ).F a b = fnXc TV (z47 Tryz.prog φ) φ Tryz.f46 [0, 0] [35, 51, 0] [.val 0, .val 2] (z2s φ) a b := by kernel_rfl
theorem zd3 (φ : Nat) : fnO TV (z47 Tryz.prog φ) φ Tryz.f46 [.val 0, .val 2] (z2s φ) := by
  unfold fnO
  show obl _ _ _ _ _ _ _
  unfold z2s
  repeat' (first | exact trivial | (refine ⟨?_, ?_⟩) | (intro _) | kernel_rfl)
theorem zd7 (φ : Nat) : ztp TV Tryz.prog 46 (z48 φ) :=
  zwh (N := z47 Tryz.prog φ) (zz ⟨z6u φ, trivial⟩ trivial trivial) (z2s φ) Tryz.func46 (by kernel_rfl) (zd6 φ) (zd3 φ)
theorem zgc (φ : Nat) (k32 : ((List z7) → Int → Int → Int → (List z7) → Int → Int → Int → (List Bool) → (List Int) → Option (Int × Bool × Int × Unit))) (x33 : (List z7)) (x34 : Int) (x35 : Int) (x36 : Int) (x37 : Int) (x38 : (List z7)) (x39 : Int) (x40 : Int) (x41 : Int) (x42 : z7) (x43 : (List Bool)) (x44 : (List Int)) : z0e (z71 φ k32 x33 x34 x35 x36 x37 x38 x39 x40 x41 x42 x43 x44) (z8m φ k32 x33 x34 x35 x36 x37 x38 x39 x40 x41 x42 x43 x44) := by
  unfold z71 z8m
  repeat' (first | exact z0e.one | exact z0e.nil | refine z0e.cons ?_ ?_ | refine z0e.ck ?_ | exact z0e.same (n := 2) rfl | exact z0e.same (n := 3) rfl | exact z0e.same (n := 4) rfl | exact z0e.same (n := 6) rfl | refine z0e.bind fun _ => ?_)
theorem zfx (φ : Nat) (x46 : Int) (x47 : (List z7)) (x48 : Int) (x49 : Int) : z0e (z6w φ x46 x47 x48 x49) (z95 φ x46 x47 x48 x49) := by
  unfold z6w z95
  constructor
  intro r h
  obtain ⟨hp, h⟩ := z9y h
  obtain ⟨hq, h⟩ := z9y h
  refine ⟨List.replicate 30 (some r), ?_, fun a ha => (List.mem_replicate.1 ha).2⟩
  simp only [z6 hp, z6 hq, h]
  rfl
def z9v (φ : Nat) : H TV (RTup TT [.val 0, .val 2, .val 0]) := (.seq .x (.seq .x (.seq .x (.seq .x (.seq (.join ⟨[(62, [(0, .val 0), (1, .val 43), (2, .val 0), (3, .val 0), (14, .ptr 0 0), (15, .ptr 1 0)])], [.box 46 [.own 2], .box 162 [.own 3], .row 3 0, .row 4 2]⟩ (fun z => zb φ z.1 z.2.1 z.2.2.1 z.2.2.2.1 z.2.2.2.2.1 z.2.2.2.2.2.1) (.alt ⟨[(62, [(0, .val 0), (1, .val 43), (2, .val 0), (3, .val 0)])], []⟩ (fun z => z6w φ z.1 z.2.1 z.2.2.1 z.2.2.2.1) (fun z => z95 φ z.1 z.2.1 z.2.2.1 z.2.2.2.1))) (.seq .x (.seq (.ins 3 72 (.seq .x (.body (.seq .x (.seq .x (.seq (.seq .x (.body (.loop ⟨[(30, [(1, .val 43), (2, .func 73 [.ptr 0 0, .ptr 1 0]), (7, .val 0), (10, .val 0), (11, .val 0)]), (62, [(3, .val 0), (14, .ptr 1 0), (15, .ptr 0 0)])], [.box 162 [.own 2], .box 46 [.own 3], .row 4 2, .row 3 0]⟩ (fun n z => z9w φ n z.1 z.2.1 z.2.2.1 z.2.2.2.1 z.2.2.2.2.1 z.2.2.2.2.2.1 z.2.2.2.2.2.2.1) (fun zk21 => (.seq .x (.seq .x (.seq (.body (.seq .x (.seq (.seq .x (.body (.loop ⟨[(30, [(1, .val 43), (2, .func 73 [.ptr 0 0, .ptr 1 0]), (7, .val 0), (10, .val 0), (11, .val 0), (13, .val 43), (14, .val 0), (15, .val 0)]), (62, [(3, .val 0), (14, .ptr 1 0), (15, .ptr 0 0)])], [.box 162 [.own 2], .box 46 [.own 3], .row 4 2, .row 3 0]⟩ (fun n z => z6x φ (fun a0 a1 a2 a3 a4 a5 a6 => zk21 (a0, a1, a2, a3, a4, a5, a6, ())) n z.1 z.2.1 z.2.2.1 z.2.2.2.1 z.2.2.2.2.1 z.2.2.2.2.2.1 z.2.2.2.2.2.2.1 z.2.2.2.2.2.2.2.1 z.2.2.2.2.2.2.2.2.1 z.2.2.2.2.2.2.2.2.2.1) (fun zk32 => (.seq .x (.seq .x (.seq (.body (.seq .x (.seq (.ins 3 73 (.seq .x (.seq .x (.seq (.alt ⟨[(52, [(2, .ptr 0 0), (3, .ptr 1 0), (5, .ptr 2 0)]), (30, [(1, .val 43), (2, .func 73 [.ptr 0 0, .ptr 1 0]), (7, .val 0), (8, .val 0), (10, .val 0), (11, .val 0), (13, .val 43), (14, .val 0), (15, .val 0)]), (62, [(3, .val 0), (14, .ptr 1 0), (15, .ptr 0 0)])], [.box 162 [.own 3], .box 46 [.own 4], .box 69 [.val 42], .row 4 2, .row 3 0]⟩ (fun z => z71 φ (fun a0 a1 a2 a3 a4 a5 a6 a7 a8 a9 => zk32 (a0, a1, a2, a3, a4, a5, a6, a7, a8, a9, ())) z.1 z.2.1 z.2.2.1 z.2.2.2.1 z.2.2.2.2.1 z.2.2.2.2.2.1 z.2.2.2.2.2.2.1 z.2.2.2.2.2.2.2.1 z.2.2.2.2.2.2.2.2.1 z.2.2.2.2.2.2.2.2.2.1 z.2.2.2.2.2.2.2.2.2.2.1 z.2.2.2.2.2.2.2.2.2.2.2.1) (fun z => z8m φ (fun a0 a1 a2 a3 a4 a5 a6 a7 a8 a9 => zk32 (a0, a1, a2, a3, a4, a5, a6, a7, a8, a9, ())) z.1 z.2.1 z.2.2.1 z.2.2.2.1 z.2.2.2.2.1 z.2.2.2.2.2.1 z.2.2.2.2.2.2.1 z.2.2.2.2.2.2.2.1 z.2.2.2.2.2.2.2.2.1 z.2.2.2.2.2.2.2.2.2.1 z.2.2.2.2.2.2.2.2.2.2.1 z.2.2.2.2.2.2.2.2.2.2.2.1)) .x))) .x) .x))) .x))))))) .x))) .x))))))) .x))))) .x) .x)))))))
def zbu (P : Program) (φ : Nat) : Env TV := ⟨P, lk [(52, z9n φ), (53, z81 φ)], lk [], lk []⟩
theorem zo8 (φ : Nat) (a) : (zcd φ).F a = fnX TV (zbu Tryz.prog φ) φ Tryz.f47 [0, 43, 0, 0] [.val 0, .val 2, .val 0] (z9v φ) a := by kernel_rfl
theorem zow (φ : Nat) : fnO TV (zbu Tryz.prog φ) φ Tryz.f47 [.val 0, .val 2, .val 0] (z9v φ) := by
  unfold fnO
  show obl _ _ _ _ _ _ _
  unfold z9v
  repeat' (first | exact trivial | (refine ⟨?_, ?_⟩) | (intro _) | kernel_rfl | exact zgc .. | exact zfx ..)
theorem zn9 (φ : Nat) : z19 TV Tryz.prog 47 (zcd φ) :=
  z1p (N := zbu Tryz.prog φ) (zz ⟨zgr φ, zem φ, trivial⟩ trivial trivial) (z9v φ) Tryz.func47 (by kernel_rfl) (zo8 φ) (zow φ)
def z3h (φ : Nat) : H TV (RTup TT [.val 5, .val 0]) := (.seq .x (.body (.seq .x (.seq .x (.seq .x (.seq .x (.seq .x (.seq (.seq .x (.body (.loop ⟨[(161, [(8, .own 0), (10, .ptr 1 0), (11, .ptr 2 0), (12, .val 0), (13, .val 0), (14, .func 45 [.ptr 3 0, .ptr 2 0, .ptr 4 0]), (15, .func 46 [.ptr 3 0, .ptr 2 0, .ptr 4 0]), (48, .val 0), (49, .val 0)])], [.row 3 0, .box 56 [.val 48], .box 40 [.val 51], .box 36 [.val 35], .box 3 [.val 0]]⟩ (fun n z => z17 φ n z.1 z.2.1 z.2.2.1 z.2.2.2.1 z.2.2.2.2.1 z.2.2.2.2.2.1 z.2.2.2.2.2.2.1 z.2.2.2.2.2.2.2.1 z.2.2.2.2.2.2.2.2.1) (fun zk15 => (.seq .x (.seq .x (.seq (.body (.seq .x (.seq .x (.seq .x (.seq .x (.seq .x (.body (.loop ⟨[(161, [(8, .own 0), (10, .ptr 1 0), (11, .ptr 2 0), (12, .val 0), (13, .val 0), (14, .func 45 [.ptr 3 0, .ptr 2 0, .ptr 4 0]), (15, .func 46 [.ptr 3 0, .ptr 2 0, .ptr 4 0]), (16, .val 0), (21, .val 0), (48, .val 0), (49, .val 0)])], [.row 3 0, .box 56 [.val 48], .box 40 [.val 51], .box 36 [.val 35], .box 3 [.val 0]]⟩ (fun n z => z2t φ (fun a0 a1 a2 a3 a4 a5 a6 a7 a8 => zk15 (a0, a1, a2, a3, a4, a5, a6, a7, a8, ())) n z.1 z.2.1 z.2.2.1 z.2.2.2.1 z.2.2.2.2.1 z.2.2.2.2.2.1 z.2.2.2.2.2.2.1 z.2.2.2.2.2.2.2.1 z.2.2.2.2.2.2.2.2.1 z.2.2.2.2.2.2.2.2.2.1 z.2.2.2.2.2.2.2.2.2.2.1) (fun zk29 => .x))))))))) .x))))))) .x))))))))
def z5q (P : Program) (φ : Nat) : Env TV := ⟨P, lk [(42, z7z φ), (47, zcd φ)], lk [], lk [(45, z44 φ), (46, z48 φ)]⟩
theorem zea (φ : Nat) (a) : (z5c φ).F a = fnX TV (z5q Tryz.prog φ) φ Tryz.f16 [35, 38, 0, 0] [.val 5, .val 0] (z3h φ) a := by kernel_rfl
theorem zeg (φ : Nat) : fnO TV (z5q Tryz.prog φ) φ Tryz.f16 [.val 5, .val 0] (z3h φ) := by
  unfold fnO
  show obl _ _ _ _ _ _ _
  unfold z3h
  repeat' (first | exact trivial | (refine ⟨?_, ?_⟩) | (intro _) | kernel_rfl)
theorem ze8 (φ : Nat) : z19 TV Tryz.prog 16 (z5c φ) :=
  z1p (N := z5q Tryz.prog φ) (zz ⟨zeb φ, zn9 φ, trivial⟩ trivial ⟨zdb φ, zd7 φ, trivial⟩) (z3h φ) Tryz.func16 (by kernel_rfl) (zea φ) (zeg φ)
def z4q (φ : Nat) : H TV (RTup TT [.val 2]) := (.seq .x (.seq .x (.seq (.seq .x (.body (.loop ⟨[(26, [(0, .val 5), (1, .val 5), (5, .val 0)])], []⟩ (fun n z => z6q φ n z.1 z.2.1 z.2.2.1) (fun zk6 => .x)))) .x)))
def z7u (P : Program) (φ : Nat) : Env TV := ⟨P, lk [], lk [], lk []⟩
theorem zhn (φ : Nat) (a) : (z7s φ).F a = fnX TV (z7u Tryz.prog φ) φ Tryz.f21 [5, 5] [.val 2] (z4q φ) a := by kernel_rfl
theorem zh7 (φ : Nat) : fnO TV (z7u Tryz.prog φ) φ Tryz.f21 [.val 2] (z4q φ) := by
  unfold fnO
  show obl _ _ _ _ _ _ _
  unfold z4q
  repeat' (first | exact trivial | (refine ⟨?_, ?_⟩) | (intro _) | kernel_rfl)
theorem zhi (φ : Nat) : z19 TV Tryz.prog 21 (z7s φ) :=
  z1p (N := z7u Tryz.prog φ) (zz trivial trivial trivial) (z4q φ) Tryz.func21 (by kernel_rfl) (zhn φ) (zh7 φ)
def z4p (φ : Nat) : H TV (RTup TT [.val 2]) := .x
def z7y (P : Program) (φ : Nat) : Env TV := ⟨P, lk [(33, z7e φ), (16, z5c φ), (21, z7s φ)], lk [], lk []⟩
theorem zhg (φ : Nat) (a) : (z7h φ).F a = fnX TV (z7y Tryz.prog φ) φ Tryz.f35 [38, 0, 5] [.val 2] (z4p φ) a := by kernel_rfl
theorem zhq (φ : Nat) : fnO TV (z7y Tryz.prog φ) φ Tryz.f35 [.val 2] (z4p φ) := by
  unfold fnO
  show obl _ _ _ _ _ _ _
  unfold z4p
  repeat' (first | exact trivial | (refine ⟨?_, ?_⟩) | (intro _) | kernel_rfl)
theorem zhe (φ : Nat) : z19 TV Tryz.prog 35 (z7h φ) :=
  z1p (N := z7y Tryz.prog φ) (zz ⟨zc4 φ, ze8 φ, zhi φ, trivial⟩ trivial trivial) (z4p φ) Tryz.func35 (by kernel_rfl) (zhg φ) (zhq φ)
def z9j (φ : Nat) : H TV (RTup TT [.val 2]) := .x
def zc7 (P : Program) (φ : Nat) : Env TV := ⟨P, lk [(31, zcg φ), (32, zco φ), (33, z7e φ), (12, z7r φ), (18, z3z φ), (20, z5y φ), (34, z8g φ), (35, z7h φ), (14, z3u φ)], lk [], lk []⟩
theorem zp4 (φ : Nat) (a) : (zbk φ).F a = fnX TV (zc7 Tryz.prog φ) φ Tryz.f10 [] [.val 2] (z9j φ) a := by kernel_rfl
theorem zp5 (φ : Nat) : fnO TV (zc7 Tryz.prog φ) φ Tryz.f10 [.val 2] (z9j φ) := by
  unfold fnO
  show obl _ _ _ _ _ _ _
  unfold z9j
  repeat' (first | exact trivial | (refine ⟨?_, ?_⟩) | (intro _) | kernel_rfl)
theorem znb (φ : Nat) : z19 TV Tryz.prog 10 (zbk φ) :=
  z1p (N := zc7 Tryz.prog φ) (zz ⟨zny φ, zos φ, zc4 φ, zhf φ, za4 φ, zeo φ, zix φ, zhe φ, za5 φ, trivial⟩ trivial trivial) (z9j φ) Tryz.func10 (by kernel_rfl) (zp4 φ) (zp5 φ)
def z42 (φ : Nat) : H TV (RTup TT [.val 2]) := (.seq .x (.seq .x (.seq (.seq .x (.body (.loop ⟨[(65, [(1, .ptr 0 0), (3, .val 0)])], [.box 36 [.val 35]]⟩ (fun n z => z15 φ n z.1 z.2.1) (fun zk4 => .x)))) .x)))
def z6j (P : Program) (φ : Nat) : Env TV := ⟨P, lk [], lk [], lk []⟩
theorem zg5 (φ : Nat) (a) : (z6p φ).F a = fnX TV (z6j Tryz.prog φ) φ Tryz.f36 [35] [.val 2] (z42 φ) a := by kernel_rfl
theorem zfu (φ : Nat) : fnO TV (z6j Tryz.prog φ) φ Tryz.f36 [.val 2] (z42 φ) := by
  unfold fnO
  show obl _ _ _ _ _ _ _
  unfold z42
  repeat' (first | exact trivial | (refine ⟨?_, ?_⟩) | (intro _) | kernel_rfl)
theorem zfv (φ : Nat) : z19 TV Tryz.prog 36 (z6p φ) :=
  z1p (N := z6j Tryz.prog φ) (zz trivial trivial trivial) (z42 φ) Tryz.func36 (by kernel_rfl) (zg5 φ) (zfu φ)
def z3l (φ : Nat) : H TV (RTup TT [.val 2]) := (.seq .x (.seq .x (.seq (.seq .x (.body (.loop ⟨[(34, [(0, .val 38), (5, .val 0)])], []⟩ (fun n z => z1g φ n z.1 z.2.1) (fun zk5 => .x)))) .x)))
def z63 (P : Program) (φ : Nat) : Env TV := ⟨P, lk [], lk [], lk []⟩
theorem zf5 (φ : Nat) (a) : (z5z φ).F a = fnX TV (z63 Tryz.prog φ) φ Tryz.f37 [38, 0] [.val 2] (z3l φ) a := by kernel_rfl
theorem zee (φ : Nat) : fnO TV (z63 Tryz.prog φ) φ Tryz.f37 [.val 2] (z3l φ) := by
  unfold fnO
  show obl _ _ _ _ _ _ _
  unfold z3l
  repeat' (first | exact trivial | (refine ⟨?_, ?_⟩) | (intro _) | kernel_rfl)
theorem zf3 (φ : Nat) : z19 TV Tryz.prog 37 (z5z φ) :=
  z1p (N := z63 Tryz.prog φ) (zz trivial trivial trivial) (z3l φ) Tryz.func37 (by kernel_rfl) (zf5 φ) (zee φ)
def zak (φ : Nat) : H TV (RTup TT [.val 2]) := .x
def ze0 (P : Program) (φ : Nat) : Env TV := ⟨P, lk [(36, z6p φ), (37, z5z φ)], lk [], lk []⟩
theorem zqb (φ : Nat) (a) : (zdq φ).F a = fnX TV (ze0 Tryz.prog φ) φ Tryz.f11 [35, 38] [.val 2] (zak φ) a := by kernel_rfl
theorem zpk (φ : Nat) : fnO TV (ze0 Tryz.prog φ) φ Tryz.f11 [.val 2] (zak φ) := by
  unfold fnO
  show obl _ _ _ _ _ _ _
  unfold zak
  repeat' (first | exact trivial | (refine ⟨?_, ?_⟩) | (intro _) | kernel_rfl)
theorem zpy (φ : Nat) : z19 TV Tryz.prog 11 (zdq φ) :=
  z1p (N := ze0 Tryz.prog φ) (zz ⟨zfv φ, zf3 φ, trivial⟩ trivial trivial) (zak φ) Tryz.func11 (by kernel_rfl) (zqb φ) (zpk φ)
end Px
end
section
set_option linter.unusedVariables false
set_option linter.unusedSimpArgs false
set_option maxHeartbeats 4000000
set_option maxRecDepth 100000
namespace Px
open Go Go.RowKit Go.Proofs
def z84 (φ : Nat) : H TV (RTup TT [.val 43]) := (.seq .x (.seq .x (.seq (.seq .x (.body (.loop ⟨[(53, [(1, .val 51), (2, .ptr 0 0), (5, .own 1), (6, .val 0)])], [.box 56 [.val 48], .row 69 42]⟩ (fun n z => z3e φ n z.1 z.2.1 z.2.2.1 z.2.2.2.1) (fun zk7 => .x)))) .x)))
def zb1 (P : Program) (φ : Nat) : Env TV := ⟨P, lk [], lk [], lk []⟩
theorem zln (φ : Nat) (a) : (zaz φ).F a = fnX TV (zb1 Tryz.prog φ) φ Tryz.f24 [48, 51] [.val 43] (z84 φ) a := by kernel_rfl
theorem zlv (φ : Nat) : fnO TV (zb1 Tryz.prog φ) φ Tryz.f24 [.val 43] (z84 φ) := by
  unfold fnO
  show obl _ _ _ _ _ _ _
  unfold z84
  repeat' (first | exact trivial | (refine ⟨?_, ?_⟩) | (intro _) | kernel_rfl)
theorem zli (φ : Nat) : z19 TV Tryz.prog 24 (zaz φ) :=
  z1p (N := zb1 Tryz.prog φ) (zz trivial trivial trivial) (z84 φ) Tryz.func24 (by kernel_rfl) (zln φ) (zlv φ)
def z2e (φ : Nat) : H TV (RTup TT [.val 2]) := (.seq .x (.seq .x (.seq .x (.seq .x (.seq .x (.seq .x (.seq .x (.seq .x (.seq .x (.seq (.seq .x (.body (.loop ⟨[(163, [(5, .ptr 0 0), (7, .val 51), (11, .val 0)])], [.box 56 [.val 48]]⟩ (fun n z => z09 φ n z.1 z.2.1 z.2.2.1) (fun zk11 => .x)))) .x))))))))))
def z3g (P : Program) (φ : Nat) : Env TV := ⟨P, lk [(10, zbk φ), (11, zdq φ), (22, z5k φ), (18, z3z φ), (23, z78 φ), (24, zaz φ)], lk [], lk []⟩
theorem zbd (φ : Nat) (a) : (z2d φ).F a = fnX TV (z3g Tryz.prog φ) φ Tryz.f4 [35, 38] [.val 2] (z2e φ) a := by kernel_rfl
theorem zba (φ : Nat) : fnO TV (z3g Tryz.prog φ) φ Tryz.f4 [.val 2] (z2e φ) := by
  unfold fnO
  show obl _ _ _ _ _ _ _
  unfold z2e
  repeat' (first | exact trivial | (refine ⟨?_, ?_⟩) | (intro _) | kernel_rfl)
theorem zbb (φ : Nat) : z19 TV Tryz.prog 4 (z2d φ) :=
  z1p (N := z3g Tryz.prog φ) (zz ⟨znb φ, zpy φ, zao φ, za4 φ, zbh φ, zli φ, trivial⟩ trivial trivial) (z2e φ) Tryz.func4 (by kernel_rfl) (zbd φ) (zba φ)
end Px
end
section
namespace Px
open Go
set_option linter.unusedVariables false
set_option linter.unusedSimpArgs false
theorem z2f (φ : Nat) (a b c : Int) : zn φ a b c = some (bet a b c, ()) := rfl
def zj6 (t : z29) : Bool :=
  bet t.load 0 1000000 && bet t.tare 0 1000000 && bet t.length 0 1000000 && bet t.brake 0 1000000 && bet t.gauge 0 7 && bet t.life 1 1073741824 && bet t.floor 0 100
def zdp (n : Int) (w : zk2) : Bool :=
  bet w.type_ 0 (n - 1) && bet w.owner 0 63 && bet w.home 0 511 && bet w.built 0 1073741824 && bet w.worth 0 1099511627776
def zkg (n : Int) (s : Swap) : Bool := bet s.wanted 0 (n - 1) && bet s.given 0 (n - 1) && (s.wanted != s.given) && bet s.cost 0 1000000000
def zx5 (w : Wash) : Bool := bet w.from_ 0 63 && bet w.to 0 63 && (w.from_ != w.to) && bet w.minutes 0 100000
def keyW (w : Wash) : Int := 64 * w.from_ + w.to
def z5s (l : List Wash) (i : Nat) : Bool := zx5 (gt l (i : Int)) && !(l.take i).any fun v => keyW v == keyW (gt l (i : Int))
def z9k (l : List Wash) : Bool := (List.range l.length).all (z5s l)
/-- What Check answers. -/
def z5x (x : za7) : Int :=
  bif decide (32 < x.types.length) || decide (4096 < x.wagons.length) || decide (1024 < x.swaps.length) || decide (4096 < x.washes.length) then 2 else
  bif x.types.all zj6 && x.wagons.all (zdp x.types.length) && x.swaps.all (zkg x.types.length) && z9k x.washes then 0 else 1
theorem zdd (p : Nat → Bool) (i : Nat) : (List.range (i + 1)).all p = ((List.range i).all p && p i) := by
  rw [List.range_succ, List.all_append]; simp
theorem zgm (φ : Nat) (x : za7) (hl : x.swaps.length ≤ 1024) (ht : x.types.length ≤ 32) :
    ∀ n s, x.swaps.length < n → z0r φ n x.swaps (x.swaps.length : Int) 0 x s = zq φ φ x.washes (x.washes.length : Int) 0 (bif x.swaps.all (zkg (x.types.length : Int)) then s else 1) (fun _ => default) := by
  have hp : W ((x.types.length : Int) - 1) = (x.types.length : Int) - 1 := W_id (by omega) (by omega)
  refine zhz (fun n i s => z0r φ n x.swaps (x.swaps.length : Int) i x s) (fun s => zq φ φ x.washes (x.washes.length : Int) 0 s (fun _ => default)) _ _ ?_ ?_
  · intro n i s hi
    have hW : W ((i : Int) + 1) = (i : Int) + 1 := W_id (by omega) (by omega)
    rw [z0r, if_pos (by simp; omega), z6 ⟨by omega, by omega⟩]
    simp only [z2f, Option.bind_some, zkg, z0h, hW, hp]
    cases bet (gt x.swaps i).wanted 0 ((x.types.length : Int) - 1) <;> cases bet (gt x.swaps i).given 0 ((x.types.length : Int) - 1) <;> cases ((gt x.swaps i).wanted != (gt x.swaps i).given) <;>
      cases bet (gt x.swaps i).cost 0 1000000000 <;> rfl
  · intro n s
    rw [z0r, if_neg (by simp)]
theorem zew (φ : Nat) (x : za7) (hl : x.wagons.length ≤ 4096) (ht : x.types.length ≤ 32) :
    ∀ n s, x.wagons.length < n → z07 φ n x.wagons (x.wagons.length : Int) 0 x s = z0r φ φ x.swaps (x.swaps.length : Int) 0 x (bif x.wagons.all (zdp (x.types.length : Int)) then s else 1) := by
  have hp : W ((x.types.length : Int) - 1) = (x.types.length : Int) - 1 := W_id (by omega) (by omega)
  refine zhz (fun n i s => z07 φ n x.wagons (x.wagons.length : Int) i x s) (fun s => z0r φ φ x.swaps (x.swaps.length : Int) 0 x s) _ _ ?_ ?_
  · intro n i s hi
    have hW : W ((i : Int) + 1) = (i : Int) + 1 := W_id (by omega) (by omega)
    rw [z07, if_pos (by simp; omega), z6 ⟨by omega, by omega⟩]
    simp only [z2f, Option.bind_some, zdp, z0h, hW, hp]
    cases bet (gt x.wagons i).type_ 0 ((x.types.length : Int) - 1) <;> cases bet (gt x.wagons i).owner 0 63 <;> cases bet (gt x.wagons i).home 0 511 <;>
      cases bet (gt x.wagons i).built 0 1073741824 <;> cases bet (gt x.wagons i).worth 0 1099511627776 <;> rfl
  · intro n s
    rw [z07, if_neg (by simp)]
theorem zho (φ : Nat) (k : List z29 → Int → Int → za7 → Int → Option (Int × Unit)) (ts : List z29) (len i : Int) (x : za7) (t : z29) (n : Nat) (s : Int) (hn : 4 < n) :
    z1n φ k n ts len i 4 0 x s t [t.load, t.tare, t.length, t.brake] = k ts len (W (i + 1)) x (bif zj6 t then s else 1) := by
  have h := zhz (fun n j s => z1n φ k n ts len i 4 j x s t [t.load, t.tare, t.length, t.brake]) (fun s => k ts len (W (i + 1)) x (bif (bet t.gauge 0 7 && bet t.life 1 1073741824 && bet t.floor 0 100) then s else 1))
    [t.load, t.tare, t.length, t.brake] (fun a => bet a 0 1000000) (fun n j s hi => by
      rw [z1n, if_pos (by simp at hi ⊢; omega), z6 ⟨by omega, by omega⟩]
      simp at hi
      have hW : W ((j : Int) + 1) = (j : Int) + 1 := W_id (by omega) (by omega)
      simp only [z2f, Option.bind_some, hW]
      cases bet (gt [t.load, t.tare, t.length, t.brake] (j : Int)) 0 1000000 <;> rfl) (fun n s => by
      rw [z1n, if_neg (by simp)]
      simp only [z2f, Option.bind_some, z0h]
      cases bet t.gauge 0 7 <;> cases bet t.life 1 1073741824 <;> cases bet t.floor 0 100 <;> rfl) n s hn
  rw [h]
  simp only [zj6, List.all_cons, List.all_nil]
  cases bet t.load 0 1000000 <;> cases bet t.tare 0 1000000 <;> cases bet t.length 0 1000000 <;> cases bet t.brake 0 1000000 <;>
      cases bet t.gauge 0 7 <;> cases bet t.life 1 1073741824 <;> cases bet t.floor 0 100 <;> rfl
theorem zfy (φ : Nat) (hφ : 4 < φ) (x : za7) (hl : x.types.length ≤ 32) :
    ∀ n s, x.types.length < n → z2n φ n x.types (x.types.length : Int) 0 x s = z07 φ φ x.wagons (x.wagons.length : Int) 0 x (bif x.types.all zj6 then s else 1) := by
  refine zhz (fun n i s => z2n φ n x.types (x.types.length : Int) i x s) (fun s => z07 φ φ x.wagons (x.wagons.length : Int) 0 x s) _ _ ?_ ?_
  · intro n i s hi
    rw [z2n, if_pos (by simp; omega), z6 ⟨by omega, by omega⟩]
    have hW : W ((i : Int) + 1) = (i : Int) + 1 := W_id (by omega) (by omega)
    refine (zho φ _ x.types (x.types.length : Int) (i : Int) x (gt x.types i) φ s hφ).trans ?_
    rw [hW]
  · intro n s
    rw [z2n, if_neg (by simp)]
theorem zfe (φ : Nat) (x : za7) (hl : x.washes.length ≤ 4096) (n : Nat) (s : Int) (hn : x.washes.length < n) :
    zq φ n x.washes (x.washes.length : Int) 0 s (fun _ => default) = some (bif z9k x.washes then s else 1, ()) := by
  refine z04 (fun n i (t : Int × (Nat → Bool)) => zq φ n x.washes (x.washes.length : Int) i t.1 t.2) x.washes.length
    (fun i t => t.1 = (bif (List.range i).all (z5s x.washes) then s else 1) ∧ ((List.range i).all (z5s x.washes) = true → ∀ j : Nat, t.2 j = (x.washes.take i).any fun v => keyW v == (j : Int)))
    (fun o => o = some (bif z9k x.washes then s else 1, ())) ?_ ?_ n (s, fun _ => false) ⟨by simp, by simp⟩ hn
  · intro n i t hi ⟨h1, h2⟩ hs
    have hW : W ((i : Int) + 1) = (i : Int) + 1 := W_id (by omega) (by omega)
    rw [zq, if_pos (by simp; omega), z6 ⟨by omega, by omega⟩]
    simp only [z2f, Option.bind_some, z0h, hW]
    have hok : zx5 (gt x.washes i) = (bet (gt x.washes i).from_ 0 63 && bet (gt x.washes i).to 0 63 && ((gt x.washes i).from_ != (gt x.washes i).to) && bet (gt x.washes i).minutes 0 100000) := rfl
    have hsucc := zdd (z5s x.washes) i
    cases hw : zx5 (gt x.washes i) with
    | false =>
      have hf : (List.range (i + 1)).all (z5s x.washes) = false := by rw [hsucc]; simp [z5s, hw]
      have h3 : zq φ n x.washes (x.washes.length : Int) ((i : Int) + 1) 1 t.2 = some (bif z9k x.washes then s else 1, ()) := hs (1, t.2) ⟨by rw [hf]; rfl, by rw [hf]; intro h; cases h⟩
      rw [hw] at hok
      rw [← h3]
      generalize bet (gt x.washes i).from_ 0 63 = a at *; generalize bet (gt x.washes i).to 0 63 = b at *; generalize ((gt x.washes i).from_ != (gt x.washes i).to) = c at *; generalize bet (gt x.washes i).minutes 0 100000 = d at *
      cases a <;> cases b <;> cases c <;> cases d <;> first | (exact absurd hok (by decide)) | rfl
    | true =>
      rw [hw] at hok
      have hb := hok.symm
      simp only [Bool.and_eq_true] at hb
      obtain ⟨⟨⟨b1, b2⟩, b3⟩, b4⟩ := hb
      have c1 := zum b1; have c2 := zum b2
      simp only [b1, b2, b3, b4, Bool.and_self, if_true, Option.bind_some, Bool.not_true, Bool.false_eq_true, if_false]
      rw [z6 ⟨by omega, by omega⟩, z6 ⟨by omega, by omega⟩]
      have hkey : ((gt x.washes i).from_.toNat * 64 + (gt x.washes i).to.toNat : Nat) = (keyW (gt x.washes i)).toNat := by unfold keyW; omega
      have hk0 : ((keyW (gt x.washes i)).toNat : Int) = keyW (gt x.washes i) := by unfold keyW; omega
      have key : ∀ e, (e = bif (List.range (i + 1)).all (z5s x.washes) then s else 1) →
          zq φ n x.washes (x.washes.length : Int) ((i : Int) + 1) e (upd t.2 (keyW (gt x.washes i)).toNat true) = some (bif z9k x.washes then s else 1, ()) := by
        intro e he
        refine hs (e, _) ⟨he, fun hall j => ?_⟩
        rw [hsucc, Bool.and_eq_true] at hall
        rw [zf7 _ _ _ hi, ← h2 hall.1 j]
        show (if j = (keyW (gt x.washes i)).toNat then true else t.2 j) = _
        by_cases hj : j = (keyW (gt x.washes i)).toNat
        · simp [hj, hk0]
        · have : (keyW (gt x.washes i) == (j : Int)) = false := by
            simp; intro h; exact hj (by omega)
          simp [hj, this]
      have e64 : ∀ (p : Prop) [Decidable p] (y : Option (Int × Unit)), p → ck p y = y := fun p _ y hp => z6 hp
      rw [hkey]
      simp only [e64 _ _ (show (0 : Int) ≤ (gt x.washes i).from_ ∧ (gt x.washes i).from_ < 64 by omega), e64 _ _ (show (0 : Int) ≤ (gt x.washes i).to ∧ (gt x.washes i).to < 64 by omega)]
      cases hall : (List.range i).all (z5s x.washes) with
      | true =>
        have hat : z5s x.washes i = !(t.2 (keyW (gt x.washes i)).toNat) := by
          rw [h2 hall]; simp only [z5s, hw, Bool.true_and, hk0]
        cases ht2 : t.2 (keyW (gt x.washes i)).toNat with
        | true =>
          simp only [Bool.not_true, Bool.not_false, if_true]
          refine key 1 ?_
          rw [hsucc, hat, ht2]; simp
        | false =>
          simp only [Bool.not_true, Bool.not_false, Bool.false_eq_true, if_false]
          refine key t.1 ?_
          rw [hsucc, hat, ht2, h1, hall]; simp
      | false =>
        have hf : (List.range (i + 1)).all (z5s x.washes) = false := by rw [hsucc, hall]; rfl
        have ht1 : t.1 = 1 := by rw [h1, hall]; rfl
        rw [ht1]
        split <;> exact key 1 (by rw [hf]; rfl)
  · intro n t ⟨h1, _⟩
    rw [zq, if_neg (by simp), h1]; rfl
theorem zjw (φ : Nat) (hφ : 5000 < φ) (x : za7) : zai φ x = some (z5x x, ()) := by
  have e : (((decide (32 < (x.types.length : Int)) || decide (4096 < (x.wagons.length : Int))) || decide (1024 < (x.swaps.length : Int))) || decide (4096 < (x.washes.length : Int))) =
      (decide (32 < x.types.length) || decide (4096 < x.wagons.length) || decide (1024 < x.swaps.length) || decide (4096 < x.washes.length)) := by
    congr 1
    · congr 1
      · congr 1 <;> (apply decide_eq_decide.2; omega)
      · apply decide_eq_decide.2; omega
    · apply decide_eq_decide.2; omega
  unfold zai z5x
  rw [e]
  cases h : (decide (32 < x.types.length) || decide (4096 < x.wagons.length) || decide (1024 < x.swaps.length) || decide (4096 < x.washes.length)) with
  | true => rfl
  | false =>
    simp only [Bool.or_eq_false_iff, decide_eq_false_iff_not, Nat.not_lt] at h
    obtain ⟨⟨⟨h1, h2⟩, h3⟩, h4⟩ := h
    rw [if_neg (by simp), zfy φ (by omega) x h1 _ _ (by omega), zew _ _ h2 h1 _ _ (by omega), zgm _ _ h3 h1 _ _ (by omega), zfe _ _ h4 _ _ (by omega)]
    cases x.types.all zj6 <;> cases x.wagons.all (zdp x.types.length) <;> cases x.swaps.all (zkg x.types.length) <;> cases z9k x.washes <;> rfl
theorem z8v {x : za7} (h : z5x x = 0) : x.types.length ≤ 32 ∧ x.wagons.length ≤ 4096 ∧ x.swaps.length ≤ 1024 ∧ x.washes.length ≤ 4096 ∧
    (∀ t ∈ x.types, zj6 t = true) ∧ (∀ t ∈ x.wagons, zdp x.types.length t = true) ∧ (∀ t ∈ x.swaps, zkg x.types.length t = true) ∧ z9k x.washes = true := by
  unfold z5x at h
  cases h1 : (decide (32 < x.types.length) || decide (4096 < x.wagons.length) || decide (1024 < x.swaps.length) || decide (4096 < x.washes.length)) with
  | true => rw [h1] at h; cases h
  | false =>
    rw [h1] at h
    simp only [Bool.or_eq_false_iff, decide_eq_false_iff_not, Nat.not_lt] at h1
    obtain ⟨⟨⟨a1, a2⟩, a3⟩, a4⟩ := h1
    cases h2 : (x.types.all zj6 && x.wagons.all (zdp x.types.length) && x.swaps.all (zkg x.types.length) && z9k x.washes) with
    | false => rw [h2] at h; cases h
    | true =>
      simp only [Bool.and_eq_true, List.all_eq_true] at h2
      exact ⟨a1, a2, a3, a4, h2.1.1.1, h2.1.1.2, h2.1.2, h2.2⟩
end Px
end
section
namespace Px
open Go
set_option linter.unusedVariables false
set_option linter.unusedSimpArgs false
theorem z6t {c : Int} (h : 0 ≤ c) (h' : c < 18446744073709551616) : (BitVec.ofInt 64 c).toNat = c.toNat := by
  rw [BitVec.toNat_ofInt]; omega
theorem y5b {n : Nat} (h : n < 18446744073709551616) : U (n : Int) = n := U_id (by omega) (by omega)
theorem y1i {a b : Nat} (h : a < 18446744073709551616) : a &&& b < 18446744073709551616 := Nat.lt_of_le_of_lt Nat.and_le_left h
theorem y0n {k : Nat} (h : k ≤ 63) : (2 ^ k : Nat) < 18446744073709551616 := Nat.lt_of_lt_of_le (Nat.pow_lt_pow_right (by decide) (by omega : k < 64)) (by decide)
theorem y8e {c k : Int} (h : 0 ≤ c) (hk : 0 ≤ k) (hk' : k ≤ 63) : c.fdiv (2 ^ (min (k : Int).toNat (IntKind.bits .u64))) = ((c.toNat / 2 ^ k.toNat : Nat) : Int) := by
  have e : min (k : Int).toNat (IntKind.bits .u64) = k.toNat := by simp [IntKind.bits]; omega
  rw [e]
  have e2 : ((2 : Int) ^ k.toNat) = ((2 ^ k.toNat : Nat) : Int) := by simp
  rw [e2, Int.fdiv_eq_ediv_of_nonneg _ (Int.natCast_nonneg _)]
  have : c = (c.toNat : Int) := by omega
  rw [this]; simp
end Px
end
section
namespace Px
open Go
set_option linter.unusedVariables false
set_option linter.unusedSimpArgs false
set_option maxRecDepth 100000
theorem zt5 : ((List.range 256).all fun i => decide (0 ≤ z8e zu i ∧ z8e zu i ≤ 8 ∧ i < 2 ^ (z8e zu i).toNat ∧ (0 < i → 0 < z8e zu i ∧ 2 ^ ((z8e zu i).toNat - 1) ≤ i))) = true := by decide +kernel
theorem ziy {i : Int} (h : 0 ≤ i) (h' : i < 256) : ∃ n : Nat, z8e zu i = n ∧ n ≤ 8 ∧ i.toNat < 2 ^ n ∧ (0 < i → 0 < n ∧ 2 ^ (n - 1) ≤ i.toNat) := by
  have := List.all_eq_true.1 zt5 i.toNat (by simp; omega)
  rw [decide_eq_true_eq, show ((i.toNat : Nat) : Int) = i by omega] at this
  obtain ⟨a, b, c, d⟩ := this
  exact ⟨(z8e zu i).toNat, by omega, by omega, c, fun hi => ⟨by have := (d (by omega)).1; omega, (d (by omega)).2⟩⟩
/-- How many bits. -/
def z6c (v : Nat) (n : Nat) : Prop := v < 2 ^ n ∧ (0 < v → 0 < n ∧ 2 ^ (n - 1) ≤ v)
theorem z6c.up {v : Nat} (k : Nat) {n : Nat} (h : z6c (v / 2 ^ k) n) (hv : 2 ^ k ≤ v) : z6c v (n + k) := by
  have hp := Nat.two_pow_pos k
  have hpos : 0 < v / 2 ^ k := Nat.div_pos hv hp
  obtain ⟨h1, h2⟩ := h
  obtain ⟨h3, h4⟩ := h2 hpos
  refine ⟨?_, fun _ => ⟨by omega, ?_⟩⟩
  · rw [Nat.pow_add]; exact (Nat.div_lt_iff_lt_mul hp).1 h1
  · have : n + k - 1 = (n - 1) + k := by omega
    rw [this, Nat.pow_add]; exact (Nat.le_div_iff_mul_le hp).1 h4
theorem zxo (φ : Nat) (v w : Int) (h : 0 ≤ v) (h' : v < 256) (hw : 0 ≤ w) (hw' : w ≤ 64) : ∃ n : Nat, z14 φ v w = some (64 - (w + n), ()) ∧ n ≤ 8 ∧ z6c v.toNat n := by
  obtain ⟨n, e, hn, a, b⟩ := ziy h h'
  have e8 : IntKind.wrap .u8 v = v := by simp [IntKind.wrap, IntKind.bits, IntKind.signed]; omega
  refine ⟨n, ?_, hn, a, fun hv => b (by omega)⟩
  unfold z14
  rw [e8, z6 ⟨h, h'⟩, e, W_id (x := (n : Int)) (by omega) (by omega), W_id (x := w + n) (by omega) (by omega), W_id (by omega) (by omega)]
theorem sh8 (v : Int) : v.fdiv (2 ^ (min (8 : Int).toNat 64)) = v / 256 := by rw [show ((2 : Int) ^ (min (8 : Int).toNat 64)) = 256 by decide]; exact Int.fdiv_eq_ediv_of_nonneg _ (by omega)
theorem sh16 (v : Int) : v.fdiv (2 ^ (min (16 : Int).toNat 64)) = v / 65536 := by rw [show ((2 : Int) ^ (min (16 : Int).toNat 64)) = 65536 by decide]; exact Int.fdiv_eq_ediv_of_nonneg _ (by omega)
theorem sh32 (v : Int) : v.fdiv (2 ^ (min (32 : Int).toNat 64)) = v / 4294967296 := by rw [show ((2 : Int) ^ (min (32 : Int).toNat 64)) = 4294967296 by decide]; exact Int.fdiv_eq_ediv_of_nonneg _ (by omega)
theorem y2h (φ : Nat) (v w : Int) (h : 0 ≤ v) (h' : v < 65536) (hw : 0 ≤ w) (hw' : w ≤ 48) : ∃ n : Nat, z1b φ v w = some (64 - (w + n), ()) ∧ n ≤ 16 ∧ z6c v.toNat n := by
  unfold z1b
  by_cases c : 256 ≤ v
  · rw [if_pos (by simpa using c), if_pos (by decide), sh8, W_id (by omega) (by omega)]
    obtain ⟨n, e, hn, hl⟩ := zxo φ (v / 256) (w + 8) (by omega) (by omega) (by omega) (by omega)
    refine ⟨n + 8, by rw [e]; congr 2; omega, by omega, ?_⟩
    refine z6c.up 8 ?_ (by omega)
    rwa [show v.toNat / 2 ^ 8 = (v / 256).toNat by omega]
  · rw [if_neg (by simpa using c)]
    obtain ⟨n, e, hn, hl⟩ := zxo φ v w h (by omega) (by omega) (by omega)
    exact ⟨n, e, by omega, hl⟩
theorem y2f (φ : Nat) (v w : Int) (h : 0 ≤ v) (h' : v < 4294967296) (hw : 0 ≤ w) (hw' : w ≤ 32) : ∃ n : Nat, z1a φ v w = some (64 - (w + n), ()) ∧ n ≤ 32 ∧ z6c v.toNat n := by
  unfold z1a
  by_cases c : 65536 ≤ v
  · rw [if_pos (by simpa using c), if_pos (by decide), sh16, W_id (by omega) (by omega)]
    obtain ⟨n, e, hn, hl⟩ := y2h φ (v / 65536) (w + 16) (by omega) (by omega) (by omega) (by omega)
    refine ⟨n + 16, by rw [e]; congr 2; omega, by omega, ?_⟩
    refine z6c.up 16 ?_ (by omega)
    rwa [show v.toNat / 2 ^ 16 = (v / 65536).toNat by omega]
  · rw [if_neg (by simpa using c)]
    obtain ⟨n, e, hn, hl⟩ := y2h φ v w h (by omega) (by omega) (by omega)
    exact ⟨n, e, by omega, hl⟩
theorem y9n (φ : Nat) (v : Int) (h : 0 ≤ v) (h' : v < 18446744073709551616) : ∃ n : Nat, z2a φ v = some (64 - (n : Int), ()) ∧ n ≤ 64 ∧ z6c v.toNat n := by
  unfold z2a
  by_cases c : 4294967296 ≤ v
  · rw [if_pos (by simpa using c), if_pos (by decide), sh32]
    obtain ⟨n, e, hn, hl⟩ := y2f φ (v / 4294967296) 32 (by omega) (by omega) (by omega) (by omega)
    refine ⟨n + 32, by rw [e]; congr 2; omega, by omega, ?_⟩
    refine z6c.up 32 ?_ (by omega)
    rwa [show v.toNat / 2 ^ 32 = (v / 4294967296).toNat by omega]
  · rw [if_neg (by simpa using c)]
    obtain ⟨n, e, hn, hl⟩ := y2f φ v 0 h (by omega) (by omega) (by omega)
    exact ⟨n, by rw [e]; simp, by omega, hl⟩
theorem zjc {v : Int} (h : 0 ≤ v) (h' : v < 18446744073709551616) : U ((BitVec.ofInt 64 v &&& BitVec.ofInt 64 4294967295).toNat) = v % 4294967296 := by
  show U ((BitVec.ofInt 64 v &&& BitVec.ofInt 64 4294967295).toNat : Int) = _
  rw [BitVec.toNat_and, z6t h h', z6t (by omega) (by omega), y5b (y1i (by omega))]
  have : (4294967295 : Int).toNat = 2 ^ 32 - 1 := by decide
  rw [this, Nat.and_two_pow_sub_one_eq_mod]
  omega
theorem ziw {a b m n : Int} (ha : 0 ≤ a) (hb : 0 ≤ b) (h : a ≤ m) (h' : b ≤ n) : 0 ≤ a * b ∧ a * b ≤ m * n :=
  ⟨Int.mul_nonneg ha hb, Int.mul_le_mul h h' hb (by omega)⟩
theorem zrp (φ : Nat) (x y : Int) (hx : 0 ≤ x) (hx' : x < 18446744073709551616) (hy : 0 ≤ y) (hy' : y < 18446744073709551616) :
    z58 φ x y = some (x * y / 18446744073709551616, x * y % 18446744073709551616, ()) := by
  unfold z58
  simp only [show (0 : Int) ≤ 32 by decide, if_true]
  rw [zjc hx hx', zjc hy hy']
  simp only [sh32]
  have ex : x = x / 4294967296 * 4294967296 + x % 4294967296 := by omega
  have ey : y = y / 4294967296 * 4294967296 + y % 4294967296 := by omega
  have a1 : 0 ≤ x / 4294967296 ∧ x / 4294967296 ≤ 4294967295 := by omega
  have a0 : 0 ≤ x % 4294967296 ∧ x % 4294967296 ≤ 4294967295 := by omega
  have b1 : 0 ≤ y / 4294967296 ∧ y / 4294967296 ≤ 4294967295 := by omega
  have b0 : 0 ≤ y % 4294967296 ∧ y % 4294967296 ≤ 4294967295 := by omega
  have hxy : x * y = (x / 4294967296) * (y / 4294967296) * 18446744073709551616 + ((x / 4294967296) * (y % 4294967296) + (x % 4294967296) * (y / 4294967296)) * 4294967296 + (x % 4294967296) * (y % 4294967296) := by
    conv => lhs; rw [ex, ey]
    generalize x / 4294967296 = a; generalize x % 4294967296 = b; generalize y / 4294967296 = c; generalize y % 4294967296 = d
    rw [Int.add_mul, Int.mul_add, Int.mul_add, Int.add_mul]
    have e1 : a * 4294967296 * (c * 4294967296) = a * c * 18446744073709551616 := by
      rw [Int.mul_assoc, Int.mul_left_comm 4294967296 c, ← Int.mul_assoc]; rfl
    have e2 : a * 4294967296 * d = a * d * 4294967296 := by rw [Int.mul_right_comm]
    have e3 : b * (c * 4294967296) = b * c * 4294967296 := by rw [Int.mul_assoc]
    rw [e1, e2, e3]; omega
  have p11 := ziw a1.1 b1.1 a1.2 b1.2
  have p10 := ziw a1.1 b0.1 a1.2 b0.2
  have p01 := ziw a0.1 b1.1 a0.2 b1.2
  have p00 := ziw a0.1 b0.1 a0.2 b0.2
  rw [zxf (x * y), hxy]
  generalize (x / 4294967296) * (y / 4294967296) = p at *; generalize (x / 4294967296) * (y % 4294967296) = q at *
  generalize (x % 4294967296) * (y / 4294967296) = r at *; generalize (x % 4294967296) * (y % 4294967296) = s at *
  clear hxy ex ey a1 a0 b1 b0
  rw [U_id (x := p) (by omega) (by omega), U_id (x := q) (by omega) (by omega), U_id (x := r) (by omega) (by omega), U_id (x := s) (by omega) (by omega)]
  rw [U_id (x := q + s / 4294967296) (by omega) (by omega), zjc (by omega) (by omega),
    U_id (x := (q + s / 4294967296) % 4294967296 + r) (by omega) (by omega), U_id (x := p + (q + s / 4294967296) / 4294967296) (by omega) (by omega), U_id (by omega) (by omega)]
  refine congrArg some (Prod.ext ?_ rfl)
  show _ = _
  omega
/-- One y6d of the quotient: what the two loops find. -/
theorem y6d {yn1 yn0 u d q r : Int} (h1 : 2147483648 ≤ yn1) (h1' : yn1 < 4294967296) (h0 : 0 ≤ yn0) (h0' : yn0 < 4294967296) (hd : 0 ≤ d) (hd' : d < 4294967296) (hu : 0 ≤ u)
    (hu' : u < yn1 * 4294967296 + yn0) (hqr : q * yn1 + r = u) (hr : 0 ≤ r) (hr' : r < 4294967296) (hq : (u * 4294967296 + d) / (yn1 * 4294967296 + yn0) ≤ q) :
    0 ≤ q ∧ q ≤ 4294967297 ∧ 0 ≤ (u * 4294967296 + d) / (yn1 * 4294967296 + yn0) ∧ (u * 4294967296 + d) / (yn1 * 4294967296 + yn0) < 4294967296 ∧
    (4294967296 ≤ q ∨ 4294967296 * r + d < q * yn0 → (u * 4294967296 + d) / (yn1 * 4294967296 + yn0) ≤ q - 1) ∧
    (¬ (4294967296 ≤ q ∨ 4294967296 * r + d < q * yn0) → q = (u * 4294967296 + d) / (yn1 * 4294967296 + yn0)) ∧
    (4294967296 ≤ q ∨ 4294967296 * r + d < q * yn0 → 4294967296 ≤ r + yn1 → q - 1 = (u * 4294967296 + d) / (yn1 * 4294967296 + yn0)) := by
  have hY : 0 < yn1 * 4294967296 + yn0 := by omega
  have hQ0 : 0 ≤ (u * 4294967296 + d) / (yn1 * 4294967296 + yn0) := Int.ediv_nonneg (by omega) (by omega)
  have hQ1 : (u * 4294967296 + d) / (yn1 * 4294967296 + yn0) < 4294967296 := Int.ediv_lt_of_lt_mul hY (by omega)
  have hq0 : 0 ≤ q := by omega
  have key : q * (yn1 * 4294967296 + yn0) = (u - r) * 4294967296 + q * yn0 := by
    rw [Int.mul_add, ← Int.mul_assoc, ← hqr]; omega
  have hq2 : q ≤ 4294967297 := by
    rcases Int.lt_or_le 4294967297 q with h | h
    · have : 4294967298 * yn1 ≤ q * yn1 := Int.mul_le_mul_of_nonneg_right (by omega) (by omega)
      omega
    · exact h
  have lt_of : ∀ {z : Int}, (u * 4294967296 + d) / (yn1 * 4294967296 + yn0) < z ↔ u * 4294967296 + d < z * (yn1 * 4294967296 + yn0) := fun {z} => Int.ediv_lt_iff_lt_mul hY
  refine ⟨hq0, hq2, hQ0, hQ1, fun h => ?_, fun h => ?_, fun h hr2 => ?_⟩
  · have : (u * 4294967296 + d) / (yn1 * 4294967296 + yn0) < q := by
      rcases h with h | h
      · omega
      · rw [lt_of, key]; omega
    omega
  · have : ¬ (u * 4294967296 + d) / (yn1 * 4294967296 + yn0) < q := by rw [lt_of, key]; omega
    omega
  · have hq1 : (u * 4294967296 + d) / (yn1 * 4294967296 + yn0) < q := by
      rcases h with h | h
      · omega
      · rw [lt_of, key]; omega
    have h2 : ¬ (u * 4294967296 + d) / (yn1 * 4294967296 + yn0) < q - 1 := by
      rw [lt_of]
      have e : (q - 1) * (yn1 * 4294967296 + yn0) = (u - (r + yn1)) * 4294967296 + (q - 1) * yn0 := by
        have : (q - 1) * yn1 + (r + yn1) = u := by rw [Int.sub_mul]; omega
        rw [Int.mul_add, ← Int.mul_assoc, ← this]; omega
      have b := (ziw (by omega : 0 ≤ q - 1) h0 (by omega : q - 1 ≤ 4294967296) (by omega : yn0 ≤ 4294967295)).2
      rw [e]; omega
    omega
theorem mulB {a b : Int} (h : 0 ≤ a) (h' : a < 4294967296) (g : 0 ≤ b) (g' : b < 4294967296) : 0 ≤ a * b ∧ a * b ≤ 18446744065119617025 :=
  ziw h g (by omega : a ≤ 4294967295) (by omega : b ≤ 4294967295)
theorem zki {ρ : Type} (L : Nat → Int → Int → Option ρ) (k : Int → Option ρ) {yn1 yn0 u d : Int} (h1 : 2147483648 ≤ yn1) (h1' : yn1 < 4294967296) (h0 : 0 ≤ yn0) (h0' : yn0 < 4294967296) (hd : 0 ≤ d) (hd' : d < 4294967296) (hu : 0 ≤ u)
    (hu' : u < yn1 * 4294967296 + yn0)
    (step : ∀ n q r, L (n + 1) q r = if (decide (4294967296 ≤ q) || decide (U (U (4294967296 * r) + d) < U (q * yn0))) = true then (if decide (4294967296 ≤ U (r + yn1)) = true then k (U (q - 1)) else L n (U (q - 1)) (U (r + yn1))) else k q) :
    ∀ (n : Nat) q r, q * yn1 + r = u → 0 ≤ r → r < 4294967296 → (u * 4294967296 + d) / (yn1 * 4294967296 + yn0) ≤ q → 4294967296 - r ≤ 2147483648 * n → L (n + 1) q r = k ((u * 4294967296 + d) / (yn1 * 4294967296 + yn0)) := by
  intro n
  induction n with
  | zero => intro q r _ _ _ _ h; omega
  | succ n ih =>
    intro q r hqr hr hr' hq hn
    obtain ⟨g0, g1, g2, g3, g4, g5, g6⟩ := y6d h1 h1' h0 h0' hd hd' hu hu' hqr hr hr' hq
    have hc : (decide (4294967296 ≤ q) || decide (U (U (4294967296 * r) + d) < U (q * yn0))) = true ↔ (4294967296 ≤ q ∨ 4294967296 * r + d < q * yn0) := by
      rw [Bool.or_eq_true, decide_eq_true_eq, decide_eq_true_eq]
      by_cases hqB : 4294967296 ≤ q
      · simp [hqB]
      · have := mulB g0 (by omega : q < 4294967296) h0 h0'
        rw [U_id (x := 4294967296 * r) (by omega) (by omega), U_id (by omega) (by omega), U_id (by omega) (by omega)]
    rw [step]
    by_cases c : 4294967296 ≤ q ∨ 4294967296 * r + d < q * yn0
    · have a4 := g4 c
      rw [if_pos (hc.2 c), U_id (x := r + yn1) (by omega) (by omega), U_id (x := q - 1) (by omega) (by omega)]
      by_cases e : 4294967296 ≤ r + yn1
      · rw [if_pos (by simpa using e), g6 c e]
      · rw [if_neg (by simpa using e)]
        exact ih _ _ (by rw [Int.sub_mul]; omega) (by omega) (by omega) a4 (by omega)
    · rw [if_neg (fun h => c (hc.1 h)), ← g5 c]
/-- The first guess. -/
theorem zi5 {yn1 yn0 u d : Int} (h1 : 2147483648 ≤ yn1) (h1' : yn1 < 4294967296) (h0 : 0 ≤ yn0) (h0' : yn0 < 4294967296) (hd : 0 ≤ d) (hd' : d < 4294967296) (hu : 0 ≤ u)
    (hu' : u < yn1 * 4294967296 + yn0) : U (u.tdiv yn1) = u / yn1 ∧ U (u - U (U (u.tdiv yn1) * yn1)) = u % yn1 ∧ u / yn1 * yn1 + u % yn1 = u ∧ 0 ≤ u % yn1 ∧ u % yn1 < 4294967296 ∧
    (u * 4294967296 + d) / (yn1 * 4294967296 + yn0) ≤ u / yn1 := by
  have e1 : u.tdiv yn1 = u / yn1 := Int.tdiv_eq_ediv_of_nonneg hu
  have hdm : u / yn1 * yn1 + u % yn1 = u := by have := Int.ediv_mul_add_emod u yn1; exact this
  have hm0 := Int.emod_nonneg u (by omega : yn1 ≠ 0)
  have hm1 := Int.emod_lt_of_pos u (by omega : 0 < yn1)
  have hq0 : 0 ≤ u / yn1 := Int.ediv_nonneg hu (by omega)
  have hq1 : u / yn1 ≤ u := Int.ediv_le_self _ hu
  have hqm : 0 ≤ u / yn1 * yn1 := Int.mul_nonneg hq0 (by omega)
  rw [e1, U_id hq0 (by omega), U_id (x := u / yn1 * yn1) (by omega) (by omega), U_id (by omega) (by omega)]
  refine ⟨rfl, by omega, hdm, hm0, by omega, ?_⟩
  have hY : 0 < yn1 * 4294967296 + yn0 := by omega
  have hQ0 : 0 ≤ (u * 4294967296 + d) / (yn1 * 4294967296 + yn0) := Int.ediv_nonneg (by omega) (by omega)
  have hQ := Int.ediv_mul_le (u * 4294967296 + d) (b := yn1 * 4294967296 + yn0) (by omega)
  generalize (u * 4294967296 + d) / (yn1 * 4294967296 + yn0) = z at *
  rw [Int.mul_add, ← Int.mul_assoc] at hQ
  have := Int.mul_nonneg hQ0 h0
  exact (Int.le_ediv_iff_mul_le (by omega)).2 (by omega)
theorem y1y (a b c : Int) : U (U (U a + b) - U c) = U (a + b - c) := by
  simp only [zxf]; omega
theorem y6y {a b : Int} {s : Nat} (hs : s ≤ 63) (ha : 0 ≤ a) (h : a * 2 ^ s < 18446744073709551616) (hb : 0 ≤ b) (hb' : b < 2 ^ s) :
    U ((BitVec.ofInt 64 (U (a * 2 ^ s)) ||| BitVec.ofInt 64 b).toNat) = a * 2 ^ s + b := by
  have hp : (0 : Int) < 2 ^ s := Int.pow_pos (by decide)
  have hn := Int.mul_nonneg ha (Int.le_of_lt hp)
  have hp2 : (2 : Int) ^ s = ((2 ^ s : Nat) : Int) := by simp
  have hlt : (2 ^ s : Nat) < 18446744073709551616 := y0n hs
  rw [U_id hn (by omega)]
  show U ((BitVec.ofInt 64 (a * 2 ^ s) ||| BitVec.ofInt 64 b).toNat : Int) = _
  have hlt2 := (BitVec.ofInt 64 (a * 2 ^ s) ||| BitVec.ofInt 64 b).isLt
  rw [y5b (by omega), BitVec.toNat_or, z6t hn h, z6t hb (by omega)]
  obtain ⟨n, rfl⟩ := Int.eq_ofNat_of_zero_le ha
  obtain ⟨m, rfl⟩ := Int.eq_ofNat_of_zero_le hb
  have e : ((n : Int) * 2 ^ s).toNat = 2 ^ s * n := by rw [hp2, ← Int.natCast_mul, Int.toNat_natCast, Nat.mul_comm]
  rw [e, Int.toNat_natCast, ← Nat.two_pow_add_eq_or_of_lt (by rw [hp2] at hb'; omega)]
  simp [Int.mul_comm]
theorem zg8 (φ : Nat) (v : Int) (h : 0 < v) (h' : v < 18446744073709551616) : ∃ s : Nat, z2a φ v = some ((s : Int), ()) ∧ s ≤ 63 ∧
    9223372036854775808 ≤ v * 2 ^ s ∧ v * 2 ^ s < 18446744073709551616 ∧ v ≤ 2 ^ (64 - s) := by
  obtain ⟨n, e, hn, h1, h2⟩ := y9n φ v (by omega) h'
  obtain ⟨h3, h4⟩ := h2 (by omega)
  refine ⟨64 - n, ?_, by omega, ?_, ?_, ?_⟩
  · rw [e]; congr 2; omega
  · have : 2 ^ (n - 1) * 2 ^ (64 - n) ≤ v.toNat * 2 ^ (64 - n) := Nat.mul_le_mul_right _ h4
    rw [← Nat.pow_add, show n - 1 + (64 - n) = 63 by omega] at this
    have e2 : ((v.toNat * 2 ^ (64 - n) : Nat) : Int) = v * 2 ^ (64 - n) := by
      rw [Int.natCast_mul, Int.natCast_pow]; congr 1; omega
    omega
  · have : v.toNat * 2 ^ (64 - n) < 2 ^ n * 2 ^ (64 - n) := Nat.mul_lt_mul_of_pos_right h1 (Nat.two_pow_pos _)
    rw [← Nat.pow_add, show n + (64 - n) = 64 by omega] at this
    have e2 : ((v.toNat * 2 ^ (64 - n) : Nat) : Int) = v * 2 ^ (64 - n) := by
      rw [Int.natCast_mul, Int.natCast_pow]; congr 1; omega
    omega
  · rw [show 64 - (64 - n) = n by omega]
    have e2 : ((2 ^ n : Nat) : Int) = (2 : Int) ^ n := by simp
    omega
theorem zyr (φ : Nat) (hφ : 5 < φ) (hi lo y : Int) (h0 : 0 ≤ hi) (hy : hi < y) (hy' : y < 18446744073709551616) (hl : 0 ≤ lo) (hl' : lo < 18446744073709551616) :
    z52 φ hi lo y = some ((hi * 18446744073709551616 + lo) / y, (hi * 18446744073709551616 + lo) % y, ()) := by
  unfold z52
  rw [if_neg (by simp; omega), if_neg (by simp; omega)]
  by_cases hz : hi = 0
  · subst hz
    rw [if_pos (by simp), z6 (by omega), z6 (by omega), Int.tdiv_eq_ediv_of_nonneg hl, Int.tmod_eq_emod_of_nonneg hl, U_id (Int.ediv_nonneg hl (by omega)) (by have := Int.ediv_le_self y hl; omega)]
    simp
  rw [if_neg (by simpa using hz)]
  obtain ⟨s, es, hs, hY1, hY2, hyP⟩ := zg8 φ y (by omega) hy'
  have em1 : min (s : Int).toNat 64 = s := by omega
  have em2 : min (64 - (s : Int)).toNat 64 = 64 - s := by omega
  have hp : (0 : Int) < 2 ^ s := Int.pow_pos (by decide)
  have hP : (0 : Int) < 2 ^ (64 - s) := Int.pow_pos (by decide)
  have hpP : (2 : Int) ^ s * 2 ^ (64 - s) = 18446744073709551616 := by rw [← Int.pow_add, show s + (64 - s) = 64 by omega]; rfl
  have hhp : hi * 2 ^ s < y * 2 ^ s := Int.mul_lt_mul_of_pos_right hy hp
  have hlP0 : 0 ≤ lo / 2 ^ (64 - s) := Int.ediv_nonneg hl (by omega)
  have hlP1 : lo / 2 ^ (64 - s) < 2 ^ s := Int.ediv_lt_of_lt_mul hP (by omega)
  have hh0 : 0 ≤ hi * 2 ^ s := Int.mul_nonneg h0 (by omega)
  -- the low word
  have hlo10 : U (lo * 2 ^ s) = lo % 2 ^ (64 - s) * 2 ^ s := by
    have e : lo = lo / 2 ^ (64 - s) * 2 ^ (64 - s) + lo % 2 ^ (64 - s) := (Int.ediv_mul_add_emod lo _).symm
    have e2 : lo * 2 ^ s = lo / 2 ^ (64 - s) * 18446744073709551616 + lo % 2 ^ (64 - s) * 2 ^ s := by
      conv => lhs; rw [e]
      rw [Int.add_mul, Int.mul_assoc, Int.mul_comm (2 ^ (64 - s)), hpP]
    have m0 := Int.emod_nonneg lo (by omega : (2 : Int) ^ (64 - s) ≠ 0)
    have m1 := Int.emod_lt_of_pos lo hP
    have m2 : lo % 2 ^ (64 - s) * 2 ^ s < 2 ^ (64 - s) * 2 ^ s := Int.mul_lt_mul_of_pos_right m1 hp
    have m3 := Int.mul_nonneg m0 (Int.le_of_lt hp)
    rw [Int.mul_comm (2 ^ (64 - s))] at m2
    rw [e2, zxf]; omega
  have hN : (hi * 2 ^ s + lo / 2 ^ (64 - s)) * 18446744073709551616 + lo % 2 ^ (64 - s) * 2 ^ s = (hi * 18446744073709551616 + lo) * 2 ^ s := by
    have e : lo = lo / 2 ^ (64 - s) * 2 ^ (64 - s) + lo % 2 ^ (64 - s) := (Int.ediv_mul_add_emod lo _).symm
    have e2 : lo * 2 ^ s = lo / 2 ^ (64 - s) * 18446744073709551616 + lo % 2 ^ (64 - s) * 2 ^ s := by
      conv => lhs; rw [e]
      rw [Int.add_mul, Int.mul_assoc, Int.mul_comm (2 ^ (64 - s)), hpP]
    have e3 : (hi * 18446744073709551616 + lo) * 2 ^ s = hi * 2 ^ s * 18446744073709551616 + lo * 2 ^ s := by rw [Int.add_mul, Int.mul_right_comm]
    rw [e3, e2]; omega
  have hun0 : 0 ≤ lo % 2 ^ (64 - s) * 2 ^ s := Int.mul_nonneg (Int.emod_nonneg lo (by omega)) (by omega)
  have hun1 : lo % 2 ^ (64 - s) * 2 ^ s < 18446744073709551616 := by
    rw [← hlo10, zxf]; omega
  have hu' : hi * 2 ^ s + lo / 2 ^ (64 - s) < y * 2 ^ s := by
    have : (hi + 1) * 2 ^ s ≤ y * 2 ^ s := Int.mul_le_mul_of_nonneg_right (by omega) (by omega)
    rw [Int.add_mul] at this; omega
  have hs1 : U (s : Int) = s := U_id (by omega) (by omega)
  have hs2 : U (64 - (s : Int)) = 64 - (s : Int) := U_id (by omega) (by omega)
  have ef : lo.fdiv (2 ^ (64 - s)) = lo / 2 ^ (64 - s) := Int.fdiv_eq_ediv_of_nonneg _ (by omega)
  have eor := y6y hs h0 (by omega : hi * 2 ^ s < 18446744073709551616) hlP0 hlP1
  obtain ⟨Y, hYd⟩ : ∃ Y, Y = y * 2 ^ s := ⟨_, rfl⟩
  have eY : U (y * 2 ^ s) = Y := by rw [hYd]; exact U_id (by omega) (by omega)
  obtain ⟨u, hud⟩ : ∃ u, u = hi * 2 ^ s + lo / 2 ^ (64 - s) := ⟨_, rfl⟩
  obtain ⟨w, hwd⟩ : ∃ w, w = lo % 2 ^ (64 - s) * 2 ^ s := ⟨_, rfl⟩
  rw [← hwd] at hlo10 hN hun0 hun1
  rw [← hud] at hN hu' eor
  rw [← hYd] at hu' hY1 hY2 hhp
  have hu0 : 0 ≤ u := by omega
  have fY : Y.fdiv 4294967296 = Y / 4294967296 := Int.fdiv_eq_ediv_of_nonneg _ (by omega)
  have fw : w.fdiv 4294967296 = w / 4294967296 := Int.fdiv_eq_ediv_of_nonneg _ (by omega)
  have mY := zjc (v := Y) (by omega) (by omega)
  have mw := zjc (v := w) (by omega) (by omega)
  have b1 : 2147483648 ≤ Y / 4294967296 ∧ Y / 4294967296 < 4294967296 ∧ 0 ≤ Y % 4294967296 ∧ Y % 4294967296 < 4294967296 := by omega
  have b2 : 0 ≤ w / 4294967296 ∧ w / 4294967296 < 4294967296 ∧ 0 ≤ w % 4294967296 ∧ w % 4294967296 < 4294967296 := by omega
  have eYs : Y / 4294967296 * 4294967296 + Y % 4294967296 = Y := by omega
  obtain ⟨m, rfl⟩ : ∃ m, φ = m + 3 := ⟨φ - 3, by omega⟩
  rw [es]
  simp only [Option.bind_some, hs1, hs2, em1, em2, sh32, eY, hlo10, mY, mw, ef, eor, show (0 : Int) ≤ 32 by decide, if_true]
  rw [z6 (by omega), z6 (by omega), z6 (by omega), z6 (by omega), z6 (by omega)]
  obtain ⟨i1, i2, i3, i4, i5, i6⟩ := zi5 (u := u) (d := w / 4294967296) b1.1 b1.2.1 b1.2.2.1 b1.2.2.2 b2.1 b2.2.1 hu0 (by omega)
  rw [i1] at i2 ⊢
  rw [i2]
  refine (zki (fun n q r => z4m (m + 3) n Y s (Y / 4294967296) (Y % 4294967296) u (w / 4294967296) (w % 4294967296) q r) (fun q => z4o (m + 3) Y s (Y / 4294967296) (Y % 4294967296) u (w / 4294967296) (w % 4294967296) q)
    b1.1 b1.2.1 b1.2.2.1 b1.2.2.2 b2.1 b2.2.1 hu0 (by omega) (fun n q r => by rw [z4m]) (m + 2) _ _ i3 i4 i5 i6 (by omega)).trans ?_
  rw [eYs]
  unfold z4o
  rw [z6 (by omega)]
  have hQ1 : 0 ≤ (u * 4294967296 + w / 4294967296) / Y ∧ (u * 4294967296 + w / 4294967296) / Y < 4294967296 := ⟨Int.ediv_nonneg (by omega) (by omega), Int.ediv_lt_of_lt_mul (by omega) (by omega)⟩
  have hR1 := Int.ediv_mul_add_emod (u * 4294967296 + w / 4294967296) Y
  have hR1a := Int.emod_nonneg (u * 4294967296 + w / 4294967296) (by omega : Y ≠ 0)
  have hR1b := Int.emod_lt_of_pos (u * 4294967296 + w / 4294967296) (by omega : 0 < Y)
  generalize (u * 4294967296 + w / 4294967296) / Y = q1 at *
  generalize (u * 4294967296 + w / 4294967296) % Y = r1 at *
  have eu21 : U (U (U (u * 4294967296) + w / 4294967296) - U (q1 * Y)) = r1 := by
    rw [y1y, show u * 4294967296 + w / 4294967296 - q1 * Y = r1 by omega]; exact U_id hR1a (by omega)
  rw [eu21]
  obtain ⟨j1, j2, j3, j4, j5, j6⟩ := zi5 (u := r1) (d := w % 4294967296) b1.1 b1.2.1 b1.2.2.1 b1.2.2.2 b2.2.2.1 b2.2.2.2 hR1a (by omega)
  rw [j1] at j2 ⊢
  rw [j2]
  refine (zki (fun n q r => z4f (m + 3) n Y s (Y / 4294967296) (Y % 4294967296) (w % 4294967296) q1 r r1 q) (fun q => z4k (m + 3) Y s (w % 4294967296) q1 r1 q)
    b1.1 b1.2.1 b1.2.2.1 b1.2.2.2 b2.2.2.1 b2.2.2.2 hR1a (by omega) (fun n q r => by rw [z4f]) (m + 2) _ _ j3 j4 j5 j6 (by omega)).trans ?_
  rw [eYs]
  unfold z4k
  rw [em1, z6 (by omega)]
  have hQ0 : 0 ≤ (r1 * 4294967296 + w % 4294967296) / Y ∧ (r1 * 4294967296 + w % 4294967296) / Y < 4294967296 := ⟨Int.ediv_nonneg (by omega) (by omega), Int.ediv_lt_of_lt_mul (by omega) (by omega)⟩
  have hR0 := Int.ediv_mul_add_emod (r1 * 4294967296 + w % 4294967296) Y
  have hR0a := Int.emod_nonneg (r1 * 4294967296 + w % 4294967296) (by omega : Y ≠ 0)
  have hR0b := Int.emod_lt_of_pos (r1 * 4294967296 + w % 4294967296) (by omega : 0 < Y)
  generalize (r1 * 4294967296 + w % 4294967296) / Y = q0 at *
  generalize (r1 * 4294967296 + w % 4294967296) % Y = r0 at *
  rw [y1y, show r1 * 4294967296 + w % 4294967296 - q0 * Y = r0 by omega, U_id (x := r0) hR0a (by omega), U_id (x := q1 * 4294967296) (by omega) (by omega), U_id (by omega) (by omega), Int.fdiv_eq_ediv_of_nonneg _ (by omega)]
  have hall : (hi * 18446744073709551616 + lo - (q1 * 4294967296 + q0) * y) * 2 ^ s = r0 := by
    rw [Int.sub_mul, ← hN, Int.mul_assoc, ← hYd, Int.add_mul, Int.mul_right_comm]; omega
  have hz0 : 0 ≤ hi * 18446744073709551616 + lo - (q1 * 4294967296 + q0) * y := by
    rcases Int.lt_or_le (hi * 18446744073709551616 + lo - (q1 * 4294967296 + q0) * y) 0 with h | h
    · have := Int.mul_neg_of_neg_of_pos h hp; omega
    · exact h
  have hz1 : hi * 18446744073709551616 + lo - (q1 * 4294967296 + q0) * y < y := by
    refine Int.lt_of_mul_lt_mul_right (a := 2 ^ s) ?_ (by omega)
    rw [hall, ← hYd]; exact hR0b
  have hr0 : r0 / 2 ^ s = hi * 18446744073709551616 + lo - (q1 * 4294967296 + q0) * y := by
    rw [← hall]; exact Int.mul_ediv_cancel _ (by omega)
  have hdm : (hi * 18446744073709551616 + lo) / y = q1 * 4294967296 + q0 ∧ (hi * 18446744073709551616 + lo) % y = hi * 18446744073709551616 + lo - (q1 * 4294967296 + q0) * y :=
    (Int.ediv_emod_unique (by omega)).2 ⟨by rw [Int.mul_comm y]; omega, hz0, hz1⟩
  rw [hr0, hdm.1, hdm.2]
end Px
end
section
namespace Px
open Go
set_option linter.unusedVariables false
set_option linter.unusedSimpArgs false
set_option maxRecDepth 100000
def PP : Nat := 2305843009213690799
def QQ : Nat := 1152921504606845399
/-- A power modulo the prime. -/
def pw (b n : Nat) : Nat := b ^ n % PP
theorem zus (b n : Nat) : pw b n < PP := Nat.mod_lt _ (by decide)
theorem y4r (b : Nat) : pw b 0 = 1 := by simp [pw, PP]
theorem y1s (b m n : Nat) : pw b m * pw b n % PP = pw b (m + n) := by
  unfold pw; rw [Nat.pow_add, ← Nat.mul_mod]
theorem y6s (b : Nat) : pw b 1 = b % PP := by simp [pw]
theorem y6r {a : Nat} (h : a < PP) : ((a : Int)).tmod 2305843009213690799 = (a : Int) := by
  unfold PP at h
  rw [Int.tmod_eq_emod_of_nonneg (by omega)]; omega
theorem y6w (b : Nat) : ((b : Int)).tmod 2305843009213690799 = ((b % PP : Nat) : Int) := by
  rw [Int.tmod_eq_emod_of_nonneg (by omega)]; unfold PP; omega
theorem zwd {ρ : Type} {a b : Nat} (ha : a < PP) (hb : b < PP) (φ : Nat) (hφ : 5 < φ) (K : Int → Option ρ) : ((z58 φ (a : Int) (b : Int)).bind fun y => (z52 φ y.1 y.2.1 2305843009213690799).bind fun z => K z.2.1) = K ((a * b % PP : Nat) : Int) := by
  have ha' : (a : Int) < 2305843009213690799 := by unfold PP at ha; omega
  have hb' : (b : Int) < 2305843009213690799 := by unfold PP at hb; omega
  have hp := ziw (by omega : 0 ≤ (a : Int)) (by omega : 0 ≤ (b : Int)) (by omega : (a : Int) ≤ 2305843009213690798) (by omega : (b : Int) ≤ 2305843009213690798)
  rw [zrp φ _ _ (by omega) (by omega) (by omega) (by omega), Option.bind_some]
  generalize hz : (a : Int) * (b : Int) = z at *
  show (z52 φ (z / 18446744073709551616) (z % 18446744073709551616) 2305843009213690799).bind _ = _
  rw [zyr φ hφ _ _ _ (by omega) (by omega) (by omega) (by omega) (by omega), Option.bind_some]
  congr 1
  have : z / 18446744073709551616 * 18446744073709551616 + z % 18446744073709551616 = z := by omega
  show (z / 18446744073709551616 * 18446744073709551616 + z % 18446744073709551616) % 2305843009213690799 = _
  rw [this, ← hz, Int.natCast_emod, Int.natCast_mul]; rfl
theorem z6c.uniq {v m n : Nat} (hv : 0 < v) (h : z6c v m) (k : z6c v n) : m = n := by
  obtain ⟨h1, h2⟩ := h
  obtain ⟨k1, k2⟩ := k
  obtain ⟨h3, h4⟩ := h2 hv
  obtain ⟨k3, k4⟩ := k2 hv
  have a : m - 1 < n := (Nat.pow_lt_pow_iff_right (by decide : 1 < 2)).1 (Nat.lt_of_le_of_lt h4 k1)
  have b : n - 1 < m := (Nat.pow_lt_pow_iff_right (by decide : 1 < 2)).1 (Nat.lt_of_le_of_lt k4 h1)
  omega
section first
variable (φ : Nat) (b n a p : Int)
theorem zv3 (v w : Int) (h : 0 ≤ v) (h' : v < 256) (hw : 0 ≤ w) (hw' : w ≤ 64) : ∃ m : Nat, z7b φ v w b n a p = z0a φ φ b n a (w + m) 0 p ∧ m ≤ 8 ∧ z6c v.toNat m := by
  obtain ⟨m, e, hm, x, y⟩ := ziy h h'
  have e8 : IntKind.wrap .u8 v = v := by simp [IntKind.wrap, IntKind.bits, IntKind.signed]; omega
  refine ⟨m, ?_, hm, x, fun hv => y (by omega)⟩
  unfold z7b
  rw [e8, z6 ⟨h, h'⟩, e, W_id (x := (m : Int)) (by omega) (by omega), W_id (x := w + m) (by omega) (by omega)]
theorem zxy (v w : Int) (h : 0 ≤ v) (h' : v < 65536) (hw : 0 ≤ w) (hw' : w ≤ 48) : ∃ m : Nat, z79 φ v w b n a p = z0a φ φ b n a (w + m) 0 p ∧ m ≤ 16 ∧ z6c v.toNat m := by
  unfold z79
  by_cases c : 256 ≤ v
  · rw [if_pos (by simpa using c), if_pos (by decide), sh8, W_id (by omega) (by omega)]
    obtain ⟨m, e, hn, hl⟩ := zv3 φ b n a p (v / 256) (w + 8) (by omega) (by omega) (by omega) (by omega)
    refine ⟨m + 8, by rw [e]; congr 1; omega, by omega, ?_⟩
    refine z6c.up 8 ?_ (by omega)
    rwa [show v.toNat / 2 ^ 8 = (v / 256).toNat by omega]
  · rw [if_neg (by simpa using c)]
    obtain ⟨m, e, hn, hl⟩ := zv3 φ b n a p v w h (by omega) (by omega) (by omega)
    exact ⟨m, e, by omega, hl⟩
theorem y1o (v w : Int) (h : 0 ≤ v) (h' : v < 4294967296) (hw : 0 ≤ w) (hw' : w ≤ 32) : ∃ m : Nat, z8u φ v w b n a p = z0a φ φ b n a (w + m) 0 p ∧ m ≤ 32 ∧ z6c v.toNat m := by
  unfold z8u
  by_cases c : 65536 ≤ v
  · rw [if_pos (by simpa using c), if_pos (by decide), sh16, W_id (by omega) (by omega)]
    obtain ⟨m, e, hn, hl⟩ := zxy φ b n a p (v / 65536) (w + 16) (by omega) (by omega) (by omega) (by omega)
    refine ⟨m + 16, by rw [e]; congr 1; omega, by omega, ?_⟩
    refine z6c.up 16 ?_ (by omega)
    rwa [show v.toNat / 2 ^ 16 = (v / 65536).toNat by omega]
  · rw [if_neg (by simpa using c)]
    obtain ⟨m, e, hn, hl⟩ := zxy φ b n a p v w h (by omega) (by omega) (by omega)
    exact ⟨m, e, by omega, hl⟩
end first
/-- A step of the loop, once the length is known. -/
def zfm (φ : Nat) (k : Int → Int → Int → Int → Int → Int → Option (Int × Unit)) (L x57 x58 x59 x60 x61 x62 x63 x64 : Int) : Option (Int × Unit) :=
  ck (0 ≤ (W ((W (L - 1)) - x60))) (if (((U ((BitVec.ofInt 64 ((x63 : Int).fdiv (2 ^ (min ((W ((W (L - 1)) - x60)) : Int).toNat 64))) &&& BitVec.ofInt 64 1).toNat)) : Int) == 1) = true then (ck (x64 ≠ 0) (ck (x64 ≠ 0) ((z58 φ ((x59 : Int).tmod x64) ((x57 : Int).tmod x64)).bind fun y66 => ((z52 φ y66.1 y66.2.1 x64).bind fun y67 => (k x57 x58 y67.2.1 x61 (W (x62 + 1)) x64))))) else (k x57 x58 x59 x61 (W (x62 + 1)) x64))
section second
variable (φ : Nat) (k : Int → Int → Int → Int → Int → Int → Option (Int × Unit)) (x57 x58 x59 x60 x61 x62 x63 x64 : Int)
theorem zv0 (v w : Int) (h : 0 ≤ v) (h' : v < 256) (hw : 0 ≤ w) (hw' : w ≤ 64) : ∃ m : Nat, z7d φ k v w x57 x58 x59 x60 x61 x62 x63 x64 = zfm φ k (w + m) x57 x58 x59 x60 x61 x62 x63 x64 ∧ m ≤ 8 ∧ z6c v.toNat m := by
  obtain ⟨m, e, hm, x, y⟩ := ziy h h'
  have e8 : IntKind.wrap .u8 v = v := by simp [IntKind.wrap, IntKind.bits, IntKind.signed]; omega
  refine ⟨m, ?_, hm, x, fun hv => y (by omega)⟩
  unfold z7d zfm
  rw [e8, z6 ⟨h, h'⟩, e, W_id (x := (m : Int)) (by omega) (by omega), W_id (x := w + m) (by omega) (by omega)]
theorem zvf (v w : Int) (h : 0 ≤ v) (h' : v < 65536) (hw : 0 ≤ w) (hw' : w ≤ 48) : ∃ m : Nat, z7c φ k v w x57 x58 x59 x60 x61 x62 x63 x64 = zfm φ k (w + m) x57 x58 x59 x60 x61 x62 x63 x64 ∧ m ≤ 16 ∧ z6c v.toNat m := by
  unfold z7c
  by_cases c : 256 ≤ v
  · rw [if_pos (by simpa using c), if_pos (by decide), sh8, W_id (by omega) (by omega)]
    obtain ⟨m, e, hn, hl⟩ := zv0 φ k x57 x58 x59 x60 x61 x62 x63 x64 (v / 256) (w + 8) (by omega) (by omega) (by omega) (by omega)
    refine ⟨m + 8, by rw [e]; congr 1; omega, by omega, ?_⟩
    refine z6c.up 8 ?_ (by omega)
    rwa [show v.toNat / 2 ^ 8 = (v / 256).toNat by omega]
  · rw [if_neg (by simpa using c)]
    obtain ⟨m, e, hn, hl⟩ := zv0 φ k x57 x58 x59 x60 x61 x62 x63 x64 v w h (by omega) (by omega) (by omega)
    exact ⟨m, e, by omega, hl⟩
theorem zvs (v w : Int) (h : 0 ≤ v) (h' : v < 4294967296) (hw : 0 ≤ w) (hw' : w ≤ 32) : ∃ m : Nat, z2k φ k v w x57 x58 x59 x60 x61 x62 x63 x64 = zfm φ k (w + m) x57 x58 x59 x60 x61 x62 x63 x64 ∧ m ≤ 32 ∧ z6c v.toNat m := by
  unfold z2k
  by_cases c : 65536 ≤ v
  · rw [if_pos (by simpa using c), if_pos (by decide), sh16, W_id (by omega) (by omega)]
    obtain ⟨m, e, hn, hl⟩ := zvf φ k x57 x58 x59 x60 x61 x62 x63 x64 (v / 65536) (w + 16) (by omega) (by omega) (by omega) (by omega)
    refine ⟨m + 16, by rw [e]; congr 1; omega, by omega, ?_⟩
    refine z6c.up 16 ?_ (by omega)
    rwa [show v.toNat / 2 ^ 16 = (v / 65536).toNat by omega]
  · rw [if_neg (by simpa using c)]
    obtain ⟨m, e, hn, hl⟩ := zvf φ k x57 x58 x59 x60 x61 x62 x63 x64 v w h (by omega) (by omega) (by omega)
    exact ⟨m, e, by omega, hl⟩
theorem y6q (v : Int) (h : 0 ≤ v) (h' : v < 18446744073709551616) : ∃ m : Nat, (if (decide ((4294967296 : Int) ≤ v)) = true then (if 0 ≤ (32 : Int) then (z2k φ k (((v : Int).fdiv (2 ^ (min (32 : Int).toNat 64)))) 32 x57 x58 x59 x60 x61 x62 x63 x64) else none) else (z2k φ k v 0 x57 x58 x59 x60 x61 x62 x63 x64)) =
    zfm φ k m x57 x58 x59 x60 x61 x62 x63 x64 ∧ m ≤ 64 ∧ z6c v.toNat m := by
  by_cases c : 4294967296 ≤ v
  · rw [if_pos (by simpa using c), if_pos (by decide), sh32]
    obtain ⟨m, e, hn, hl⟩ := zvs φ k x57 x58 x59 x60 x61 x62 x63 x64 (v / 4294967296) 32 (by omega) (by omega) (by omega) (by omega)
    refine ⟨m + 32, by rw [e]; congr 1; omega, by omega, ?_⟩
    refine z6c.up 32 ?_ (by omega)
    rwa [show v.toNat / 2 ^ 32 = (v / 4294967296).toNat by omega]
  · rw [if_neg (by simpa using c)]
    obtain ⟨m, e, hn, hl⟩ := zvs φ k x57 x58 x59 x60 x61 x62 x63 x64 v 0 h (by omega) (by omega) (by omega)
    exact ⟨m, by rw [e]; simp, by omega, hl⟩
end second
theorem zqs (φ : Nat) (hφ : 100 < φ) (b n : Nat) (hn0 : 0 < n) (hn : n < 18446744073709551616) : zel φ (b : Int) (n : Int) = some (((pw b n : Nat) : Int), ()) := by
  have hstart : ∃ L : Nat, zel φ (b : Int) (n : Int) = z0a φ φ b n 1 L 0 2305843009213690799 ∧ L ≤ 64 ∧ z6c n L := by
    unfold zel
    by_cases c : (4294967296 : Int) ≤ n
    · rw [if_pos (by simpa using c), if_pos (by decide), sh32]
      obtain ⟨m, e, hm, hl⟩ := y1o φ b n 1 2305843009213690799 ((n : Int) / 4294967296) 32 (by omega) (by omega) (by omega) (by omega)
      refine ⟨m + 32, by rw [e]; congr 1; omega, by omega, ?_⟩
      refine z6c.up 32 ?_ (by omega)
      rwa [show n / 2 ^ 32 = ((n : Int) / 4294967296).toNat by omega]
    · rw [if_neg (by simpa using c)]
      obtain ⟨m, e, hm, hl⟩ := y1o φ b n 1 2305843009213690799 (n : Int) 0 (by omega) (by omega) (by omega) (by omega)
      exact ⟨m, by rw [e]; simp, by omega, by rwa [Int.toNat_natCast] at hl⟩
  obtain ⟨L, e0, hL, hlen⟩ := hstart
  rw [e0]
  obtain ⟨h1, h2⟩ := hlen
  refine z04 (fun k i v => z0a φ k (b : Int) (n : Int) v (L : Int) i 2305843009213690799) L (fun i v => v = ((pw b (n / 2 ^ (L - i)) : Nat) : Int)) (fun o => o = some (((pw b n : Nat) : Int), ())) ?_ ?_ φ 1 ?_ (by omega)
  · intro k i v hi hv hs
    rw [z0a, if_pos (by simp; omega), z6 (by decide), z6 (by decide)]
    subst hv
    rw [y6r (zus _ _)]
    refine (zwd (zus _ _) (zus _ _) φ (by omega) (fun z => (if (decide ((4294967296 : Int) ≤ (n : Int))) = true then (if 0 ≤ (32 : Int) then (z2k φ (z0a φ k) ((((n : Int) : Int).fdiv (2 ^ (min (32 : Int).toNat 64)))) 32 b n z i L i n 2305843009213690799) else none) else (z2k φ (z0a φ k) n 0 b n z i L i n 2305843009213690799)))).trans ?_
    rw [y1s]
    obtain ⟨m, em, hm, hl⟩ := y6q φ (z0a φ k) b n ((pw b (n / 2 ^ (L - i) + n / 2 ^ (L - i)) : Nat) : Int) i L i n 2305843009213690799 (n : Int) (by omega) (by omega)
    refine em.trans ?_
    rw [Int.toNat_natCast] at hl
    have := z6c.uniq hn0 hl ⟨h1, h2⟩
    subst this
    unfold zfm
    have hw1 : W ((m : Int) - 1) = (m : Int) - 1 := W_id (by omega) (by omega)
    have hw2 : W ((m : Int) - 1 - (i : Int)) = ((m - 1 - i : Nat) : Int) := by rw [W_id (by omega) (by omega)]; omega
    rw [hw1, hw2, z6 (by omega)]
    have hsh := y8e (c := (n : Int)) (k := ((m - 1 - i : Nat) : Int)) (by omega) (by omega) (by omega)
    have hone : U ((BitVec.ofInt 64 ((n : Int).fdiv (2 ^ (min (((m - 1 - i : Nat) : Int)).toNat 64))) &&& BitVec.ofInt 64 1).toNat) = ((n / 2 ^ (m - 1 - i) % 2 : Nat) : Int) := by
      rw [show ((n : Int).fdiv (2 ^ (min (((m - 1 - i : Nat) : Int)).toNat 64))) = _ from hsh, Int.toNat_natCast, Int.toNat_natCast]
      have hd : n / 2 ^ (m - 1 - i) ≤ n := Nat.div_le_self _ _
      rw [BitVec.toNat_and, z6t (Int.natCast_nonneg _) (by omega), z6t (by omega) (by omega), y5b (y1i (by omega)), Int.toNat_natCast]
      show ((n / 2 ^ (m - 1 - i) &&& 1 : Nat) : Int) = _
      rw [Nat.and_one_is_mod]
    rw [hone]
    have hhalf : n / 2 ^ (m - i) = n / 2 ^ (m - 1 - i) / 2 := by
      rw [Nat.div_div_eq_div_mul, ← Nat.pow_succ]; congr 2; omega
    have hidx : m - (i + 1) = m - 1 - i := by omega
    have hW : W ((i : Int) + 1) = (i : Int) + 1 := W_id (by omega) (by omega)
    have hbit := Nat.mod_two_eq_zero_or_one (n / 2 ^ (m - 1 - i))
    rcases hbit with hbit | hbit
    · rw [hbit, if_neg (by simp), hW]
      refine hs _ ?_
      rw [hidx, hhalf]; congr 2; omega
    · rw [hbit, if_pos (by simp), y6r (zus _ _), y6w, z6 (by decide), z6 (by decide), hW]
      refine (zwd (zus _ _) (Nat.mod_lt b (by decide : 0 < PP)) φ (by omega) (fun z => z0a φ k b n z m ((i : Int) + 1) 2305843009213690799)).trans ?_
      refine hs _ ?_
      rw [← y6s b, y1s, hidx, hhalf]; congr 2; omega
  · intro k v hv
    rw [z0a, if_neg (by simp), hv]
    rw [Nat.sub_self, Nat.pow_zero, Nat.div_one]
  · rw [Nat.sub_zero, Nat.div_eq_of_lt h1, y4r]; rfl
/-- What Valid answers. -/
def y5r (x : Int) : Bool := decide (2 ≤ x) && decide (x < 2305843009213690799) && (pw x.toNat QQ == 1)
theorem zpp (a : Nat) : (((a : Nat) : Int) == 1) = (a == 1) := by
  rw [Bool.eq_iff_iff, beq_iff_eq, beq_iff_eq]; omega
theorem zl6 (φ : Nat) (hφ : 100 < φ) (x : Int) : zcp φ x = some (y5r x, ()) := by
  unfold zcp y5r z0h
  cases h : decide (2 ≤ x) && decide (x < 2305843009213690799) with
  | false => rw [if_neg (by simp), Option.bind_some]; simp only [Bool.false_and]
  | true =>
    simp only [Bool.and_eq_true, decide_eq_true_eq] at h
    have := zqs φ hφ x.toNat QQ (by decide) (by decide)
    rw [show ((x.toNat : Nat) : Int) = x by omega, show ((QQ : Nat) : Int) = 1152921504606845399 by decide] at this
    rw [if_pos rfl, this, Option.bind_some, Bool.true_and, Bool.true_and]
    show some ((((pw x.toNat QQ : Nat) : Int) == 1), ()) = _
    rw [zpp]
end Px
end
section
namespace Px
open Go
set_option linter.unusedVariables false
set_option linter.unusedSimpArgs false
theorem gz_t {α : Type} {z : α} {p : Prop} [Decidable p] {x : Option α} (h : p) : z0h z p x = x := if_pos h
theorem gz_f {α : Type} {z : α} {p : Prop} [Decidable p] {x : Option α} (h : ¬ p) : z0h z p x = some z := if_neg h
def zce (p : z6b) : Bool := bet p.kind 1 5 && bet p.railway 0 15 && (bif p.kind == 3 then bet p.other 0 15 && (p.other != p.railway) else p.other == (-1))
def zc5 (n : Int) (e : Edge) : Bool := bet e.a 0 (n - 1) && bet e.b 0 (n - 1) && (e.a != e.b) && bet e.railway 0 15 && bet e.minutes 1 100000 && bet e.km 0 10000
def z9g (x : zh) : Int := bif decide (512 < x.places.length) || decide (2048 < x.edges.length) then 2 else bif x.places.all zce && x.edges.all (zc5 x.places.length) then 0 else 1
theorem zh4 (φ : Nat) (p : z6b) : z87 φ p = some (zce p, ()) := by
  have hb : (((decide (p.kind < 1) || decide (5 < p.kind)) || decide (p.railway < 0)) || decide (16 ≤ p.railway)) = !(bet p.kind 1 5 && bet p.railway 0 15) := by
    rw [Bool.eq_iff_iff]; simp [bet]; omega
  unfold z87 zce
  rw [hb]
  cases bet p.kind 1 5 && bet p.railway 0 15 with
  | false => rfl
  | true =>
    rw [if_neg (by simp)]
    by_cases h : p.kind = 3
    · have : (decide (0 ≤ p.other) && decide (p.other < 16)) = bet p.other 0 15 := by rw [Bool.eq_iff_iff]; simp [bet]; omega
      rw [if_neg (by simp [h]), this]; simp [h]
    · have h2 : (p.kind == 3) = false := by simpa using h
      rw [if_pos (by simp [h]), h2]; rfl
theorem zw5 (n : Int) (e : Edge) : ((((((decide ((min2 (min2 (min2 (e.a) (e.b)) (e.railway)) (e.km)) < 0) || decide (n ≤ (max2 (e.a) (e.b)))) || (e.a == e.b)) || decide (16 ≤ e.railway)) || decide (e.minutes < 1)) || decide (100000 < e.minutes)) || decide (10000 < e.km)) = !zc5 n e := by
  have hm : ∀ x y z : Int, z ≤ max2 x y ↔ z ≤ x ∨ z ≤ y := by intro x y z; unfold max2; split <;> omega
  have hok : zc5 n e = true ↔ ((((((0 ≤ e.a ∧ e.a ≤ n - 1) ∧ 0 ≤ e.b ∧ e.b ≤ n - 1) ∧ ¬ e.a = e.b) ∧ 0 ≤ e.railway ∧ e.railway ≤ 15) ∧ 1 ≤ e.minutes ∧ e.minutes ≤ 100000) ∧ 0 ≤ e.km ∧ e.km ≤ 10000) := by
    simp only [zc5, Bool.and_eq_true, zqy, bne_iff_ne, ne_eq]
  rw [Bool.eq_iff_iff, Bool.not_eq_true', ← Bool.not_eq_true, hok]
  simp only [Bool.or_eq_true, decide_eq_true_eq, zub, hm, beq_iff_eq]
  omega
theorem y04 (x : zh) : (decide (512 < (x.places.length : Int)) || decide (2048 < (x.edges.length : Int))) = (decide (512 < x.places.length) || decide (2048 < x.edges.length)) := by
  congr 1 <;> (apply decide_eq_decide.2; omega)
theorem zb6 (φ : Nat) (hφ : 5000 < φ) (x : zh) : z5v φ x = some (z9g x, ()) := by
  unfold z5v z9g
  rw [y04]
  cases h : decide (512 < x.places.length) || decide (2048 < x.edges.length) with
  | true => rfl
  | false =>
    simp only [Bool.or_eq_false_iff, decide_eq_false_iff_not, Nat.not_lt] at h
    rw [if_neg (by simp), zi1 (fun n i => z2i φ n (x.places.length : Int) x.places (x.places.length : Int) i x) (z1i φ φ (x.places.length : Int) x.edges (x.edges.length : Int) 0) (some (1, ())) x.places (fun t => !zce t) ?_ ?_ φ (by omega)]
    · rw [zi1 (fun n i => z1i φ n (x.places.length : Int) x.edges (x.edges.length : Int) i) (some (0, ())) (some (1, ())) x.edges (fun t => !zc5 x.places.length t) ?_ ?_ φ (by omega)]
      · simp only [List.any_eq_not_all_not, Bool.not_not]
        cases x.places.all zce <;> cases x.edges.all (zc5 x.places.length) <;> rfl
      · intro n i hi
        rw [z1i, if_pos (by simp; omega), z6 ⟨by omega, by omega⟩, zw5, W_id (by omega) (by omega)]
        cases zc5 x.places.length (gt x.edges i) <;> rfl
      · intro n; rw [z1i, if_neg (by simp)]
    · intro n i hi
      rw [z2i, if_pos (by simp; omega), z6 ⟨by omega, by omega⟩, zh4, Option.bind_some, W_id (by omega) (by omega)]
      cases zce (gt x.places i) <;> rfl
    · intro n; rw [z2i, if_neg (by simp)]
theorem zj9 {x : zh} (h : z9g x = 0) : x.places.length ≤ 512 ∧ x.edges.length ≤ 2048 ∧ (∀ p ∈ x.places, zce p = true) ∧ ∀ e ∈ x.edges, zc5 x.places.length e = true := by
  unfold z9g at h
  cases h1 : decide (512 < x.places.length) || decide (2048 < x.edges.length) with
  | true => rw [h1] at h; cases h
  | false =>
    rw [h1] at h
    cases h2 : x.places.all zce && x.edges.all (zc5 x.places.length) with
    | false => rw [h2] at h; cases h
    | true =>
      simp only [Bool.or_eq_false_iff, decide_eq_false_iff_not, Nat.not_lt] at h1
      simp only [Bool.and_eq_true, List.all_eq_true] at h2
      exact ⟨h1.1, h1.2, h2⟩
/-- What Check says of a calendar. -/
def zwz : Int → List Int → Bool
  | _, [] => true
  | p, h :: t => decide (p < h) && decide (h ≤ 745654) && zwz h t
def zkq (s : Span) : Bool := decide (0 ≤ s.from_) && decide (s.from_ ≤ s.to) && decide (s.to ≤ 1440)
def zqe (c : z73) : Bool := ((List.range 7).all fun i => zkq (c.open_ i)) && zwz (-1) c.holidays
theorem y4t (φ : Nat) (c : z73) : ∀ (n i : Nat) (p : Int), -1 ≤ p → (i : Int) ≤ p + 1 → p ≤ 745654 → i ≤ c.holidays.length → 745656 ≤ (n : Int) + p → z1s φ n p c.holidays (c.holidays.length : Int) i = some (bif zwz p (c.holidays.drop i) then 0 else 1, ()) := by
  intro n
  induction n with
  | zero => intro i p _ _ _ _ _; omega
  | succ n ih =>
    intro i p hp hip hp2 hi hn
    by_cases h : i = c.holidays.length
    · rw [h, z1s, if_neg (by simp), List.drop_length]; rfl
    · rw [z1s, if_pos (by simp; omega), z6 ⟨by omega, by omega⟩, zv5 _ _ (by omega)]
      by_cases hb : gt c.holidays i ≤ p ∨ 745654 < gt c.holidays i
      · have : (decide (p < gt c.holidays i) && decide (gt c.holidays i ≤ 745654)) = false := by simp; omega
        rw [if_pos (by simpa using hb)]
        simp [zwz, this]
      · have h2 : (decide (p < gt c.holidays i) && decide (gt c.holidays i ≤ 745654)) = true := by simp; omega
        rw [if_neg (by simpa using hb), W_id (by omega) (by omega)]
        have := ih (i + 1) (gt c.holidays i) (by omega) (by omega) (by omega) (by omega) (by omega)
        rw [show ((i + 1 : Nat) : Int) = (i : Int) + 1 by omega] at this
        rw [this]
        simp [zwz, h2]
theorem zlf (s : Span) : ((decide (s.from_ < 0) || decide (s.to < s.from_)) || decide (1440 < s.to)) = !zkq s := by
  rw [Bool.eq_iff_iff]; simp [zkq]
  try omega
theorem zgj (φ : Nat) (hφ : 800000 < φ) (c : z73) : z75 φ c = some (bif zqe c then 0 else 1, ()) := by
  unfold z75
  refine z04 (fun n i (_ : Unit) => z23 φ n c.open_ i c) 7 (fun i _ => ((List.range i).all fun j => zkq (c.open_ j)) = true) (fun o => o = some (bif zqe c then 0 else 1, ())) ?_ ?_ φ () (by simp) (by omega)
  · intro n i _ hi h hs
    rw [z23, if_pos (by simp; omega), z6 ⟨by omega, by omega⟩, Int.toNat_natCast, zlf, W_id (by omega) (by omega)]
    cases ho : zkq (c.open_ i) with
    | true =>
      rw [if_neg (by simp)]
      exact hs () (by rw [zdd, h, ho]; rfl)
    | false =>
      have : zqe c = false := by
        unfold zqe
        have : ((List.range 7).all fun j => zkq (c.open_ j)) = false := by
          rw [List.all_eq_false]; exact ⟨i, by simp; omega, by simp [ho]⟩
        rw [this]; rfl
      rw [if_pos (by simp), this]; rfl
  · intro n _ h
    rw [z23, if_neg (by simp)]
    unfold zqe
    rw [h, Bool.true_and]
    have := y4t φ c φ 0 (-1) (by omega) (by omega) (by omega) (by omega) (by omega)
    simpa using this
theorem zgd {α ρ : Type} [Inhabited α] (L : Nat → Bool → Int → Option ρ) (k : Bool → Option ρ) (l : List α) (p : α → Bool)
    (step : ∀ (n i : Nat) (s : Bool), i < l.length → L (n + 1) s i = L n (s || p (gt l i)) ((i : Int) + 1)) (done : ∀ n s, L (n + 1) s l.length = k s) (n : Nat) (s : Bool) (hn : l.length < n) : L n s 0 = k (s || l.any p) := by
  refine z04 (fun n i t => L n t i) l.length (fun i t => t = (s || (l.take i).any p)) (fun o => o = k (s || l.any p)) ?_ ?_ n s (by simp) hn
  · intro n i t hi ht hs
    rw [step n i t hi]
    exact hs _ (by rw [zf7 _ _ _ hi, ht, Bool.or_assoc])
  · intro n t ht
    rw [List.take_length] at ht
    rw [done, ht]
def zek (n : Int) (r : z20) : Bool := (((!bet r.place 0 (n - 1)) || decide (r.low < (-1000))) || decide (r.high < r.low)) || decide (1000 < r.high)
def zg4 (x : zh) (s : zah) : Bool := (!bet s.place 0 ((x.places.length : Int) - 1)) || ((gt x.places s.place).kind != 4)
def zqp (r : z32) : Bool := !zqe r.calendar || !y5r r.key
def zfo (x : Pool) : Bool :=
  ((((((x.railways.length : Int) == 0) || x.readers.any (zek x.network.places.length)) || x.shippers.any (zg4 x.network)) || x.fleet.wagons.any (fun w => decide ((x.network.places.length : Int) ≤ w.home))) ||
  x.network.places.any (fun p => decide ((x.railways.length : Int) ≤ p.railway) || decide ((x.railways.length : Int) ≤ p.other))) || x.network.edges.any (fun e => decide ((x.railways.length : Int) ≤ e.railway)) || x.railways.any zqp
def zgh (x : Pool) : Bool := (decide (256 < (x.readers.length : Int)) || decide (256 < (x.shippers.length : Int))) || decide (16 < (x.railways.length : Int))
/-- What CheckPool answers. -/
def z0g (x : Pool) : Int := if z9g x.network ≠ 0 then z9g x.network else if z5x x.fleet ≠ 0 then z5x x.fleet else bif zgh x then 2 else bif zfo x then 1 else 0
theorem z9r (φ : Nat) (hφ : 800000 < φ) (x : Pool) : z2w φ x = some (z0g x, ()) := by
  unfold z2w z0g
  rw [zb6 _ (by omega), Option.bind_some]
  by_cases hn : z9g x.network = 0
  case neg => rw [if_pos (by simp [hn]), if_pos hn]
  rw [if_neg (by simp [hn]), if_neg (fun e : z9g x.network ≠ 0 => e hn), zjw _ (by omega), Option.bind_some]
  by_cases hf : z5x x.fleet = 0
  case neg => rw [if_pos (by simp [hf]), if_pos hf]
  rw [if_neg (by simp [hf]), if_neg (fun e : z5x x.fleet ≠ 0 => e hf)]
  cases hb : zgh x with
  | true =>
    have e : (((decide (256 < (x.readers.length : Int)) || decide (256 < (x.shippers.length : Int))) || decide (16 < (x.railways.length : Int)))) = zgh x := rfl
    rw [e, hb]; rfl
  | false =>
    have hb' : ¬ (((decide (256 < (x.readers.length : Int)) || decide (256 < (x.shippers.length : Int))) || decide (16 < (x.railways.length : Int))) = true) := by
      rw [show (((decide (256 < (x.readers.length : Int)) || decide (256 < (x.shippers.length : Int))) || decide (16 < (x.railways.length : Int)))) = zgh x from rfl, hb]; simp
    rw [if_neg hb']
    simp only [Bool.or_eq_true, decide_eq_true_eq, not_or] at hb'
    obtain ⟨n1, n2, _, _⟩ := zj9 hn
    obtain ⟨f1, f2, _⟩ := z8v hf
    have hp : W ((x.network.places.length : Int) - 1) = (x.network.places.length : Int) - 1 := W_id (by omega) (by omega)
    have a1 := zgd (fun n s i => z1e φ n x.network.places (x.railways.length : Int) s x.readers (x.readers.length : Int) i x) (fun s => z0z φ φ x.network.places (x.railways.length : Int) s x.shippers (x.shippers.length : Int) 0 x) x.readers (zek x.network.places.length) (fun n i s hi => by
      rw [z1e, if_pos (by simp; omega), z6 ⟨by omega, by omega⟩, hp, W_id (by omega) (by omega)]
      unfold zek
      cases s with
      | true => rw [gz_f (by simp)]; rfl
      | false => rw [gz_t rfl]; rfl) (fun n s => by rw [z1e, if_neg (by simp)]) φ ((x.railways.length : Int) == 0) (by omega)
    refine a1.trans ?_
    have a2 := fun s0 => zgd (fun n s i => z0z φ n x.network.places (x.railways.length : Int) s x.shippers (x.shippers.length : Int) i x) (fun s => z0u φ φ x.network.places (x.railways.length : Int) s x.fleet.wagons (x.fleet.wagons.length : Int) 0 x) x.shippers (zg4 x.network) (fun n i s hi => by
      rw [z0z, if_pos (by simp; omega), z6 ⟨by omega, by omega⟩, hp, W_id (by omega) (by omega)]
      unfold zg4
      cases s with
      | true => rw [gz_f (by simp), Option.bind_some, z6 (by simp)]; rfl
      | false =>
        rw [gz_t rfl, z2f, Option.bind_some]
        cases hbt : bet (gt x.shippers i).place 0 ((x.network.places.length : Int) - 1) with
        | true => rw [z6 (fun _ => by have := zum hbt; omega)]; rfl
        | false => rw [z6 (by simp)]; rfl) (fun n s => by rw [z0z, if_neg (by simp)]) φ s0 (by omega)
    refine (a2 _).trans ?_
    have a3 := fun s0 => zgd (fun n s i => z0u φ n x.network.places (x.railways.length : Int) s x.fleet.wagons (x.fleet.wagons.length : Int) i x) (fun s => z0y φ φ (x.railways.length : Int) s x.network.places (x.network.places.length : Int) 0 x) x.fleet.wagons (fun w => decide ((x.network.places.length : Int) ≤ w.home)) (fun n i s hi => by
      rw [z0u, if_pos (by simp; omega), z6 ⟨by omega, by omega⟩, W_id (by omega) (by omega)]) (fun n s => by rw [z0u, if_neg (by simp)]) φ s0 (by omega)
    refine (a3 _).trans ?_
    have a4 := fun s0 => zgd (fun n s i => z0y φ n (x.railways.length : Int) s x.network.places (x.network.places.length : Int) i x) (fun s => z0v φ φ (x.railways.length : Int) s x.network.edges (x.network.edges.length : Int) 0 x) x.network.places (fun p => decide ((x.railways.length : Int) ≤ p.railway) || decide ((x.railways.length : Int) ≤ p.other)) (fun n i s hi => by
      rw [z0y, if_pos (by simp; omega), z6 ⟨by omega, by omega⟩, W_id (by omega) (by omega), Bool.or_assoc]) (fun n s => by rw [z0y, if_neg (by simp)]) φ s0 (by omega)
    refine (a4 _).trans ?_
    have a5 := fun s0 => zgd (fun n s i => z0v φ n (x.railways.length : Int) s x.network.edges (x.network.edges.length : Int) i x) (fun s => z10 φ φ s x.railways (x.railways.length : Int) 0) x.network.edges (fun e => decide ((x.railways.length : Int) ≤ e.railway)) (fun n i s hi => by
      rw [z0v, if_pos (by simp; omega), z6 ⟨by omega, by omega⟩, W_id (by omega) (by omega)]) (fun n s => by rw [z0v, if_neg (by simp)]) φ s0 (by omega)
    refine (a5 _).trans ?_
    have a6 := fun s0 => zgd (fun n s i => z10 φ n s x.railways (x.railways.length : Int) i) (fun s => if s = true then some (1, ()) else some (0, ())) x.railways zqp (fun n i s hi => by
      rw [z10, if_pos (by simp; omega), z6 ⟨by omega, by omega⟩, W_id (by omega) (by omega)]
      unfold zqp
      cases s with
      | true => rw [gz_f (by simp), Option.bind_some, gz_f (by simp)]; rfl
      | false =>
        rw [gz_t rfl, zgj _ hφ, Option.bind_some]
        cases zqe (gt x.railways i).calendar with
        | false => rw [gz_f (by simp)]; rfl
        | true => rw [gz_t (by simp), zl6 _ (by omega)]; rfl) (fun n s => by rw [z10, if_neg (by simp)]) φ s0 (by omega)
    refine (a6 _).trans ?_
    show (if zfo x = true then some ((1 : Int), ()) else some (0, ())) = _
    cases zfo x <;> rfl
/-- What a valid pool is. -/
theorem zaa {p : Pool} (h : z0g p = 0) : z9g p.network = 0 ∧ z5x p.fleet = 0 ∧ p.readers.length ≤ 256 ∧ p.shippers.length ≤ 256 ∧ p.railways.length ≤ 16 ∧ zfo p = false := by
  unfold z0g at h
  by_cases hn : z9g p.network = 0
  case neg => rw [if_pos hn] at h; exact absurd h hn
  rw [if_neg (fun e : z9g p.network ≠ 0 => e hn)] at h
  by_cases hf : z5x p.fleet = 0
  case neg => rw [if_pos hf] at h; exact absurd h hf
  rw [if_neg (fun e : z5x p.fleet ≠ 0 => e hf)] at h
  cases hb : zgh p with
  | true => rw [hb] at h; cases h
  | false =>
    rw [hb] at h
    cases hd : zfo p with
    | true => rw [hd] at h; cases h
    | false =>
      simp only [zgh, Bool.or_eq_false_iff, decide_eq_false_iff_not] at hb
      exact ⟨hn, hf, by omega, by omega, by omega, rfl⟩
theorem zge {p : Pool} (h : z0g p = 0) : (∀ r ∈ p.readers, 0 ≤ r.place ∧ r.place < (p.network.places.length : Int) ∧ -1000 ≤ r.low ∧ r.low ≤ r.high ∧ r.high ≤ 1000) ∧
    (∀ w ∈ p.fleet.wagons, 0 ≤ w.home ∧ w.home < (p.network.places.length : Int)) ∧ (∀ e ∈ p.network.edges, e.railway < (p.railways.length : Int)) ∧ 0 < p.railways.length := by
  obtain ⟨hn, hf, h1, h2, h3, hb⟩ := zaa h
  simp only [zfo, Bool.or_eq_false_iff] at hb
  obtain ⟨⟨⟨⟨⟨⟨b0, b1⟩, b2⟩, b3⟩, b4⟩, b5⟩, b6⟩ := hb
  obtain ⟨_, _, _, _, _, hw, _, _⟩ := z8v hf
  refine ⟨fun r hr => ?_, fun w hw' => ?_, fun e he => ?_, ?_⟩
  · have := List.any_eq_false.1 b1 r hr
    simp only [zek, Bool.not_eq_true, Bool.or_eq_false_iff, Bool.not_eq_false', decide_eq_false_iff_not] at this
    obtain ⟨⟨⟨c1, c2⟩, c3⟩, c4⟩ := this
    have := zum c1
    omega
  · have := List.any_eq_false.1 b3 w hw'
    have h3 := hw w hw'
    simp only [zdp, Bool.and_eq_true] at h3
    have := zum h3.1.1.2
    simp at *
    omega
  · have := List.any_eq_false.1 b5 e he
    simp at this; omega
  · simp at b0
    exact List.length_pos_iff.2 b0
end Px
end
section
namespace Px
open Go
set_option linter.unusedVariables false
set_option linter.unusedSimpArgs false
theorem y1h {n b : Nat} (h : n ≤ 100000) (hb : b ≤ 1000) : fits n b := by
  unfold fits
  have : n * b ≤ 100000 * 1000 := Nat.mul_le_mul h hb
  omega
abbrev Ln := List ((Nat → Int) × Int)
abbrev keyP (a b : Int) : Nat → Int := upd (upd (fun _ => (default : Int)) 0 a) 1 b
abbrev lget (m : Ln) (a b : Int) : Option Int := @mget _ _ ⟨beqA 2⟩ m (keyP a b)
abbrev lset (m : Ln) (a b i : Int) : Ln := @mset _ _ ⟨beqA 2⟩ m (keyP a b) i
theorem zzb (f g : Nat → Int) : beqA 2 f g = (f 0 == g 0 && f 1 == g 1) := by
  simp [beqA, List.range_succ]
theorem y4o (a b : Int) : keyP a b 0 = a := rfl
theorem y4n (a b : Int) : keyP a b 1 = b := rfl
theorem zip (m : Ln) (a b i c d : Int) : lget (lset m a b i) c d = if c = a ∧ d = b then some i else lget m c d := by
  induction m with
  | nil =>
    show (bif beqA 2 (keyP c d) (keyP a b) then some i else none) = _
    rw [zzb]
    simp only [y4o, y4n]
    by_cases h : c = a ∧ d = b
    · rw [if_pos h]; simp [h]
    · rw [if_neg h]
      have : (c == a && d == b) = false := by rw [← Bool.not_eq_true]; simpa using h
      rw [this]; rfl
  | cons p m ih =>
    obtain ⟨k, v⟩ := p
    show lget (bif beqA 2 (keyP a b) k then (keyP a b, i) :: m else (k, v) :: lset m a b i) c d = _
    have e1 : lget ((k, v) :: m) c d = bif beqA 2 (keyP c d) k then some v else lget m c d := rfl
    cases h1 : beqA 2 (keyP a b) k with
    | true =>
      rw [zzb] at h1
      simp only [y4o, y4n, Bool.and_eq_true, beq_iff_eq] at h1
      show (bif beqA 2 (keyP c d) (keyP a b) then some i else lget m c d) = _
      rw [e1, zzb, zzb]
      simp only [y4o, y4n]
      by_cases h : c = a ∧ d = b
      · rw [if_pos h]; simp [h]
      · rw [if_neg h]
        have h2 : (c == a && d == b) = false := by rw [← Bool.not_eq_true]; simpa using h
        have h3 : (c == k 0 && d == k 1) = false := by rw [← h1.1, ← h1.2]; exact h2
        rw [h2, h3]; rfl
    | false =>
      show (bif beqA 2 (keyP c d) k then some v else lget (lset m a b i) c d) = _
      rw [ih, e1]
      cases h2 : beqA 2 (keyP c d) k with
      | false => rfl
      | true =>
        by_cases h : c = a ∧ d = b
        · obtain ⟨rfl, rfl⟩ := h
          rw [h1] at h2; cases h2
        · show some v = _
          rw [if_neg h]; rfl
theorem y0z {b : Bool} (h : ¬ (!b) = true) : b = true := by cases b <;> simp_all
/-- One end of a line is entered. -/
def ent1 (es : List Edge) (i a b : Int) (s : List (List Int) × Ln) : List (List Int) × Ln :=
  (if (!(lget s.2 a b).isSome) = true then zy s.1 a (gt s.1 a ++ [b]) else s.1,
   if (!(lget s.2 a b).isSome || decide ((gt es i).minutes < (gt es ((lget s.2 a b).getD default)).minutes)) = true then lset s.2 a b i else s.2)
def entE (es : List Edge) (i : Int) (s : List (List Int) × Ln) : List (List Int) × Ln := ent1 es i (gt es i).b (gt es i).a (ent1 es i (gt es i).a (gt es i).b s)
/-- What is known while z99 are entered. -/
structure GI (es : List Edge) (P k : Nat) (s : List (List Int) × Ln) : Prop where
  len : s.1.length = P
  near : ∀ a b : Int, 0 ≤ a → a < (P : Int) → (b ∈ gt s.1 a ↔ (lget s.2 a b).isSome = true)
  line : ∀ a b i : Int, lget s.2 a b = some i → 0 ≤ i ∧ i < (k : Int) ∧ (((gt es i).a = a ∧ (gt es i).b = b) ∨ ((gt es i).a = b ∧ (gt es i).b = a))
  size : ∀ a : Int, 0 ≤ a → a < (P : Int) → (gt s.1 a).length ≤ 2 * k
structure HI (es : List Edge) (P k : Nat) (s : List (List Int) × Ln) : Prop extends GI es P k s where
  sym : ∀ a b : Int, lget s.2 a b = lget s.2 b a
theorem zyo (es : List Edge) (P : Nat) : HI es P 0 (List.replicate P (default : List Int), []) where
  len := by simp
  near := fun a b h0 h1 => by
    rw [z2l _ _ _ h0 (by omega)]
    show b ∈ ([] : List Int) ↔ _
    simp [lget, mget]
  line := fun a b i h => by simp [lget, mget] at h
  size := fun a h0 h1 => by rw [z2l _ _ _ h0 (by omega)]; simp; rfl
  sym := fun a b => rfl
/-- What one end does to what is known; j: how far the numbers of the z99 go. -/
theorem y5k {es : List Edge} {P k : Nat} {s : List (List Int) × Ln} (h : GI es P k s) {a b : Int} (ha : 0 ≤ a) (ha' : a < (P : Int)) (he : ((gt es (k : Int)).a = a ∧ (gt es (k : Int)).b = b) ∨ ((gt es (k : Int)).a = b ∧ (gt es (k : Int)).b = a)) :
    (ent1 es k a b s).1.length = P ∧ (∀ c d : Int, 0 ≤ c → c < (P : Int) → (d ∈ gt (ent1 es k a b s).1 c ↔ (lget (ent1 es k a b s).2 c d).isSome = true)) ∧
    (∀ c d i : Int, lget (ent1 es k a b s).2 c d = some i → 0 ≤ i ∧ i < ((k + 1 : Nat) : Int) ∧ (((gt es i).a = c ∧ (gt es i).b = d) ∨ ((gt es i).a = d ∧ (gt es i).b = c))) ∧
    (∀ c : Int, 0 ≤ c → c < (P : Int) → (gt (ent1 es k a b s).1 c).length ≤ (gt s.1 c).length + 1) ∧
    (∀ c d : Int, ¬ (c = a ∧ d = b) → lget (ent1 es k a b s).2 c d = lget s.2 c d) ∧
    lget (ent1 es k a b s).2 a b = (if (!(lget s.2 a b).isSome || decide ((gt es (k : Int)).minutes < (gt es ((lget s.2 a b).getD default)).minutes)) = true then some (k : Int) else lget s.2 a b) := by
  have hl2 : ∀ c d : Int, lget (ent1 es k a b s).2 c d = if (c = a ∧ d = b) then (if (!(lget s.2 a b).isSome || decide ((gt es (k : Int)).minutes < (gt es ((lget s.2 a b).getD default)).minutes)) = true then some (k : Int) else lget s.2 a b) else lget s.2 c d := by
    intro c d
    unfold ent1
    simp only []
    split
    · rw [zip]
    · split
      · rename_i q; rw [q.1, q.2]
      · rfl
  have hsm : (lget (ent1 es k a b s).2 a b).isSome = true := by
    rw [hl2, if_pos ⟨rfl, rfl⟩]
    split
    · rfl
    · rename_i q
      simp only [Bool.or_eq_true, not_or] at q
      exact y0z q.1
  refine ⟨?_, ?_, ?_, ?_, fun c d hcd => by rw [hl2, if_neg hcd], by rw [hl2, if_pos ⟨rfl, rfl⟩]⟩
  · unfold ent1
    simp only []
    split
    · rw [z13]; exact h.len
    · exact h.len
  · intro c d hc hc'
    by_cases hcd : c = a ∧ d = b
    · obtain ⟨rfl, rfl⟩ := hcd
      rw [hsm]
      refine ⟨fun _ => rfl, fun _ => ?_⟩
      unfold ent1
      simp only []
      split
      · rw [z0d _ _ _ _ hc (by rw [h.len]; exact hc') hc, if_pos rfl]; simp
      · rename_i q
        exact (h.near c d hc hc').2 (y0z q)
    · rw [hl2, if_neg hcd, ← h.near c d hc hc']
      unfold ent1
      simp only []
      split
      · rw [z0d _ _ _ _ ha (by rw [h.len]; exact ha') hc]
        by_cases e : c = a
        · subst e
          rw [if_pos rfl]
          simp only [List.mem_append, List.mem_singleton]
          exact ⟨fun q => q.resolve_right (fun e => hcd ⟨rfl, e⟩), .inl⟩
        · rw [if_neg e]
      · exact Iff.rfl
  · intro c d i hi
    rw [hl2] at hi
    split at hi
    · rename_i q
      obtain ⟨rfl, rfl⟩ := q
      split at hi
      · have := Option.some.inj hi
        subst this
        exact ⟨by omega, by omega, he⟩
      · obtain ⟨h1, h2, h3⟩ := h.line _ _ _ hi
        exact ⟨h1, by omega, h3⟩
    · obtain ⟨h1, h2, h3⟩ := h.line _ _ _ hi
      exact ⟨h1, by omega, h3⟩
  · intro c hc hc'
    unfold ent1
    simp only []
    split
    · rw [z0d _ _ _ _ ha (by rw [h.len]; exact ha') hc]
      split
      · rename_i e; subst e; simp
      · omega
    · omega
theorem y5t {es : List Edge} {P k : Nat} {s : List (List Int) × Ln} (h : HI es P k s) (ha : 0 ≤ (gt es (k : Int)).a) (ha' : (gt es (k : Int)).a < (P : Int)) (hb : 0 ≤ (gt es (k : Int)).b) (hb' : (gt es (k : Int)).b < (P : Int)) (hne : (gt es (k : Int)).a ≠ (gt es (k : Int)).b) :
    HI es P (k + 1) (entE es k s) := by
  obtain ⟨a1, a2, a3, a4, a5, a6⟩ := y5k h.toGI ha ha' (.inl ⟨rfl, rfl⟩)
  unfold entE
  generalize hs1 : ent1 es k (gt es (k : Int)).a (gt es (k : Int)).b s = s1 at *
  generalize (gt es (k : Int)).a = a at *
  generalize (gt es (k : Int)).b = b at *
  -- the second end, by the same law: only the zbc on the numbers has moved
  have hl2 : ∀ c d : Int, lget (ent1 es k b a s1).2 c d = if (c = b ∧ d = a) then (if (!(lget s1.2 b a).isSome || decide ((gt es (k : Int)).minutes < (gt es ((lget s1.2 b a).getD default)).minutes)) = true then some (k : Int) else lget s1.2 b a) else lget s1.2 c d := by
    intro c d
    unfold ent1
    simp only []
    split
    · rw [zip]
    · split
      · rename_i q; rw [q.1, q.2]
      · rfl
  have hba : lget s1.2 b a = lget s.2 a b := by rw [a5 b a (fun q => hne q.2), h.sym]
  have hsm : (lget (ent1 es k b a s1).2 b a).isSome = true := by
    rw [hl2, if_pos ⟨rfl, rfl⟩]
    split
    · rfl
    · rename_i q
      simp only [Bool.or_eq_true, not_or] at q
      exact y0z q.1
  have hlab : lget (ent1 es k b a s1).2 a b = lget s1.2 a b := by rw [hl2, if_neg (fun q => hne q.1)]
  have hlba : lget (ent1 es k b a s1).2 b a = lget s1.2 a b := by
    rw [hl2, if_pos ⟨rfl, rfl⟩, hba, a6]
  have hab : ((gt es (k : Int)).a = a ∧ (gt es (k : Int)).b = b) ∨ ((gt es (k : Int)).a = b ∧ (gt es (k : Int)).b = a) → True := fun _ => trivial
  refine ⟨⟨?_, ?_, ?_, ?_⟩, ?_⟩
  · unfold ent1
    simp only []
    split
    · rw [z13]; exact a1
    · exact a1
  · intro c d hc hc'
    by_cases hcd : c = b ∧ d = a
    · obtain ⟨rfl, rfl⟩ := hcd
      rw [hsm]
      refine ⟨fun _ => rfl, fun _ => ?_⟩
      unfold ent1
      simp only []
      split
      · rw [z0d _ _ _ _ hc (by rw [a1]; exact hc') hc, if_pos rfl]; simp
      · rename_i q
        exact (a2 c d hc hc').2 (y0z q)
    · rw [hl2, if_neg hcd, ← a2 c d hc hc']
      unfold ent1
      simp only []
      split
      · rw [z0d _ _ _ _ hb (by rw [a1]; exact hb') hc]
        by_cases e : c = b
        · subst e
          rw [if_pos rfl]
          simp only [List.mem_append, List.mem_singleton]
          exact ⟨fun q => q.resolve_right (fun e => hcd ⟨rfl, e⟩), .inl⟩
        · rw [if_neg e]
      · exact Iff.rfl
  · intro c d i hi
    by_cases hcd : c = b ∧ d = a
    · obtain ⟨rfl, rfl⟩ := hcd
      rw [hlba] at hi
      obtain ⟨h1, h2, h3⟩ := a3 _ _ _ hi
      exact ⟨h1, h2, h3.elim .inr .inl⟩
    · rw [hl2, if_neg hcd] at hi
      exact a3 _ _ _ hi
  · intro c hc hc'
    have h1 := a4 c hc hc'
    have h0 := h.size c hc hc'
    have h2 : (gt (ent1 es k b a s1).1 c).length ≤ (gt s1.1 c).length + 1 := by
      unfold ent1
      simp only []
      split
      · rw [z0d _ _ _ _ hb (by rw [a1]; exact hb') hc]
        split
        · rename_i e; subst e; simp
        · omega
      · omega
    omega
  · intro c d
    by_cases h1 : c = b ∧ d = a
    · obtain ⟨rfl, rfl⟩ := h1
      rw [hlba, hlab]
    · by_cases h2 : c = a ∧ d = b
      · obtain ⟨rfl, rfl⟩ := h2
        rw [hlab, hlba]
      · rw [hl2, if_neg h1, hl2, if_neg (fun q => h2 ⟨q.2, q.1⟩), a5 c d h2, a5 d c (fun q => h1 ⟨q.2, q.1⟩), h.sym]
/-- The graph of a valid network. -/
def zgy (es : List Edge) (P : Nat) : Nat → List (List Int) × Ln
  | 0 => (List.replicate P default, [])
  | k + 1 => entE es k (zgy es P k)
structure zja (x : zh) : Prop where
  places : x.places.length ≤ 512
  edges : x.edges.length ≤ 2048
  edge : ∀ i : Int, 0 ≤ i → i < (x.edges.length : Int) → zc5 x.places.length (gt x.edges i) = true
theorem y8m {x : zh} (h : z9g x = 0) : zja x := by
  obtain ⟨h1, h2, _, h4⟩ := zj9 h
  exact ⟨h1, h2, fun i h0 hi => h4 _ (z37 h0 hi)⟩
theorem zja.ends {x : zh} (h : zja x) {i : Int} (h0 : 0 ≤ i) (hi : i < (x.edges.length : Int)) : 0 ≤ (gt x.edges i).a ∧ (gt x.edges i).a < (x.places.length : Int) ∧ 0 ≤ (gt x.edges i).b ∧ (gt x.edges i).b < (x.places.length : Int) ∧
    (gt x.edges i).a ≠ (gt x.edges i).b ∧ 0 ≤ (gt x.edges i).railway ∧ (gt x.edges i).railway ≤ 15 ∧ 1 ≤ (gt x.edges i).minutes ∧ (gt x.edges i).minutes ≤ 100000 ∧ 0 ≤ (gt x.edges i).km ∧ (gt x.edges i).km ≤ 10000 := by
  have := h.edge i h0 hi
  simp only [zc5, Bool.and_eq_true, zqy, bne_iff_ne, ne_eq] at this
  obtain ⟨⟨⟨⟨⟨q1, q2⟩, q3⟩, q4⟩, q5⟩, q6⟩ := this
  exact ⟨q1.1, by omega, q2.1, by omega, q3, q4.1, q4.2, q5.1, q5.2, q6.1, q6.2⟩
theorem zcx {x : zh} (h : zja x) : ∀ k, k ≤ x.edges.length → HI x.edges x.places.length k (zgy x.edges x.places.length k)
  | 0, _ => zyo _ _
  | k + 1, hk => by
    obtain ⟨a1, a2, a3, a4, a5, _⟩ := h.ends (i := (k : Int)) (by omega) (by omega)
    exact y5t (zcx h k (by omega)) a1 a2 a3 a4 a5
/-- A graph: neighbours, and the minutes of the z99 to them. -/
structure Gr (P : Nat) (near : List (List Int)) (wt : Int → Int → Int) : Prop where
  len : near.length = P
  small : P ≤ 512
  size : ∀ a : Int, 0 ≤ a → a < (P : Int) → (gt near a).length ≤ 5000
  rng : ∀ a b : Int, 0 ≤ a → a < (P : Int) → b ∈ gt near a → 0 ≤ b ∧ b < (P : Int)
  sym : ∀ a b : Int, 0 ≤ a → a < (P : Int) → b ∈ gt near a → a ∈ gt near b ∧ wt b a = wt a b
  wt : ∀ a b : Int, 0 ≤ a → a < (P : Int) → b ∈ gt near a → 1 ≤ wt a b ∧ wt a b ≤ 100000
def z99 (x : zh) : Ln := (zgy x.edges x.places.length x.edges.length).2
def wtN (x : zh) (a b : Int) : Int := (gt x.edges ((lget (z99 x) a b).getD default)).minutes
def zef (x : zh) : List (List Int) := (zgy x.edges x.places.length x.edges.length).1
def z3r (x : zh) : List (List Int) := (zef x).map fun l => zcf (fun a b => decide (a < b)) l
theorem zww {α β : Type} [Inhabited α] [Inhabited β] (f : α → β) (l : List α) {i : Int} (h0 : 0 ≤ i) (h : i < (l.length : Int)) : gt (l.map f) i = f (gt l i) := by
  obtain ⟨n, rfl⟩ : ∃ n : Nat, i = (n : Int) := ⟨i.toNat, by omega⟩
  rw [z5b (by simp; omega), z5b (by omega)]
  simp
theorem zmd {x : zh} (h : zja x) {a b : Int} (ha : 0 ≤ a) (ha' : a < (x.places.length : Int)) (hb : b ∈ gt (z3r x) a) : ∃ i, lget (z99 x) a b = some i ∧ 0 ≤ i ∧ i < (x.edges.length : Int) ∧ (((gt x.edges i).a = a ∧ (gt x.edges i).b = b) ∨ ((gt x.edges i).a = b ∧ (gt x.edges i).b = a)) := by
  have H := zcx h x.edges.length (Nat.le_refl _)
  unfold z3r at hb
  rw [zww _ _ ha (by show a < ((zef x).length : Int); rw [show (zef x).length = _ from H.len]; exact ha')] at hb
  have hb := (z2g _ _).mem_iff.1 hb
  have := (H.near a b ha ha').1 hb
  obtain ⟨i, hi⟩ := Option.isSome_iff_exists.1 this
  obtain ⟨h1, h2, h3⟩ := H.line _ _ _ hi
  exact ⟨i, hi, h1, h2, h3⟩
theorem grN {x : zh} (h : zja x) : Gr x.places.length (z3r x) (wtN x) := by
  have H := zcx h x.edges.length (Nat.le_refl _)
  have hlen : (z3r x).length = x.places.length := by unfold z3r; rw [List.length_map]; exact H.len
  have hl0 : (zef x).length = x.places.length := H.len
  have hmem : ∀ a b : Int, 0 ≤ a → a < (x.places.length : Int) → (b ∈ gt (z3r x) a ↔ (lget (z99 x) a b).isSome = true) := by
    intro a b ha ha'
    unfold z3r
    rw [zww _ _ ha (by rw [hl0]; exact ha')]
    exact ((z2g _ _).mem_iff).trans (H.near a b ha ha')
  refine ⟨hlen, h.places, ?_, ?_, ?_, ?_⟩
  · intro a ha ha'
    unfold z3r
    rw [zww _ _ ha (by rw [hl0]; exact ha'), (z2g _ _).length_eq]
    have := H.size a ha ha'
    have := h.edges
    show (gt (zgy x.edges x.places.length x.edges.length).1 a).length ≤ _
    omega
  · intro a b ha ha' hb
    obtain ⟨i, _, h1, h2, h3⟩ := zmd h ha ha' hb
    obtain ⟨e1, e2, e3, e4, _⟩ := h.ends h1 h2
    rcases h3 with ⟨rfl, rfl⟩ | ⟨rfl, rfl⟩
    · exact ⟨e3, e4⟩
    · exact ⟨e1, e2⟩
  · intro a b ha ha' hb
    obtain ⟨i, hi, h1, h2, h3⟩ := zmd h ha ha' hb
    obtain ⟨e1, e2, e3, e4, _⟩ := h.ends h1 h2
    have hbr : 0 ≤ b ∧ b < (x.places.length : Int) := by
      rcases h3 with ⟨rfl, rfl⟩ | ⟨rfl, rfl⟩
      · exact ⟨e3, e4⟩
      · exact ⟨e1, e2⟩
    have hs : lget (z99 x) b a = lget (z99 x) a b := H.sym b a
    refine ⟨(hmem b a hbr.1 hbr.2).2 (by rw [hs, hi]; rfl), ?_⟩
    unfold wtN
    rw [hs]
  · intro a b ha ha' hb
    obtain ⟨i, hi, h1, h2, _⟩ := zmd h ha ha' hb
    obtain ⟨_, _, _, _, _, _, _, e1, e2, _⟩ := h.ends h1 h2
    unfold wtN
    rw [hi]
    exact ⟨e1, e2⟩
/-- The state of the search for least times: after k rounds. -/
structure DI (P : Nat) (near : List (List Int)) (wt : Int → Int → Int) (s : Int) (k : Nat) (t : List Int) (d : List Bool) : Prop where
  lt : t.length = P
  ld : d.length = P
  src : gt t s = 0
  bd : ∀ i : Int, 0 ≤ i → i < (P : Int) → gt t i = -1 ∨ (0 ≤ gt t i ∧ gt t i ≤ 100000 * k)
  don : ∀ i : Int, 0 ≤ i → i < (P : Int) → gt d i = true → 0 ≤ gt t i
  pre : ∀ a : Int, 0 ≤ a → a < (P : Int) → a ≠ s → 0 ≤ gt t a → ∃ q, 0 ≤ q ∧ q < (P : Int) ∧ gt d q = true ∧ q ∈ gt near a ∧ gt t a = gt t q + wt q a
  mon : ∀ q i : Int, 0 ≤ q → q < (P : Int) → 0 ≤ i → i < (P : Int) → gt d q = true → gt d i = false → 0 ≤ gt t i → gt t q ≤ gt t i
  nbr : ∀ q i : Int, 0 ≤ q → q < (P : Int) → gt d q = true → i ∈ gt near q → 0 ≤ gt t i ∧ gt t i ≤ gt t q + wt q i
  cnt : d.count true = k
/-- A round: the place p is done, and its neighbours are looked at. -/
structure RndI (P : Nat) (near : List (List Int)) (wt : Int → Int → Int) (s p : Int) (k : Nat) (t0 : List Int) (d : List Bool) (seen : List Int) (t : List Int) : Prop where
  lt : t.length = P
  own : gt t p = gt t0 p
  val : ∀ i : Int, 0 ≤ i → i < (P : Int) → gt t i = gt t0 i ∨ (i ∈ seen ∧ gt t i = gt t0 p + wt p i ∧ (gt t0 i < 0 ∨ gt t0 p + wt p i < gt t0 i))
  got : ∀ i ∈ seen, 0 ≤ i → 0 ≤ gt t i ∧ gt t i ≤ gt t p + wt p i
end Px
end
section
namespace Px
open Go
set_option linter.unusedVariables false
set_option linter.unusedSimpArgs false
section
variable {P : Nat} {near : List (List Int)} {wt : Int → Int → Int} {s : Int}
theorem zu1 {α : Type} [Inhabited α] (l : List α) {i : Int} (h0 : 0 ≤ i) (h : i < (l.length : Int)) : zy l i (gt l i) = l := by
  obtain ⟨n, rfl⟩ : ∃ n : Nat, i = (n : Int) := ⟨i.toNat, by omega⟩
  rw [z5b (by omega)]
  simp [zy]
theorem zy0 {p : Int} {k : Nat} {t0 : List Int} {d : List Bool} (h : DI P near wt s k t0 d) : RndI P near wt s p k t0 d [] t0 :=
  ⟨h.lt, rfl, fun i _ _ => .inl rfl, fun i hi => by cases hi⟩
theorem zzv (hG : Gr P near wt) {p : Int} (hp : 0 ≤ p) (hp' : p < (P : Int)) {k : Nat} {t0 : List Int} {d : List Bool} (hp0 : 0 ≤ gt t0 p) {seen t : List Int} (h : RndI P near wt s p k t0 d seen t) {q : Int} (hq : q ∈ gt near p) :
    RndI P near wt s p k t0 d (seen ++ [q]) (if (decide (gt t q < 0) || decide (gt t p + wt p q < gt t q)) = true then zy t q (gt t p + wt p q) else t) := by
  obtain ⟨q0, q1⟩ := hG.rng p q hp hp' hq
  obtain ⟨w0, w1⟩ := hG.wt p q hp hp' hq
  have hown := h.own
  by_cases c : gt t q < 0 ∨ gt t p + wt p q < gt t q
  · rw [if_pos (by simpa using c)]
    have hqp : q ≠ p := fun e => by subst e; omega
    refine ⟨by rw [z13]; exact h.lt, ?_, fun i h0 h1 => ?_, fun i hi hneg => ?_⟩
    · rw [z0d _ _ _ _ q0 (by rw [h.lt]; exact q1) hp, if_neg (fun e => hqp e.symm)]; exact hown
    · rw [z0d _ _ _ _ q0 (by rw [h.lt]; exact q1) h0]
      by_cases e : i = q
      · subst e
        rw [if_pos rfl]
        refine .inr ⟨by simp, by rw [hown], ?_⟩
        rcases h.val i h0 h1 with h2 | ⟨_, h2, _⟩
        · rw [h2, hown] at c; exact c
        · rw [h2, hown] at c; exfalso; omega
      · rw [if_neg e]
        rcases h.val i h0 h1 with h2 | ⟨h2, h3, h4⟩
        · exact .inl h2
        · exact .inr ⟨List.mem_append_left _ h2, h3, h4⟩
    · by_cases e : i = q
      · subst e
        rw [z0d _ _ _ _ q0 (by rw [h.lt]; exact q1) q0, if_pos rfl, z0d _ _ _ _ q0 (by rw [h.lt]; exact q1) hp, if_neg (fun e => hqp e.symm)]
        omega
      · have hi : i ∈ seen := by
          rcases List.mem_append.1 hi with hi | hi
          · exact hi
          · exact absurd (List.mem_singleton.1 hi) e
        rw [z0d _ _ _ _ q0 (by rw [h.lt]; exact q1) hneg, if_neg e, z0d _ _ _ _ q0 (by rw [h.lt]; exact q1) hp, if_neg (fun e => hqp e.symm)]
        exact h.got i hi hneg
  · rw [if_neg (by simpa using c)]
    refine ⟨h.lt, hown, fun i h0 h1 => ?_, fun i hi hneg => ?_⟩
    · rcases h.val i h0 h1 with h2 | ⟨h2, h3, h4⟩
      · exact .inl h2
      · exact .inr ⟨List.mem_append_left _ h2, h3, h4⟩
    · rcases List.mem_append.1 hi with hi | hi
      · exact h.got i hi hneg
      · rw [List.mem_singleton.1 hi]; omega
theorem zqh {d : List Bool} {p : Int} (hp : 0 ≤ p) (hp' : p < (d.length : Int)) (h : gt d p = false) : (zy d p true).count true = d.count true + 1 := by
  obtain ⟨n, rfl⟩ : ∃ n : Nat, p = (n : Int) := ⟨p.toNat, by omega⟩
  have hn : n < d.length := by omega
  rw [z5b hn] at h
  unfold zy
  rw [Int.toNat_natCast, List.count_set hn, h]
  simp
/-- A round done. -/
theorem zyn (hG : Gr P near wt) {p : Int} (hp : 0 ≤ p) (hp' : p < (P : Int)) {k : Nat} {t0 : List Int} {d : List Bool} (h : DI P near wt s k t0 d) (hs : 0 ≤ s) (hs' : s < (P : Int)) (hp0 : 0 ≤ gt t0 p) (hd : gt d p = false)
    (hmin : ∀ i : Int, 0 ≤ i → i < (P : Int) → 0 ≤ gt t0 i → gt d i = false → gt t0 p ≤ gt t0 i) {t : List Int} (hr : RndI P near wt s p k t0 d (gt near p) t) : DI P near wt s (k + 1) t (zy d p true) := by
  have hds : ∀ i : Int, 0 ≤ i → gt (zy d p true) i = if i = p then true else gt d i := fun i hi => z0d _ _ _ _ hp (by rw [h.ld]; exact hp') hi
  have hw : ∀ i, i ∈ gt near p → 1 ≤ wt p i ∧ wt p i ≤ 100000 := fun i hi => hG.wt p i hp hp' hi
  -- what is done stays
  have hdone : ∀ i : Int, 0 ≤ i → i < (P : Int) → gt d i = true → gt t i = gt t0 i := by
    intro i h0 h1 hdi
    rcases hr.val i h0 h1 with h2 | ⟨h2, h3, h4⟩
    · exact h2
    · have := hw i h2
      have := h.don i h0 h1 hdi
      have := h.mon i p h0 h1 hp hp' hdi hd hp0
      omega
  have hbdp := (h.bd p hp hp').resolve_left (by omega)
  refine ⟨hr.lt, by rw [z13]; exact h.ld, ?_, fun i h0 h1 => ?_, fun i h0 h1 hdi => ?_, fun a h0 h1 has hta => ?_, fun q i q0 q1 h0 h1 hdq hdi hti => ?_, fun q i q0 q1 hdq hin => ?_, ?_⟩
  · rcases hr.val s hs hs' with h2 | ⟨h2, h3, h4⟩
    · rw [h2, h.src]
    · have := hw s h2
      have := h.src
      omega
  · rcases hr.val i h0 h1 with h2 | ⟨h2, h3, h4⟩
    · rw [h2]
      rcases h.bd i h0 h1 with h5 | h5
      · exact .inl h5
      · right; omega
    · have := hw i h2
      right; omega
  · rw [hds i h0] at hdi
    by_cases e : i = p
    · subst e; rw [hr.own]; exact hp0
    · rw [if_neg e] at hdi
      rw [hdone i h0 h1 hdi]; exact h.don i h0 h1 hdi
  · rcases hr.val a h0 h1 with h2 | ⟨h2, h3, h4⟩
    · rw [h2] at hta ⊢
      obtain ⟨q, q0, q1, hdq, hqn, he⟩ := h.pre a h0 h1 has hta
      refine ⟨q, q0, q1, ?_, hqn, by rw [hdone q q0 q1 hdq]; exact he⟩
      rw [hds q q0]; split
      · rfl
      · exact hdq
    · obtain ⟨hsy, hwt⟩ := hG.sym p a hp hp' h2
      exact ⟨p, hp, hp', by rw [hds p hp, if_pos rfl], hsy, by rw [hr.own, h3]⟩
  · rw [hds q q0] at hdq
    rw [hds i h0] at hdi
    have hip : i ≠ p := fun e => by rw [if_pos e] at hdi; cases hdi
    rw [if_neg hip] at hdi
    have hge : gt t0 p ≤ gt t i := by
      rcases hr.val i h0 h1 with h2 | ⟨h2, h3, h4⟩
      · rw [h2] at hti ⊢; exact hmin i h0 h1 hti hdi
      · have := hw i h2; omega
    by_cases e : q = p
    · subst e; rw [hr.own]; exact hge
    · rw [if_neg e] at hdq
      have := h.mon q p q0 q1 hp hp' hdq hd hp0
      rw [hdone q q0 q1 hdq]; omega
  · rw [hds q q0] at hdq
    by_cases e : q = p
    · subst e; exact hr.got i hin (hG.rng q i hp hp' hin).1
    · rw [if_neg e] at hdq
      obtain ⟨i0, i1⟩ := hG.rng q i q0 q1 hin
      have := h.nbr q i q0 q1 hdq hin
      rw [hdone q q0 q1 hdq]
      rcases hr.val i i0 i1 with h2 | ⟨h2, h3, h4⟩
      · rw [h2]; exact this
      · have := hw i h2; omega
  · rw [zqh hp (by rw [h.ld]; exact hp') hd, h.cnt]
/-- The search is over. -/
structure DF (P : Nat) (near : List (List Int)) (wt : Int → Int → Int) (s : Int) (t : List Int) : Prop where
  lt : t.length = P
  src : gt t s = 0
  bd : ∀ i : Int, 0 ≤ i → i < (P : Int) → gt t i = -1 ∨ (0 ≤ gt t i ∧ gt t i ≤ 51200000)
  pre : ∀ a : Int, 0 ≤ a → a < (P : Int) → a ≠ s → 0 ≤ gt t a → ∃ q, 0 ≤ q ∧ q < (P : Int) ∧ q ∈ gt near a ∧ 0 ≤ gt t q ∧ gt t a = gt t q + wt q a
  nbr : ∀ q i : Int, 0 ≤ q → q < (P : Int) → 0 ≤ gt t q → i ∈ gt near q → 0 ≤ gt t i ∧ gt t i ≤ gt t q + wt q i
theorem y8q (hG : Gr P near wt) {k : Nat} {t : List Int} {d : List Bool} (h : DI P near wt s k t d) (hall : ∀ i : Int, 0 ≤ i → i < (P : Int) → 0 ≤ gt t i → gt d i = true) : DF P near wt s t := by
  have hk : k ≤ P := by rw [← h.cnt, ← h.ld]; exact List.count_le_length
  have := hG.small
  refine ⟨h.lt, h.src, fun i h0 h1 => ?_, fun a h0 h1 ha hta => ?_, fun q i q0 q1 hq hi => h.nbr q i q0 q1 (hall q q0 q1 hq) hi⟩
  · rcases h.bd i h0 h1 with h2 | h2
    · exact .inl h2
    · right; omega
  · obtain ⟨q, q0, q1, hdq, hqn, he⟩ := h.pre a h0 h1 ha hta
    exact ⟨q, q0, q1, hqn, h.don q q0 q1 hdq, he⟩
theorem zzx (hs : 0 ≤ s) (hs' : s < (P : Int)) (t : List Int) (ht : t.length = P) (hall : ∀ i : Int, 0 ≤ i → i < (P : Int) → gt t i = if i = s then 0 else -1) : DI P near wt s 0 t (List.replicate P (default : Bool)) := by
  have hd : ∀ i : Int, 0 ≤ i → i < (P : Int) → gt (List.replicate P (default : Bool)) i = false := fun i h0 h1 => by rw [z2l _ _ _ h0 (by omega)]; rfl
  refine ⟨ht, by simp, by rw [hall s hs hs', if_pos rfl], fun i h0 h1 => ?_, fun i h0 h1 h => ?_, fun a h0 h1 ha hta => ?_, fun q i q0 q1 h0 h1 hdq => ?_, fun q i q0 q1 hdq => ?_, ?_⟩
  · rw [hall i h0 h1]; split <;> omega
  · rw [hd i h0 h1] at h; cases h
  · rw [hall a h0 h1, if_neg ha] at hta; omega
  · rw [hd q q0 q1] at hdq; cases hdq
  · rw [hd q q0 q1] at hdq; cases hdq
  · simp [List.count_replicate]
end
section walk
variable {ρ : Type} {P : Nat} {near : List (List Int)} {wt : Int → Int → Int} {s : Int}
/-- The place that is next. -/
theorem y7c (hP : P ≤ 512) (A : Nat → Int → Int → Option ρ) (fin : Int → Option ρ) (t : List Int) (d : List Bool) (ht : t.length = P) (hd : d.length = P)
    (stp : ∀ n p i, A (n + 1) p i = (if (decide ((i : Int) < (P : Int))) = true then (ck ((0 : Int) ≤ i ∧ i < (t.length : Int)) (ck (((decide ((0 : Int) ≤ (gt t i))) = true) → (0 : Int) ≤ i ∧ i < (d.length : Int)) (ck ((((decide ((0 : Int) ≤ (gt t i))) && (!(gt d i))) = true ∧ (decide ((p : Int) < 0)) = false) → (0 : Int) ≤ i ∧ i < (t.length : Int)) (ck ((((decide ((0 : Int) ≤ (gt t i))) && (!(gt d i))) = true ∧ (decide ((p : Int) < 0)) = false) → (0 : Int) ≤ p ∧ p < (t.length : Int)) (if (((decide ((0 : Int) ≤ (gt t i))) && (!(gt d i))) && ((decide ((p : Int) < 0)) || (decide (((gt t i) : Int) < (gt t p))))) = true then (A n i (W (i + 1))) else (A n p (W (i + 1)))))))) else fin p)) (n : Nat) (hn : P < n) :
    ∃ p, A n (-1) 0 = fin p ∧ ((p = -1 ∧ ∀ i : Int, 0 ≤ i → i < (P : Int) → 0 ≤ gt t i → gt d i = true) ∨ (0 ≤ p ∧ p < (P : Int) ∧ 0 ≤ gt t p ∧ gt d p = false ∧ ∀ i : Int, 0 ≤ i → i < (P : Int) → 0 ≤ gt t i → gt d i = false → gt t p ≤ gt t i)) := by
  refine z04 (fun n i (p : Int) => A n p i) P (fun i p => (p = -1 ∧ ∀ j : Int, 0 ≤ j → j < (i : Int) → 0 ≤ gt t j → gt d j = true) ∨ (0 ≤ p ∧ p < (i : Int) ∧ 0 ≤ gt t p ∧ gt d p = false ∧ ∀ j : Int, 0 ≤ j → j < (i : Int) → 0 ≤ gt t j → gt d j = false → gt t p ≤ gt t j))
    (fun o => ∃ p, o = fin p ∧ ((p = -1 ∧ ∀ i : Int, 0 ≤ i → i < (P : Int) → 0 ≤ gt t i → gt d i = true) ∨ (0 ≤ p ∧ p < (P : Int) ∧ 0 ≤ gt t p ∧ gt d p = false ∧ ∀ i : Int, 0 ≤ i → i < (P : Int) → 0 ≤ gt t i → gt d i = false → gt t p ≤ gt t i))) ?_ ?_ n (-1) (.inl ⟨rfl, fun j h0 h1 => by omega⟩) hn
  · intro n i p hi hI hs
    rw [stp, if_pos (by simp; omega), z6 ⟨by omega, by omega⟩, z6 (fun _ => ⟨by omega, by omega⟩), z6 (fun _ => ⟨by omega, by omega⟩), W_id (by omega) (by omega)]
    have hpr : (decide ((p : Int) < 0)) = false → (0 : Int) ≤ p ∧ p < (t.length : Int) := by
      intro h
      simp only [decide_eq_false_iff_not] at h
      rcases hI with ⟨rfl, _⟩ | ⟨h1, h2, _⟩
      · omega
      · exact ⟨h1, by omega⟩
    rw [z6 (fun h => hpr h.2)]
    have split_j : ∀ j : Int, j < ((i + 1 : Nat) : Int) → j < (i : Int) ∨ j = (i : Int) := fun j h => by omega
    by_cases c : (0 ≤ gt t (i : Int) ∧ gt d (i : Int) = false) ∧ (p < 0 ∨ gt t (i : Int) < gt t p)
    · rw [if_pos (by simpa using c)]
      refine hs _ (.inr ⟨by omega, by omega, c.1.1, c.1.2, fun j h0 h1 htj hdj => ?_⟩)
      rcases split_j j h1 with h2 | rfl
      · rcases hI with ⟨_, h3⟩ | ⟨q0, _, _, _, h3⟩
        · have := h3 j h0 h2 htj; rw [hdj] at this; cases this
        · have := h3 j h0 h2 htj hdj
          have := c.2.resolve_left (by omega)
          omega
      · exact Int.le_refl _
    · rw [if_neg (by simpa using c)]
      refine hs p ?_
      rcases hI with ⟨rfl, h3⟩ | ⟨q0, q1, q2, q3, h3⟩
      · refine .inl ⟨rfl, fun j h0 h1 htj => ?_⟩
        rcases split_j j h1 with h2 | rfl
        · exact h3 j h0 h2 htj
        · cases hdi : gt d (i : Int) with
          | true => rfl
          | false => exact absurd ⟨⟨htj, hdi⟩, .inl (by omega)⟩ c
      · refine .inr ⟨q0, by omega, q2, q3, fun j h0 h1 htj hdj => ?_⟩
        rcases split_j j h1 with h2 | rfl
        · exact h3 j h0 h2 htj hdj
        · rcases Int.lt_or_le (gt t (i : Int)) (gt t p) with h4 | h4
          · exact absurd ⟨⟨htj, hdj⟩, .inr h4⟩ c
          · exact h4
  · intro n p hI
    rw [stp, if_neg (by simp)]
    exact ⟨p, rfl, hI⟩
/-- The neighbours of a place. -/
theorem y7i (hG : Gr P near wt) {p : Int} (hp : 0 ≤ p) (hp' : p < (P : Int)) {k : Nat} (hk : k ≤ 512) {t0 : List Int} {d : List Bool} (hD : DI P near wt s k t0 d) (hp0 : 0 ≤ gt t0 p) (B : Nat → Int → List Int → Option ρ) (K : List Int → Option ρ) (nb : List Int) (hnb : nb = gt near p) (E : Nat) (lg : Int → Int) (mins : Int → Int)
    (hlg : ∀ q ∈ nb, 0 ≤ lg q ∧ lg q < (E : Int) ∧ mins (lg q) = wt p q)
    (stp : ∀ n i t, B (n + 1) i t = (if (decide ((i : Int) < (nb.length : Int))) = true then (ck ((0 : Int) ≤ i ∧ i < (nb.length : Int)) (ck ((0 : Int) ≤ p ∧ p < (t.length : Int)) (ck ((0 : Int) ≤ lg (gt nb i) ∧ lg (gt nb i) < (E : Int)) (ck ((0 : Int) ≤ (gt nb i) ∧ (gt nb i) < (t.length : Int)) (ck (((decide (((gt t (gt nb i)) : Int) < 0)) = false) → (0 : Int) ≤ (gt nb i) ∧ (gt nb i) < (t.length : Int)) (if ((decide (((gt t (gt nb i)) : Int) < 0)) || (decide (((W ((gt t p) + mins (lg (gt nb i)))) : Int) < (gt t (gt nb i))))) = true then (ck ((0 : Int) ≤ (gt nb i) ∧ (gt nb i) < (t.length : Int)) (B n (W (i + 1)) (zy t (gt nb i) (W ((gt t p) + mins (lg (gt nb i))))))) else (B n (W (i + 1)) t))))))) else K t)) (n : Nat) (hn : nb.length < n) :
    ∃ t, B n 0 t0 = K t ∧ RndI P near wt s p k t0 d nb t := by
  have hsz : nb.length ≤ 5000 := by rw [hnb]; exact hG.size p hp hp'
  have hbp := (hD.bd p hp hp').resolve_left (by omega)
  refine z04 (fun n i t => B n i t) nb.length (fun i t => RndI P near wt s p k t0 d (nb.take i) t) (fun o => ∃ t, o = K t ∧ RndI P near wt s p k t0 d nb t) ?_ ?_ n t0 (zy0 hD) hn
  · intro n i t hi hI hs
    have hm : gt nb (i : Int) ∈ gt near p := by rw [← hnb]; exact z37 (by omega) (by omega)
    obtain ⟨q0, q1⟩ := hG.rng p _ hp hp' hm
    obtain ⟨w0, w1⟩ := hG.wt p _ hp hp' hm
    obtain ⟨l0, l1, l2⟩ := hlg (gt nb (i : Int)) (by rw [hnb]; rw [hnb] at hm; exact hm)
    have hlt := hI.lt
    have hst := zzv hG hp hp' hp0 hI hm
    rw [← z0b nb i hi] at hst
    have hr := hs _ hst
    have hown := hI.own
    rw [stp, if_pos (by simp; omega), z6 ⟨by omega, by omega⟩, z6 ⟨by omega, by omega⟩, z6 ⟨l0, l1⟩, z6 ⟨by omega, by omega⟩, z6 (fun _ => ⟨by omega, by omega⟩), l2, W_id (x := gt t p + _) (by omega) (by omega), W_id (by omega) (by omega)]
    generalize gt nb (i : Int) = q at *
    by_cases c : (decide (gt t q < 0) || decide (gt t p + wt p q < gt t q)) = true
    · rw [if_pos c] at hr ⊢
      rw [z6 ⟨by omega, by omega⟩]
      exact hr
    · rw [if_neg c] at hr ⊢
      exact hr
  · intro n t hI
    rw [stp, if_neg (by simp)]
    rw [List.take_length] at hI
    exact ⟨t, rfl, hI⟩
/-- All rounds. -/
theorem zzn (hG : Gr P near wt) (hs : 0 ≤ s) (hs' : s < (P : Int)) (M : Nat → List Int → List Bool → Option ρ) (fin : List Int → Option ρ) (φ : Nat)
    (rnd : ∀ n k t d, k ≤ 512 → DI P near wt s k t d → (∃ t', DF P near wt s t' ∧ M (n + 1) t d = fin t') ∨ (∃ t' p, 0 ≤ p ∧ p < (P : Int) ∧ DI P near wt s (k + 1) t' (zy d p true) ∧ M (n + 1) t d = M n t' (zy d p true))) :
    ∀ n k t d, DI P near wt s k t d → P < n + k → ∃ t', DF P near wt s t' ∧ M n t d = fin t' := by
  intro n
  induction n with
  | zero =>
    intro k t d h hn
    have hk : k ≤ P := by rw [← h.cnt, ← h.ld]; exact List.count_le_length
    omega
  | succ n ih =>
    intro k t d h hn
    have hk : k ≤ P := by rw [← h.cnt, ← h.ld]; exact List.count_le_length
    have := hG.small
    rcases rnd n k t d (by omega) h with h1 | ⟨t', p, _, _, h2, h3⟩
    · exact h1
    · rw [h3]
      exact ih (k + 1) t' _ h2 (by omega)
end walk
end Px
end
section
namespace Px
open Go
set_option linter.unusedVariables false
set_option linter.unusedSimpArgs false
section z06
variable (φ : Nat) (K : List Edge → Int → Int → Int → Int → zh → zh → List (List Int) → Ln → Option (Int × Int × Unit)) (x : zh) (a0 b0 : Int)
theorem z6f {i : Nat} (hi : i < x.edges.length) {P : Nat} {near : List (List Int)} {line : Ln} {a b : Int} (hl : near.length = P) (ha : 0 ≤ a) (ha' : a < (P : Int)) (hsz : (gt near a).length ≤ 10000) (hx : x.edges.length ≤ 2048) (hold : ∀ o, lget line a b = some o → 0 ≤ o ∧ o < (x.edges.length : Int)) :
    (if (!(lget line a b).isSome) = true then (ck ((0 : Int) ≤ a ∧ a < (near.length : Int)) (ck ((0 : Int) ≤ a ∧ a < (near.length : Int)) (ck ((a : Int) = a) (ck (fits ((gt near a).length + ([b]).length) 8) (ck ((0 : Int) ≤ a ∧ a < (near.length : Int)) (ck ((a : Int) = a) (z26 φ K i ((lget line a b).getD default) ((lget line a b).isSome) x.edges (x.edges.length : Int) i a0 b0 x (keyP a b) x (zy near a (gt near a ++ [b])) line))))))) else (z26 φ K i ((lget line a b).getD default) ((lget line a b).isSome) x.edges (x.edges.length : Int) i a0 b0 x (keyP a b) x near line)) =
    K x.edges (x.edges.length : Int) ((i : Int) + 1) a0 b0 x x (ent1 x.edges i a b (near, line)).1 (ent1 x.edges i a b (near, line)).2 := by
  have hW : W ((i : Int) + 1) = (i : Int) + 1 := W_id (by omega) (by omega)
  unfold z26 ent1
  simp only []
  cases h : lget line a b with
  | none =>
    simp only [Option.isSome_none, Bool.not_false, if_true, Option.getD_none, Bool.true_or]
    rw [z6 ⟨ha, by omega⟩, z6 ⟨ha, by omega⟩, z6 trivial, z6 (y1h (by simp; omega) (by omega)), z6 ⟨ha, by omega⟩, z6 trivial, z6 (by simp), z6 (by simp), hW]
  | some o =>
    have ho := hold o h
    simp only [Option.isSome_some, Bool.not_true, Bool.false_eq_true, if_false, Option.getD_some, Bool.false_or]
    rw [z6 (fun _ => ⟨by omega, by omega⟩), z6 (fun _ => ho), hW]
    by_cases c : decide ((gt x.edges (i : Int)).minutes < (gt x.edges o).minutes) = true
    · rw [if_pos c, if_pos c]
    · rw [if_neg c, if_neg c]
theorem zbf {i : Nat} (hi : i < x.edges.length) {P : Nat} {near : List (List Int)} {line : Ln} {a b : Int} (hl : near.length = P) (ha : 0 ≤ a) (ha' : a < (P : Int)) (hsz : (gt near a).length ≤ 10000) (hx : x.edges.length ≤ 2048) (hold : ∀ o, lget line a b = some o → 0 ≤ o ∧ o < (x.edges.length : Int)) :
    (if (!(lget line a b).isSome) = true then (ck ((0 : Int) ≤ a ∧ a < (near.length : Int)) (ck ((0 : Int) ≤ a ∧ a < (near.length : Int)) (ck ((a : Int) = a) (ck (fits ((gt near a).length + ([b]).length) 8) (ck ((0 : Int) ≤ a ∧ a < (near.length : Int)) (ck ((a : Int) = a) (z27 φ K i ((lget line a b).getD default) ((lget line a b).isSome) x.edges (x.edges.length : Int) i a0 b0 x (keyP a b) x (zy near a (gt near a ++ [b])) line))))))) else (z27 φ K i ((lget line a b).getD default) ((lget line a b).isSome) x.edges (x.edges.length : Int) i a0 b0 x (keyP a b) x near line)) =
    K x.edges (x.edges.length : Int) ((i : Int) + 1) a0 b0 x x (ent1 x.edges i a b (near, line)).1 (ent1 x.edges i a b (near, line)).2 := z6f φ K x a0 b0 hi hl ha ha' hsz hx hold
theorem z6g (hx : zja x) {i : Nat} (hi : i < x.edges.length) {near near1 : List (List Int)} {line : Ln} (old : Int) (sm : Bool) (hl : near1.length = x.places.length) (ho : sm = true → 0 ≤ old ∧ old < (x.edges.length : Int))
    (hsz : (gt near1 (gt x.edges (i : Int)).b).length ≤ 10000) (hline : ∀ a b o, lget line a b = some o → 0 ≤ o ∧ o < (x.edges.length : Int)) (line1 : Ln) (h1 : line1 = if (!sm || decide ((gt x.edges (i : Int)).minutes < (gt x.edges old).minutes)) = true then lset line (gt x.edges (i : Int)).a (gt x.edges (i : Int)).b i else line) :
    z2b φ K i old sm i x.edges (x.edges.length : Int) i a0 b0 x (keyP (gt x.edges (i : Int)).a (gt x.edges (i : Int)).b) (gt x.edges (i : Int)) x near1 line =
    K x.edges (x.edges.length : Int) ((i : Int) + 1) a0 b0 x x (ent1 x.edges i (gt x.edges (i : Int)).b (gt x.edges (i : Int)).a (near1, line1)).1 (ent1 x.edges i (gt x.edges (i : Int)).b (gt x.edges (i : Int)).a (near1, line1)).2 := by
  obtain ⟨e1, e2, e3, e4, e5, _⟩ := hx.ends (i := (i : Int)) (by omega) (by omega)
  unfold z2b
  rw [z6 (fun _ => ⟨by omega, by omega⟩), z6 (fun h => ho (by simpa using h))]
  by_cases c : (!sm || decide ((gt x.edges (i : Int)).minutes < (gt x.edges old).minutes)) = true
  · rw [if_pos c] at h1 ⊢
    subst h1
    refine z6f φ K x a0 b0 hi hl e3 e4 hsz hx.edges fun o h => ?_
    rw [zip, if_neg (fun q => e5 q.1.symm)] at h
    exact hline _ _ o h
  · rw [if_neg c] at h1 ⊢
    subst h1
    exact zbf φ K x a0 b0 hi hl e3 e4 hsz hx.edges fun o h => hline _ _ o h
end z06
section z06
variable (φ : Nat) (x : zh) (a0 b0 : Int)
theorem zdc (hx : zja x) (n : Nat) {i : Nat} (hi : i < x.edges.length) {s : List (List Int) × Ln} (h : HI x.edges x.places.length i s) :
    zm φ (n + 1) x.edges (x.edges.length : Int) i a0 b0 x x s.1 s.2 = zm φ n x.edges (x.edges.length : Int) ((i : Int) + 1) a0 b0 x x (entE x.edges i s).1 (entE x.edges i s).2 := by
  obtain ⟨e1, e2, e3, e4, e5, _⟩ := hx.ends (i := (i : Int)) (by omega) (by omega)
  have hE := hx.edges
  have hline : ∀ a b o, lget s.2 a b = some o → 0 ≤ o ∧ o < (x.edges.length : Int) := fun a b o ho => by
    obtain ⟨h1, h2, _⟩ := h.line _ _ _ ho
    exact ⟨h1, by omega⟩
  have hsa := h.size _ e1 e2
  have hsb := h.size _ e3 e4
  have hlen := h.len
  rw [zm, if_pos (by simp; omega), z6 ⟨by omega, by omega⟩]
  unfold entE
  generalize hs1 : ent1 x.edges i (gt x.edges (i : Int)).a (gt x.edges (i : Int)).b s = s1
  have hs1' := hs1
  unfold ent1 at hs1'
  cases hg : lget s.2 (gt x.edges (i : Int)).a (gt x.edges (i : Int)).b with
  | none =>
    have hg' : @mget (Nat → Int) Int ⟨beqA 2⟩ s.2 (upd (upd (fun _ => (default : Int)) 0 (gt x.edges (i : Int)).a) 1 (gt x.edges (i : Int)).b) = none := hg
    rw [hg] at hs1'
    simp only [Option.isSome_none, Bool.not_false, if_true, Option.getD_none, Bool.true_or] at hs1'
    rw [hg']
    simp only [Option.isSome_none, Bool.not_false, if_true, Option.getD_none]
    rw [z6 ⟨e1, by omega⟩, z6 ⟨e1, by omega⟩, z6 trivial, z6 (y1h (by simp; omega) (by omega)), z6 ⟨e1, by omega⟩, z6 trivial, ← hs1']
    refine z6g φ (zm φ n) x a0 b0 hx hi (near := s.1) _ _ (by rw [z13]; exact hlen) (fun h => by cases h) ?_ hline _ (by simp)
    rw [z0d _ _ _ _ e1 (by omega) e3, if_neg (fun q => e5 q.symm)]
    omega
  | some o =>
    have hg' : @mget (Nat → Int) Int ⟨beqA 2⟩ s.2 (upd (upd (fun _ => (default : Int)) 0 (gt x.edges (i : Int)).a) 1 (gt x.edges (i : Int)).b) = some o := hg
    rw [hg] at hs1'
    simp only [Option.isSome_some, Bool.not_true, Bool.false_eq_true, if_false, Option.getD_some, Bool.false_or] at hs1'
    rw [hg']
    simp only [Option.isSome_some, Bool.not_true, Bool.false_eq_true, if_false, Option.getD_some]
    rw [← hs1']
    exact z6g φ (zm φ n) x a0 b0 hx hi (near := s.1) _ _ hlen (fun _ => hline _ _ _ hg) (by omega) hline _ (by simp)
theorem zda (hx : zja x) (hφ : 5000 < φ) (line : Ln) : z0x φ φ ((zef x).length : Int) 0 a0 b0 (zef x) x line = (ck (z0c (x.places.length : Int) 8) (ck (z0c (((List.replicate ((x.places.length : Int) : Int).toNat (default : Int)).length : Int)) 1) (zw φ φ a0 (((List.replicate ((x.places.length : Int) : Int).toNat (default : Int)).length : Int)) 0 b0 x (List.replicate ((x.places.length : Int) : Int).toNat (default : Int)) ((List.replicate (((List.replicate ((x.places.length : Int) : Int).toNat (default : Int)).length : Int) : Int).toNat (default : Bool))) (z3r x) line))) := by
  have hl0 : (zef x).length = x.places.length := (zcx hx x.edges.length (Nat.le_refl _)).len
  have hP := hx.places
  have hE := hx.edges
  obtain ⟨n0, hn0⟩ : ∃ n0, n0 = x.places.length := ⟨_, rfl⟩
  rw [← hn0] at hl0 hP
  rw [hl0]
  have hfin : ∀ o : List (List Int), o.length = n0 → (∀ w : Nat, w < n0 → gt o (w : Int) = zcf (fun a b => decide (a < b)) (gt (zef x) (w : Int))) → o = z3r x := by
    intro o ho hw
    unfold z3r
    refine List.ext_getElem (by simp [ho, hl0]) fun i h1 h2 => ?_
    have := hw i (by omega)
    rw [z5b h1, z5b (by omega)] at this
    simpa using this
  refine z04 (fun n i o => z0x φ n (n0 : Int) i a0 b0 o x line) n0 (fun i o => o.length = n0 ∧ ∀ w : Nat, w < n0 → gt o (w : Int) = if w < i then zcf (fun a b => decide (a < b)) (gt (zef x) (w : Int)) else gt (zef x) (w : Int)) (fun o => o = (ck (z0c (x.places.length : Int) 8) (ck (z0c (((List.replicate ((x.places.length : Int) : Int).toNat (default : Int)).length : Int)) 1) (zw φ φ a0 (((List.replicate ((x.places.length : Int) : Int).toNat (default : Int)).length : Int)) 0 b0 x (List.replicate ((x.places.length : Int) : Int).toNat (default : Int)) ((List.replicate (((List.replicate ((x.places.length : Int) : Int).toNat (default : Int)).length : Int) : Int).toNat (default : Bool))) (z3r x) line)))) ?_ ?_ φ (zef x) ⟨hl0, fun w hw => by rw [if_neg (by omega)]⟩ (by omega)
  · intro n i o hi ⟨ho1, ho2⟩ hs
    have hsz := (zcx hx x.edges.length (Nat.le_refl _)).size (i : Int) (by omega) (by omega)
    have hsz : (gt (zef x) (i : Int)).length ≤ 2 * x.edges.length := hsz
    have hso : zmh (gt (zef x) (i : Int)) = some (zcf (fun a b => decide (a < b)) (gt (zef x) (i : Int))) := by
      unfold zmh zhx; rw [if_pos (by omega)]
    rw [z0x, if_pos (by simp; omega), z6 ⟨by omega, by omega⟩, z6 ⟨by omega, by omega⟩, z6 rfl, ho2 i hi, if_neg (by omega), hso, Option.bind_some, W_id (by omega) (by omega)]
    refine hs _ ⟨by rw [z13]; exact ho1, fun w hw => ?_⟩
    rw [z0d _ _ _ _ (by omega) (by omega) (by omega)]
    by_cases e : w = i
    · subst e; rw [if_pos rfl, if_pos (by omega)]
    · rw [if_neg (by omega), ho2 w hw]
      by_cases h2 : w < i
      · rw [if_pos h2, if_pos (by omega)]
      · rw [if_neg h2, if_neg (by omega)]
  · intro n o ⟨ho1, ho2⟩
    have := hfin o ho1 fun w hw => by rw [ho2 w hw, if_pos hw]
    subst this
    rw [z0x, if_neg (by simp)]
theorem zbw (hx : zja x) (hφ : 5000 < φ) : zm φ φ x.edges (x.edges.length : Int) 0 a0 b0 x x (List.replicate ((x.places.length : Int)).toNat (default : List Int)) [] = (ck (z0c (x.places.length : Int) 8) (ck (z0c (((List.replicate ((x.places.length : Int) : Int).toNat (default : Int)).length : Int)) 1) (zw φ φ a0 (((List.replicate ((x.places.length : Int) : Int).toNat (default : Int)).length : Int)) 0 b0 x (List.replicate ((x.places.length : Int) : Int).toNat (default : Int)) ((List.replicate (((List.replicate ((x.places.length : Int) : Int).toNat (default : Int)).length : Int) : Int).toNat (default : Bool))) (z3r x) (z99 x)))) := by
  have hE := hx.edges
  have h0 : (List.replicate ((x.places.length : Int)).toNat (default : List Int), ([] : Ln)) = zgy x.edges x.places.length 0 := by simp [zgy]
  refine z04 (fun n i (s : List (List Int) × Ln) => zm φ n x.edges (x.edges.length : Int) i a0 b0 x x s.1 s.2) x.edges.length (fun i s => s = zgy x.edges x.places.length i) (fun o => o = (ck (z0c (x.places.length : Int) 8) (ck (z0c (((List.replicate ((x.places.length : Int) : Int).toNat (default : Int)).length : Int)) 1) (zw φ φ a0 (((List.replicate ((x.places.length : Int) : Int).toNat (default : Int)).length : Int)) 0 b0 x (List.replicate ((x.places.length : Int) : Int).toNat (default : Int)) ((List.replicate (((List.replicate ((x.places.length : Int) : Int).toNat (default : Int)).length : Int) : Int).toNat (default : Bool))) (z3r x) (z99 x))))) ?_ ?_ φ (List.replicate ((x.places.length : Int)).toNat (default : List Int), []) h0 (by omega)
  · intro n i s hi hs hk
    subst hs
    rw [zdc φ x a0 b0 hx n hi (zcx hx i (by omega))]
    exact hk _ rfl
  · intro n s hs
    subst hs
    rw [zm, if_neg (by simp)]
    exact zda φ x a0 b0 hx hφ (z99 x)
end z06
section network_Route
variable (φ : Nat) (K : List Edge → Int → Int → Int → Int → zh → zh → List (List Int) → Ln → Option ((List Int) × Int × Unit)) (x : zh) (a0 b0 : Int)
end network_Route
section network_Route
variable (φ : Nat) (x : zh) (a0 b0 : Int)
end network_Route
section network_Shares
end network_Shares
section network_Shares
end network_Shares
end Px
end
section
namespace Px
open Go
set_option linter.unusedVariables false
set_option linter.unusedSimpArgs false
section z06
variable (φ : Nat) (x : zh) (a0 b0 : Int)
theorem zbj (hx : zja x) (hφ : 800000 < φ) (hs : 0 ≤ a0) (hs' : a0 < (x.places.length : Int)) : ∃ t, DF x.places.length (z3r x) (wtN x) a0 t ∧
    zw φ φ a0 (((List.replicate ((x.places.length : Int) : Int).toNat (default : Int)).length : Int)) 0 b0 x (List.replicate ((x.places.length : Int) : Int).toNat (default : Int)) ((List.replicate (((List.replicate ((x.places.length : Int) : Int).toNat (default : Int)).length : Int) : Int).toNat (default : Bool)))  (z3r x) (z99 x) = (ck ((0 : Int) ≤ b0 ∧ b0 < (t.length : Int)) (if (decide (((gt t b0) : Int) < 0)) = true then (some (0, 80, ())) else (some ((gt t b0), 0, ())))) := by
  have hG := grN hx
  have hP := hx.places
  have hrep : (List.replicate ((x.places.length : Int) : Int).toNat (default : Int)).length = x.places.length := by simp
  rw [hrep]
  have e1 : ((x.places.length : Int)).toNat = x.places.length := by simp
  rw [e1]
  -- the search
  have search : ∀ t : List Int, t.length = x.places.length → (∀ i : Int, 0 ≤ i → i < (x.places.length : Int) → gt t i = if i = a0 then 0 else -1) →
      ∃ t', DF x.places.length (z3r x) (wtN x) a0 t' ∧ zp φ φ b0 x t (List.replicate x.places.length (default : Bool))  (z3r x) (z99 x) = (ck ((0 : Int) ≤ b0 ∧ b0 < (t'.length : Int)) (if (decide (((gt t' b0) : Int) < 0)) = true then (some (0, 80, ())) else (some ((gt t' b0), 0, ())))) := by
    intro t ht hall
    refine zzn hG hs hs' (fun n t d => zp φ n b0 x t d  (z3r x) (z99 x)) (fun t' => (ck ((0 : Int) ≤ b0 ∧ b0 < (t'.length : Int)) (if (decide (((gt t' b0) : Int) < 0)) = true then (some (0, 80, ())) else (some ((gt t' b0), 0, ()))))) φ ?_ φ 0 t _ (zzx hs hs' t ht hall) (by omega)
    intro n k t d hk hD
    obtain ⟨p, hp1, hp2⟩ := y7c hP (fun m p i => z0m φ (zp φ n) m p (x.places.length : Int) i b0 x t d  (z3r x) (z99 x))
      (fun p => (if (decide ((p : Int) < 0)) = true then (ck ((0 : Int) ≤ b0 ∧ b0 < (t.length : Int)) (if (decide (((gt t b0) : Int) < 0)) = true then (some (0, 80, ())) else (some ((gt t b0), 0, ())))) else (ck ((0 : Int) ≤ p ∧ p < (d.length : Int)) (ck ((0 : Int) ≤ p ∧ p < ((z3r x).length : Int)) (ck ((0 : Int) ≤ p ∧ p < ((z3r x).length : Int)) (ck ((p : Int) = p) (z0l φ (zp φ n) φ p ((gt (z3r x) p).length : Int) 0 b0 x t (zy d p true) (gt (z3r x) p)  (z3r x) p (z99 x))))))))
      t d hD.lt hD.ld (fun m p i => by rw [z0m]) φ (by omega)
    have hM : zp φ (n + 1) b0 x t d  (z3r x) (z99 x) = z0m φ (zp φ n) φ (-1) (x.places.length : Int) 0 b0 x t d  (z3r x) (z99 x) := by
      rw [zp, hD.lt]
    simp only [] at hp1
    simp only [hM]
    rw [hp1]
    rcases hp2 with ⟨rfl, hall⟩ | ⟨p0, p1, p2, p3, p4⟩
    · left
      refine ⟨t, y8q hG hD hall, ?_⟩
      rw [if_pos (by decide)]
    · right
      rw [if_neg (by simp; omega), z6 ⟨p0, by rw [hD.ld]; exact p1⟩, z6 ⟨p0, by rw [hG.len]; exact p1⟩, z6 ⟨p0, by rw [hG.len]; exact p1⟩, z6 trivial]
      obtain ⟨t', h1, h2⟩ := y7i hG p0 p1 hk hD p2 (fun m i t => z0l φ (zp φ n) m p ((gt (z3r x) p).length : Int) i b0 x t (zy d p true) (gt (z3r x) p)  (z3r x) p (z99 x))
        (fun t => zp φ n b0 x t (zy d p true)  (zy (z3r x) p (gt (z3r x) p)) (z99 x)) (gt (z3r x) p) rfl x.edges.length (fun q => (lget (z99 x) p q).getD default) (fun i => (gt x.edges i).minutes)
        (fun q hq => by
          obtain ⟨i, hi, i0, i1, _⟩ := zmd hx p0 p1 hq
          rw [hi]
          exact ⟨i0, i1, by unfold wtN; rw [hi]⟩) (fun m i t => by rw [z0l]) φ (by have := hG.size p p0 p1; omega)
      refine ⟨t', p, p0, p1, zyn hG p0 p1 hD hs hs' p2 p3 p4 h2, ?_⟩
      rw [zu1 _ p0 (by rw [hG.len]; exact p1)] at h1
      exact h1
  -- all times are unknown at first
  refine z04 (fun n i t => zw φ n a0 (x.places.length : Int) i b0 x t (List.replicate x.places.length (default : Bool))  (z3r x) (z99 x)) x.places.length (fun i t => t.length = x.places.length ∧ ∀ j : Int, 0 ≤ j → j < (i : Int) → gt t j = -1) (fun o => ∃ t, DF x.places.length (z3r x) (wtN x) a0 t ∧ o = (ck ((0 : Int) ≤ b0 ∧ b0 < (t.length : Int)) (if (decide (((gt t b0) : Int) < 0)) = true then (some (0, 80, ())) else (some ((gt t b0), 0, ()))))) ?_ ?_ φ (List.replicate x.places.length (default : Int)) ⟨by simp, fun j h0 h1 => by omega⟩ (by omega)
  · intro n i t hi ⟨h1, h2⟩ hs
    rw [zw, if_pos (by simp; omega), z6 ⟨by omega, by omega⟩, W_id (by omega) (by omega)]
    refine hs _ ⟨by rw [z13]; exact h1, fun j j0 j1 => ?_⟩
    rw [z0d _ _ _ _ (by omega) (by omega) j0]
    by_cases e : j = (i : Int)
    · rw [if_pos e]
    · rw [if_neg e]; exact h2 j j0 (by omega)
  · intro n t ⟨h1, h2⟩
    rw [zw, if_neg (by simp), z6 ⟨hs, by omega⟩]
    obtain ⟨t', h3, h4⟩ := search (zy t a0 0) (by rw [z13]; exact h1) (fun i i0 i1 => by
      rw [z0d _ _ _ _ hs (by omega) i0]
      split
      · rfl
      · exact h2 i i0 i1)
    exact ⟨t', h3, h4⟩
end z06
section network_Route
variable (φ : Nat) (x : zh) (a0 b0 : Int)
end network_Route
theorem zf9 {n b : Nat} (h : n ≤ 100000000) (hb : b ≤ 1000) : fits n b := by
  unfold fits
  have : n * b ≤ 100000000 * 1000 := Nat.mul_le_mul h hb
  omega

/-- Between answers. -/
theorem zsw (φ : Nat) (hφ : 800000 < φ) (x : zh) (a b : Int) : ∃ t e, z06 φ x a b = some (t, e, ()) ∧ 0 ≤ t ∧ t ≤ 51200000 := by
  unfold z06
  rw [zb6 _ (by omega), Option.bind_some]
  by_cases hn : z9g x = 0
  case neg =>
    rw [if_pos (by simpa using hn), if_pos (by simpa using hn)]
    exact ⟨0, _, rfl, by omega, by omega⟩
  have hx := y8m hn
  have hP := hx.places
  rw [if_neg (by simp [hn])]
  obtain ⟨m, rfl⟩ : ∃ m, φ = m + 3 := ⟨φ - 3, by omega⟩
  have g0 : gt [a, b] 0 = a := rfl
  have g1 : gt [a, b] 1 = b := rfl
  have L : ((([a, b] : List Int).length : Nat) : Int) = 2 := rfl
  have step : ∀ n i, z1f (m + 3) (n + 1) 2 i a b x [a, b] x [] = (if (decide ((i : Int) < 2)) = true then (ck ((0 : Int) ≤ i ∧ i < (2 : Int)) (if ((decide (((gt [a, b] i) : Int) < 0)) || (decide (((x.places.length : Int) : Int) ≤ (gt [a, b] i)))) = true then (some (0, 1, ())) else (z1f (m + 3) n 2 (W (i + 1)) a b x [a, b] x []))) else (ck (z0c (x.places.length : Int) 24) (zm (m + 3) (m + 3) x.edges (x.edges.length : Int) 0 a b x x (List.replicate ((x.places.length : Int) : Int).toNat (default : (List Int))) ([] : List ((Nat → Int) × Int))))) := fun n i => by rw [z1f]; rfl
  rw [L, show m + 3 = (m + 2) + 1 from rfl, step, if_pos (by decide), z6 (by decide), g0]
  by_cases ha : 0 ≤ a ∧ a < (x.places.length : Int)
  case neg =>
    rw [if_pos (by simp; omega)]
    exact ⟨0, 1, rfl, by omega, by omega⟩
  rw [if_neg (by simp; omega), show W (0 + 1) = 1 by rfl, show m + 2 = (m + 1) + 1 from rfl, step, if_pos (by decide), z6 (by decide), g1]
  by_cases hb : 0 ≤ b ∧ b < (x.places.length : Int)
  case neg =>
    rw [if_pos (by simp; omega)]
    exact ⟨0, 1, rfl, by omega, by omega⟩
  rw [if_neg (by simp; omega), show W (1 + 1) = 2 by rfl, step, if_neg (by decide), z6 (mk_t _ _ (by omega) (by omega) (by omega)), zbw (m + 3) x a b hx (by omega), z6 (mk_t _ _ (by omega) (by omega) (by omega)), z6 (mk_t _ _ (by omega) (by simp; omega) (by omega))]
  obtain ⟨t, h1, h2⟩ := zbj (m + 3) x a b hx (by omega) ha.1 ha.2
  rw [h2, z6 ⟨hb.1, by rw [h1.lt]; exact hb.2⟩]
  rcases h1.bd b hb.1 hb.2 with h3 | ⟨h3, h4⟩
  · rw [if_pos (by simp; omega)]
    exact ⟨0, 80, rfl, by omega, by omega⟩
  · rw [if_neg (by simp; omega)]
    exact ⟨_, 0, rfl, h3, h4⟩
end Px
end
section
namespace Px
set_option linter.unusedVariables false
namespace BF
section
variable {β : Type} (si sj : β → Nat) (sw : β → Int)
abbrev X := Nat → Option Int
def ltO (a : Int) : Option Int → Bool
  | none => true
  | some b => decide (a < b)
def imp (x : X) (b : β) : Bool := match x (si b) with
  | none => false
  | some a => ltO (a + sw b) (x (sj b))
def rlx (x : X) (b : β) : X := match x (si b) with
  | none => x
  | some a => if ltO (a + sw b) (x (sj b)) = true then fun v => if v = sj b then some (a + sw b) else x v else x
def rnd (L : List β) (x : X) : X := L.foldl (rlx si sj sw) x
def rnds (L : List β) (x : X) : Nat → X
  | 0 => x
  | n + 1 => rnd si sj sw L (rnds L x n)
/-- Walks: their length, their end, their sum. -/
inductive Wk (x0 : X) (L : List β) : Nat → Nat → Int → Prop where
  | nil {v : Nat} {c : Int} : x0 v = some c → Wk x0 L 0 v c
  | step {m : Nat} {c : Int} {b : β} : Wk x0 L m (si b) c → b ∈ L → Wk x0 L (m + 1) (sj b) (c + sw b)
def le (o : Option Int) (c : Int) : Prop := ∃ a, o = some a ∧ a ≤ c
variable {si sj sw}
theorem rlx_not {x : X} {b : β} (h : imp si sj sw x b = false) : rlx si sj sw x b = x := by
  unfold imp at h; unfold rlx
  cases hx : x (si b) with
  | none => rfl
  | some a => rw [hx] at h; simp only at h ⊢; rw [if_neg (by rw [h]; simp)]
theorem rlx_imp {x : X} {b : β} (h : imp si sj sw x b = true) : ∃ a, x (si b) = some a ∧ ltO (a + sw b) (x (sj b)) = true ∧ rlx si sj sw x b = fun v => if v = sj b then some (a + sw b) else x v := by
  unfold imp at h; unfold rlx
  cases hx : x (si b) with
  | none => rw [hx] at h; cases h
  | some a => rw [hx] at h; simp only at h ⊢; exact ⟨a, rfl, h, by rw [if_pos h]⟩
theorem rlx_mono {x : X} {b : β} {v : Nat} {c : Int} (h : le (x v) c) : le (rlx si sj sw x b v) c := by
  cases hi : imp si sj sw x b with
  | false => rw [rlx_not hi]; exact h
  | true =>
    obtain ⟨a, ha, hl, e⟩ := rlx_imp hi
    rw [e]
    simp only
    split
    · rename_i hv; subst hv
      obtain ⟨d, hd, hc⟩ := h
      rw [hd] at hl
      simp only [ltO, decide_eq_true_eq] at hl
      exact ⟨_, rfl, by omega⟩
    · exact h
theorem rlx_new {x : X} {b : β} {c : Int} (h : le (x (si b)) c) : le (rlx si sj sw x b (sj b)) (c + sw b) := by
  obtain ⟨a, ha, hc⟩ := h
  cases hi : imp si sj sw x b with
  | false =>
    rw [rlx_not hi]
    unfold imp at hi
    rw [ha] at hi
    simp only at hi
    cases hx : x (sj b) with
    | none => rw [hx] at hi; cases hi
    | some d => rw [hx] at hi; simp only [ltO, decide_eq_false_iff_not] at hi; exact ⟨d, rfl, by omega⟩
  | true =>
    obtain ⟨a', ha', hl, e⟩ := rlx_imp hi
    rw [ha] at ha'; cases ha'
    rw [e]
    exact ⟨_, if_pos rfl, by omega⟩
theorem rnd_mono {v : Nat} {c : Int} : ∀ (L : List β) (x : X), le (x v) c → le (rnd si sj sw L x v) c
  | [], x, h => h
  | b :: L, x, h => rnd_mono L _ (rlx_mono h)
theorem rnd_new {c : Int} : ∀ (L : List β) (x : X) (b : β), b ∈ L → le (x (si b)) c → le (rnd si sj sw L x (sj b)) (c + sw b)
  | b' :: L, x, b, hb, h => by
    rcases List.mem_cons.1 hb with rfl | hb
    · exact rnd_mono L _ (rlx_new h)
    · exact rnd_new L _ b hb (rlx_mono h)
theorem rnds_mono (L : List β) {x : X} {v : Nat} {c : Int} (h : le (x v) c) : ∀ n, le (rnds si sj sw L x n v) c
  | 0 => h
  | n + 1 => rnd_mono L _ (rnds_mono L h n)
theorem rnds_low {L : List β} {x0 : X} : ∀ (k m v : Nat) (c : Int), Wk si sj sw x0 L m v c → m ≤ k → le (rnds si sj sw L x0 k v) c
  | k, 0, v, c, h, hm => by cases h with | nil h => exact rnds_mono L ⟨c, h, Int.le_refl _⟩ k
  | k + 1, m + 1, v, c, h, hm => by
    cases h with
    | step h hb => exact rnd_new L _ _ hb (rnds_low k m _ _ h (by omega))
/-- Every value is the sum of a walk. -/
def Inv (si sj : β → Nat) (sw : β → Int) (x0 : X) (L : List β) (x : X) : Prop := ∀ v a, x v = some a → ∃ m, Wk si sj sw x0 L m v a
theorem Inv.rlx {x0 x : X} {L : List β} {b : β} (h : Inv si sj sw x0 L x) (hb : b ∈ L) : Inv si sj sw x0 L (rlx si sj sw x b) := by
  cases hi : imp si sj sw x b with
  | false => rw [rlx_not hi]; exact h
  | true =>
    obtain ⟨a, ha, hl, e⟩ := rlx_imp hi
    intro v d hv
    rw [e] at hv
    simp only at hv
    split at hv
    · rename_i hj; subst hj
      cases hv
      obtain ⟨m, hm⟩ := h _ _ ha
      exact ⟨_, .step hm hb⟩
    · exact h v d hv
theorem Inv.rnd {x0 : X} {L : List β} : ∀ (M : List β) (x : X), (∀ b ∈ M, b ∈ L) → Inv si sj sw x0 L x → Inv si sj sw x0 L (rnd si sj sw M x)
  | [], x, _, h => h
  | b :: M, x, hM, h => Inv.rnd M _ (fun b hb => hM b (List.mem_cons_of_mem _ hb)) (h.rlx (hM b (List.mem_cons_self ..)))
theorem Inv.rnds {x0 : X} {L : List β} : ∀ n, Inv si sj sw x0 L (rnds si sj sw L x0 n)
  | 0 => fun v a h => ⟨0, .nil h⟩
  | n + 1 => Inv.rnd L _ (fun _ h => h) (Inv.rnds n)
theorem least {Q : Nat → Prop} : ∀ n, Q n → ∃ m, Q m ∧ ∀ k, Q k → m ≤ k := by
  intro n
  induction n using Nat.strongRecOn with
  | _ n ih =>
    intro h
    by_cases hk : ∃ k, k < n ∧ Q k
    · obtain ⟨k, hk, hq⟩ := hk; exact ih k hk hq
    · exact ⟨n, h, fun k hq => Nat.le_of_not_lt fun hl => hk ⟨k, hl, hq⟩⟩
/-- A solution: no zbc is broken; all walks are bounded below by it. -/
structure Feas (si sj : β → Nat) (sw : β → Int) (x0 : X) (L : List β) (n : Nat) : Prop where
  ex : ∃ (p : Nat → Int) (C : Int), (∀ b ∈ L, p (sj b) ≤ p (si b) + sw b) ∧ ∀ v c, x0 v = some c → p v - c ≤ C
  j : ∀ b ∈ L, sj b < n
  z : ∀ v c, x0 v = some c → v < n
theorem Wk.lt {x0 : X} {L : List β} {n : Nat} (F : Feas si sj sw x0 L n) {m v : Nat} {c : Int} (h : Wk si sj sw x0 L m v c) : v < n := by
  cases h with
  | nil h => exact F.z _ _ h
  | step h hb => exact F.j _ hb
theorem Wk.low {x0 : X} {L : List β} {p : Nat → Int} {C : Int} (h1 : ∀ b ∈ L, p (sj b) ≤ p (si b) + sw b) (h2 : ∀ v c, x0 v = some c → p v - c ≤ C) : ∀ {m v : Nat} {c : Int}, Wk si sj sw x0 L m v c → p v - c ≤ C
  | 0, _, _, .nil h => h2 _ _ h
  | _ + 1, _, _, .step h hb => by have := Wk.low h1 h2 h; have := h1 _ hb; omega
/-- The least sum, and the least length among those. -/
structure Mn (si sj : β → Nat) (sw : β → Int) (x0 : X) (L : List β) (v m : Nat) (c : Int) : Prop where
  w : Wk si sj sw x0 L m v c
  lo : ∀ m' c', Wk si sj sw x0 L m' v c' → c ≤ c'
  sh : ∀ m', Wk si sj sw x0 L m' v c → m ≤ m'
theorem Mn.ex {x0 : X} {L : List β} {n : Nat} (F : Feas si sj sw x0 L n) {m v : Nat} {c : Int} (h : Wk si sj sw x0 L m v c) : ∃ m c, Mn si sj sw x0 L v m c := by
  obtain ⟨p, C, h1, h2⟩ := F.ex
  obtain ⟨k, ⟨m1, c1, hk, hw⟩, hl⟩ := least (Q := fun k => ∃ m c, (C - (p v - c)).toNat = k ∧ Wk si sj sw x0 L m v c) _ ⟨m, c, rfl, h⟩
  obtain ⟨m2, hm, hm2⟩ := least (Q := fun m => Wk si sj sw x0 L m v c1) m1 hw
  refine ⟨m2, c1, hm, fun m' c' h' => ?_, hm2⟩
  have := hl _ ⟨m', c', rfl, h'⟩
  have := Wk.low h1 h2 hw
  have := Wk.low h1 h2 h'
  omega
theorem Mn.pred {x0 : X} {L : List β} {v m : Nat} {c : Int} (h : Mn si sj sw x0 L v (m + 1) c) : ∃ u d, Mn si sj sw x0 L u m d := by
  obtain ⟨w, hc, hm⟩ := h
  cases w with
  | @step _ d b hw hb =>
    refine ⟨si b, d, hw, fun m' c' h' => ?_, fun m' h' => ?_⟩
    · have := hc _ _ (.step h' hb); omega
    · have := hm _ (.step h' hb); omega
theorem Mn.all {x0 : X} {L : List β} : ∀ {m v : Nat} {c : Int}, Mn si sj sw x0 L v m c → ∀ k, k ≤ m → ∃ u d, Mn si sj sw x0 L u k d
  | 0, v, c, h, k, hk => by
    have : k = 0 := by omega
    subst this
    exact ⟨v, c, h⟩
  | m + 1, v, c, h, k, hk => by
    by_cases e : k = m + 1
    · subst e; exact ⟨v, c, h⟩
    · obtain ⟨u, d, h'⟩ := h.pred; exact Mn.all h' k (by omega)
theorem Mn.uniq {x0 : X} {L : List β} {v m m' : Nat} {c c' : Int} (h : Mn si sj sw x0 L v m c) (h' : Mn si sj sw x0 L v m' c') : c = c' ∧ m = m' := by
  have e : c = c' := Int.le_antisymm (h.lo _ _ h'.w) (h'.lo _ _ h.w)
  subst e
  exact ⟨rfl, Nat.le_antisymm (h.sh _ h'.w) (h'.sh _ h.w)⟩
theorem holes : ∀ (n M : Nat) (R : Nat → Nat → Prop), (∀ k k' u, R k u → R k' u → k = k') → (∀ k, k < M → ∃ u, u < n ∧ R k u) → M ≤ n
  | 0, M, R, _, h => by
    cases M with
    | zero => exact Nat.le_refl _
    | succ M => obtain ⟨u, hu, _⟩ := h 0 (by omega); omega
  | n + 1, M, R, hR, h => by
    by_cases hk : ∃ k, k < M ∧ R k n
    · obtain ⟨k0, hk0, hr⟩ := hk
      have := holes n (M - 1) (fun k u => R (if k < k0 then k else k + 1) u) (fun k k' u h1 h2 => by
        have := hR _ _ _ h1 h2
        split at this <;> split at this <;> omega) fun k hk => by
        obtain ⟨u, hu, hru⟩ := h (if k < k0 then k else k + 1) (by split <;> omega)
        refine ⟨u, ?_, hru⟩
        by_cases e : u = n
        · subst e
          have := hR _ _ _ hru hr
          split at this <;> omega
        · omega
      omega
    · have := holes n M R hR fun k hk' => by
        obtain ⟨u, hu, hru⟩ := h k hk'
        exact ⟨u, by
          by_cases e : u = n
          · subst e; exact (hk ⟨k, hk', hru⟩).elim
          · omega, hru⟩
      omega
theorem Mn.short {x0 : X} {L : List β} {n : Nat} (F : Feas si sj sw x0 L n) {m v : Nat} {c : Int} (h : Mn si sj sw x0 L v m c) : m < n :=
  holes n (m + 1) (fun k u => ∃ d, Mn si sj sw x0 L u k d) (fun k k' u ⟨_, a⟩ ⟨_, b⟩ => (a.uniq b).2) fun k hk => by
    obtain ⟨u, d, hu⟩ := h.all k (by omega)
    exact ⟨u, hu.w.lt F, d, hu⟩
/-- After n - 1 rounds nothing is lowered any more. -/
theorem done {x0 : X} {L : List β} {n : Nat} (F : Feas si sj sw x0 L n) {k : Nat} (hk : n ≤ k + 1) : ∀ b ∈ L, imp si sj sw (rnds si sj sw L x0 k) b = false := by
  intro b hb
  unfold imp
  cases hx : rnds si sj sw L x0 k (si b) with
  | none => rfl
  | some a =>
    obtain ⟨m, hm⟩ := Inv.rnds k _ _ hx
    obtain ⟨m', d, hd⟩ := Mn.ex F (.step hm hb)
    obtain ⟨e, he, hed⟩ := rnds_low k m' _ _ hd.w (by have := hd.short F; omega)
    have := hd.lo _ _ (.step hm hb)
    rw [he]
    simp only [ltO, decide_eq_false_iff_not]
    omega
/-- No zbc lowers anything. -/
def Fix (si sj : β → Nat) (sw : β → Int) (L : List β) (x : X) : Prop := ∀ b ∈ L, imp si sj sw x b = false
theorem Fix.le {L : List β} {x : X} (h : Fix si sj sw L x) {b : β} (hb : b ∈ L) {a : Int} (ha : x (si b) = some a) : ∃ d, x (sj b) = some d ∧ d ≤ a + sw b := by
  have := h b hb
  unfold imp at this
  rw [ha] at this
  simp only at this
  cases hx : x (sj b) with
  | none => rw [hx] at this; cases this
  | some d => rw [hx] at this; simp only [ltO, decide_eq_false_iff_not] at this; exact ⟨d, rfl, by omega⟩
end
end BF
end Px
end
section
namespace Px
open Go
set_option linter.unusedVariables false
set_option linter.unusedSimpArgs false
def zyx (e : Edge) (a b : Int) : Prop := (e.a = a ∧ e.b = b) ∨ (e.a = b ∧ e.b = a)
instance (e : Edge) (a b : Int) : Decidable (zyx e a b) := inferInstanceAs (Decidable (_ ∨ _))
/-- One direction of a line. -/
def ryl (t : List Int) (a b m : Int) : List Int := if 0 ≤ gt t a ∧ (gt t b < 0 ∨ gt t a + m < gt t b) then zy t b (gt t a + m) else t
/-- Both directions of a line, as the reference takes them. -/
def rst (t : List Int) (e : Edge) : List Int := ryl (ryl t e.a e.b e.minutes) e.b e.a e.minutes
end Px
end
section
namespace Px
open Go
set_option linter.unusedVariables false
set_option linter.unusedSimpArgs false
def chF (t : List Int) (e : Edge) : Bool := (gt (rst t e) e.a != gt t e.a) || (gt (rst t e) e.b != gt t e.b)
def rnT (es : List Edge) (t : List Int) : Nat → List Int
  | 0 => t
  | m + 1 => rst (rnT es t m) (gt es (m : Int))
def fl (es : List Edge) (t : List Int) : Nat → Bool
  | 0 => false
  | m + 1 => fl es t m || chF (rnT es t m) (gt es (m : Int))
end Px
end
section
namespace Px
open Go
set_option linter.unusedVariables false
set_option linter.unusedSimpArgs false
def okPl (x : zh) (a : Int) : Prop := 0 ≤ a ∧ a < (x.places.length : Int)
section
variable {φ : Nat} (hφ : 800000 < φ) {x : zh} (hn : z9g x = 0)
include hφ hn
end
end Px
end
section
namespace Px
open Go
set_option linter.unusedVariables false
set_option linter.unusedSimpArgs false
theorem zit (φ : Nat) : ∀ (n m N : Nat), m ≤ N → N < n + m → 1 ≤ m ∨ N = 0 → N ≤ 5000 → z36 φ n (m : Int) (List.replicate m (-1) ++ List.replicate (N - m) (default : Int)) = some (List.replicate N (-1), ())
  | 0, m, N, h1, h2, _, _ => by omega
  | n + 1, m, N, h1, h2, h3, h4 => by
    have hlen : (List.replicate m (-1 : Int) ++ List.replicate (N - m) (default : Int)).length = N := by simp; omega
    rw [z36, hlen]
    by_cases h : m < N
    · rw [if_pos (by simp; omega), z6 ⟨by omega, by omega, by omega⟩, z6 ⟨by omega, by omega, by omega⟩]
      have e1 : z59 (List.replicate m (-1 : Int) ++ List.replicate (N - m) (default : Int)) ((0 : Int).toNat) ((m : Int).toNat) = List.replicate m (-1) := by
        simp [z59, List.take_append]
      rw [e1, List.length_replicate]
      have e2 : ((N : Int).toNat - (m : Int).toNat) = N - m := by omega
      have e3 : W ((m : Int) + ((min m (N - m) : Nat) : Int)) = ((m + min m (N - m) : Nat) : Int) := by rw [W_id (by omega) (by omega)]; omega
      rw [e2, e3]
      have e4 : cpy (List.replicate m (-1 : Int) ++ List.replicate (N - m) (default : Int)) ((m : Int).toNat) (N - m) (List.replicate m (-1)) = List.replicate (m + min m (N - m)) (-1) ++ List.replicate (N - (m + min m (N - m))) (default : Int) := by
        unfold cpy
        rw [Int.toNat_natCast, List.length_replicate, List.take_append_of_le_length (by simp), List.take_of_length_le (by simp), List.take_replicate, List.drop_append, List.drop_of_length_le (by simp), List.drop_replicate, List.length_replicate, List.nil_append]
        rw [show min (min m (N - m)) m = min m (N - m) by omega, List.replicate_append_replicate]
        congr 2
        omega
      rw [e4]
      exact zit φ n (m + min m (N - m)) N (by omega) (by omega) (by omega) h4
    · rw [if_neg (by simp; omega)]
      have : m = N := by omega
      subst this
      simp
theorem zwt (φ : Nat) (n : Nat) (hn : n ≤ 5000) (hφ : 5001 < φ) : z30 φ [-1] (n : Int) = some (List.replicate n (-1), ()) := by
  unfold z30 zm9
  rw [if_neg (by simp), show (([-1] : List Int).length : Int) = 1 from rfl, U_id (x := 1) (by omega) (by omega), U_id (x := (n : Int)) (by omega) (by omega), zrp φ 1 n (by omega) (by omega) (by omega) (by omega)]
  simp only [Option.bind_some, Int.one_mul]
  have e1 : (n : Int) / 18446744073709551616 = 0 := by omega
  have e2 : (n : Int) % 18446744073709551616 = n := by omega
  rw [e1, e2, if_neg (by simp; omega), W_id (by omega) (by omega), z6 (mk_t _ _ (by omega) (by omega) (by omega))]
  rw [Int.toNat_natCast]
  have e3 : cpy (List.replicate n (default : Int)) 0 ((List.replicate n (default : Int)).length - 0) [-1] = List.replicate (min 1 n) (-1) ++ List.replicate (n - min 1 n) (default : Int) := by
    cases n with
    | zero => rfl
    | succ n => simp [cpy, show min 1 (n + 1) = 1 by omega]
  rw [e3, List.length_replicate]
  exact zit φ φ (min 1 n) n (by omega) (by omega) (by omega) hn
/-- The state of a round. -/
structure LS where
  x : List Int
  y : List Int
  z : Int
def stp (b : z7) (i : Int) (s : LS) : LS := if gt s.x b.i + b.w < gt s.x b.j then ⟨zy s.x b.j (gt s.x b.i + b.w), zy s.y b.j i, i⟩ else s
def rndL (L : List z7) : Nat → LS → LS
  | 0, s => s
  | m + 1, s => stp (gt L (m : Int)) m (rndL L m s)
def lowR (L : List z7) : Nat → LS → LS
  | 0, s => s
  | k + 1, s => if (rndL L L.length ⟨s.x, s.y, -1⟩).z < 0 then rndL L L.length ⟨s.x, s.y, -1⟩ else lowR L k (rndL L L.length ⟨s.x, s.y, -1⟩)
def low (n : Nat) (L : List z7) : LS := lowR L n ⟨List.replicate n 0, List.replicate n (-1), -1⟩
def okBd (n : Nat) (b : z7) : Prop := 0 ≤ b.i ∧ b.i < (n : Int) ∧ 0 ≤ b.j ∧ b.j < (n : Int) ∧ -1099511627776 ≤ b.w ∧ b.w ≤ 1099511627776
/-- How low the values may be after c steps. -/
structure LB (n c : Nat) (s : LS) : Prop where
  lx : s.x.length = n
  ly : s.y.length = n
  bd : ∀ i : Int, 0 ≤ i → i < (n : Int) → -(1099511627776 * (c : Int)) ≤ gt s.x i ∧ gt s.x i ≤ 0
theorem LB.up {n c d : Nat} {s : LS} (h : LB n c s) (hd : c ≤ d) : LB n d s := ⟨h.lx, h.ly, fun i h0 h1 => by have := h.bd i h0 h1; omega⟩
theorem LB.stp {n c : Nat} {s : LS} (h : LB n c s) {b : z7} (hb : okBd n b) (i : Int) : LB n (c + 1) (stp b i s) := by
  unfold Px.stp
  obtain ⟨a1, a2, a3, a4, a5, a6⟩ := hb
  have hx := h.lx
  have hy := h.ly
  split
  · rename_i hlt
    refine ⟨by rw [z13]; exact hx, by rw [z13]; exact hy, fun k h0 h1 => ?_⟩
    have q1 := h.bd b.i a1 a2
    have q2 := h.bd k h0 h1
    have q3 := h.bd b.j a3 a4
    rw [z0d _ _ _ _ a3 (by rw [hx]; exact a4) h0]
    split <;> omega
  · exact h.up (by omega)
theorem LB.rnd {n c : Nat} {s : LS} (h : LB n c s) {L : List z7} (hL : ∀ b ∈ L, okBd n b) : ∀ m, m ≤ L.length → LB n (c + m) (rndL L m s)
  | 0, _ => h
  | m + 1, hm => (LB.rnd h hL m (by omega)).stp (hL _ (z37 (by omega) (by omega))) m
/-- One round of the program. -/
theorem y0d (φ : Nat) (k : List z7 → Int → Int → Int → List Int → List Int → Option (List Int × List Int × Int × Unit)) (L : List z7) (n : Nat) (r : Int) (c : Nat) (s : LS) (hs : LB n c s) (hL : ∀ b ∈ L, okBd n b) (hl : L.length ≤ 5000) (hc : c + L.length ≤ 2100000) (hφ : 5001 < φ) :
    z1o φ k φ L s.z n r L (L.length : Int) 0 s.x s.y = if (rndL L L.length s).z < 0 then some ((rndL L L.length s).x, (rndL L L.length s).y, (rndL L L.length s).z, ()) else k L (rndL L L.length s).z n (W (r + 1)) (rndL L L.length s).x (rndL L L.length s).y := by
  refine z04 (fun f i (t : LS) => z1o φ k f L t.z n r L (L.length : Int) i t.x t.y) L.length (fun i t => t = rndL L i s) (fun o => o = _) ?_ ?_ φ s rfl (by omega)
  · intro f i t hi ht hk
    have hB := hs.rnd hL i (by omega)
    rw [← ht] at hB
    obtain ⟨a1, a2, a3, a4, a5, a6⟩ := hL _ (z37 (l := L) (i := (i : Int)) (by omega) (by omega))
    have q1 := hB.bd _ a1 a2
    have q2 := hB.bd _ a3 a4
    have hx := hB.lx
    have hy := hB.ly
    have hk' := hk (stp (gt L (i : Int)) i t) (by rw [ht]; rfl)
    rw [z1o, if_pos (by simp; omega), z6 ⟨by omega, by omega⟩, z6 ⟨a1, by rw [hx]; exact a2⟩, z6 ⟨a3, by rw [hx]; exact a4⟩, W_id (x := gt t.x (gt L (i : Int)).i + (gt L (i : Int)).w) (by omega) (by omega)]
    unfold stp at hk'
    by_cases h : gt t.x (gt L (i : Int)).i + (gt L (i : Int)).w < gt t.x (gt L (i : Int)).j
    · rw [if_pos h] at hk'
      rw [if_pos (by simpa using h), z3o, z6 ⟨a3, by rw [hx]; exact a4⟩, z6 ⟨a3, by rw [hy]; exact a4⟩, W_id (x := (i : Int) + 1) (by omega) (by omega)]
      exact hk'
    · rw [if_neg h] at hk'
      rw [if_neg (by simpa using h), W_id (x := (i : Int) + 1) (by omega) (by omega)]
      exact hk'
  · intro f t ht
    subst ht
    rw [z1o, if_neg (by simp)]
    by_cases h : (rndL L L.length s).z < 0
    · rw [if_pos (by simpa using h), if_pos h]; rfl
    · rw [if_neg (by simpa using h), if_neg h]
theorem zn8 (φ : Nat) (L : List z7) (n : Nat) (hn : n ≤ 512) (hL : ∀ b ∈ L, okBd n b) (hl : L.length ≤ 4096) (hφ : 5001 < φ) :
    ∀ (f k : Nat) (s : LS), LB n (k * L.length) s → k ≤ n → n < f + k → z2u φ f L s.z n (k : Int) s.x s.y = some ((lowR L (n - k) s).x, (lowR L (n - k) s).y, (lowR L (n - k) s).z, ())
  | 0, k, s, _, h1, h2 => by omega
  | f + 1, k, s, hs, h1, h2 => by
    rw [z2u]
    by_cases h : k < n
    · have hs1 : LB n (k * L.length) ⟨s.x, s.y, -1⟩ := ⟨hs.lx, hs.ly, hs.bd⟩
      have hb := Nat.mul_le_mul (show k + 1 ≤ 512 by omega) hl
      rw [Nat.add_mul, Nat.one_mul] at hb
      rw [if_pos (by simp; omega)]
      have := y0d φ (z2u φ f) L n (k : Int) _ ⟨s.x, s.y, -1⟩ hs1 hL (by omega) (by omega) hφ
      refine this.trans ?_
      rw [show n - k = (n - (k + 1)) + 1 by omega, lowR, W_id (x := (k : Int) + 1) (by omega) (by omega)]
      have hs2 := hs1.rnd hL L.length (Nat.le_refl _)
      split
      · rfl
      · exact zn8 φ L n hn hL hl hφ f (k + 1) _ (hs2.up (by rw [Nat.add_mul, Nat.one_mul]; omega)) (by omega) (by omega)
    · rw [if_neg (by simp; omega), show n - k = 0 by omega]; rfl
theorem lb0 (n : Nat) : LB n 0 ⟨List.replicate n 0, List.replicate n (-1), -1⟩ := ⟨by simp, by simp, fun i h0 h1 => by rw [show gt (LS.x ⟨List.replicate n 0, List.replicate n (-1), -1⟩) i = 0 from z2l n 0 i h0 h1]; omega⟩
theorem zu5 (φ : Nat) (hφ : 5001 < φ) (L : List z7) (n : Nat) (hn : n ≤ 512) (hL : ∀ b ∈ L, okBd n b) (hl : L.length ≤ 4096) : z90 φ (n : Int) L = some ((low n L).x, (low n L).y, (low n L).z, ()) := by
  unfold z90 z3p z3d
  rw [z6 (mk_t _ _ (by omega) (by omega) (by omega)), zwt φ n (by omega) hφ, Option.bind_some, Int.toNat_natCast]
  have := zn8 φ L n hn hL hl hφ φ 0 ⟨List.replicate n 0, List.replicate n (-1), -1⟩ ((lb0 n).up (by omega)) (by omega) (by omega)
  exact this
/-- The first error of a system. -/
def zk0 (n : Int) (b : z7) : Bool := (((decide ((min2 b.i b.j) < 0) || decide (n ≤ max2 b.i b.j)) || decide (b.w < (-1099511627776))) || decide (1099511627776 < b.w))
def chkD (n : Int) (L : List z7) : Int := if n < 1 then 1 else if 512 < n ∨ 4096 < L.length then 2 else bif L.any (zk0 n) then 1 else 0
theorem zn6 {n : Nat} {b : z7} : zk0 n b = false ↔ okBd n b := by
  unfold zk0 okBd
  simp only [Bool.or_eq_false_iff, decide_eq_false_iff_not, zub, y5j]
  have : ¬ ((n : Int) ≤ max2 b.i b.j) ↔ b.i < n ∧ b.j < n := by unfold max2; split <;> omega
  rw [this]
  omega
theorem zmb (φ : Nat) (hφ : 5001 < φ) (n : Int) (L : List z7) : za8 φ n L = some (chkD n L, ()) := by
  unfold za8 chkD
  by_cases h1 : n < 1
  · rw [if_pos (by simpa using h1), if_pos h1]
  · rw [if_neg (by simpa using h1), if_neg h1]
    by_cases h2 : 512 < n ∨ 4096 < L.length
    · rw [if_pos (by simp; omega), if_pos h2]
    · rw [if_neg (by simp; omega), if_neg h2]
      have := zi1 (fun f i => z40 φ f n L (L.length : Int) i) (some (0, ())) (some (1, ())) L (zk0 n) (fun f i hi => by
          rw [z40, if_pos (by simp; omega), z6 ⟨by omega, by omega⟩, W_id (by omega) (by omega)]
          show (if zk0 n (gt L (i : Int)) = true then _ else _) = _
          cases zk0 n (gt L (i : Int)) <;> rfl) (fun f => by
          rw [z40, if_neg (by simp)]) φ (by omega)
      rw [this]; cases L.any (zk0 n) <;> rfl
theorem y4c {n : Int} {L : List z7} (h : chkD n L = 0) : ∃ m : Nat, n = m ∧ 1 ≤ m ∧ m ≤ 512 ∧ L.length ≤ 4096 ∧ ∀ b ∈ L, okBd m b := by
  unfold chkD at h
  split at h
  · cases h
  · split at h
    · cases h
    · refine ⟨n.toNat, by omega, by omega, by omega, by omega, fun b hb => ?_⟩
      cases ha : L.any (zk0 n) with
      | true => rw [ha] at h; cases h
      | false =>
        rw [← zn6, show ((n.toNat : Nat) : Int) = n by omega]
        cases hbb : zk0 n b with
        | false => rfl
        | true => rw [List.any_eq_false] at ha; exact absurd hbb (ha b hb)
theorem zuv {n : Nat} {L : List z7} (h1 : 1 ≤ n) (h2 : n ≤ 512) (h3 : L.length ≤ 4096) (h4 : ∀ b ∈ L, okBd n b) : chkD n L = 0 := by
  unfold chkD
  rw [if_neg (by omega), if_neg (by omega)]
  have : L.any (zk0 n) = false := by
    rw [List.any_eq_false]
    intro b hb h
    rw [zn6.2 (h4 b hb)] at h; cases h
  rw [this]; rfl
theorem zsb (φ : Nat) (hφ : 5001 < φ) (n : Int) (L : List z7) : z3y φ n L = some (if chkD n L ≠ 0 then ([], chkD n L, ()) else if 0 ≤ (low n.toNat L).z then ([], 230, ()) else ((low n.toNat L).x, 0, ())) := by
  unfold z3y
  rw [zmb φ hφ, Option.bind_some]
  by_cases h : chkD n L = 0
  · rw [if_neg (by simpa using h), if_neg (by simpa using h)]
    obtain ⟨m, rfl, h1, h2, h3, h4⟩ := y4c h
    rw [zu5 φ hφ L m h2 h4 h3, Option.bind_some, Int.toNat_natCast]
    by_cases hz : 0 ≤ (low m L).z
    · rw [if_pos (by simpa using hz), if_pos hz]
    · rw [if_neg (by simpa using hz), if_neg hz]
  · rw [if_pos (by simpa using h), if_pos (by simpa using h)]
end Px
end
section
namespace Px
open Go
set_option linter.unusedVariables false
set_option linter.unusedSimpArgs false
def bI (b : z7) : Nat := b.i.toNat
def bJ (b : z7) : Nat := b.j.toNat
def bW (b : z7) : Int := b.w
def xf (x : List Int) : BF.X := fun v => if v < x.length then some (gt x (v : Int)) else none
theorem y0m {x : List Int} {i : Int} (h0 : 0 ≤ i) (h : i < (x.length : Int)) : xf x i.toNat = some (gt x i) := by
  unfold xf
  rw [if_pos (by omega), show ((i.toNat : Nat) : Int) = i by omega]
theorem zxa {n : Nat} {s : LS} (hx : s.x.length = n) {b : z7} (hb : okBd n b) (i : Int) :
    xf (stp b i s).x = BF.rlx bI bJ bW (xf s.x) b ∧ (BF.imp bI bJ bW (xf s.x) b = true → (stp b i s).z = i) ∧ (BF.imp bI bJ bW (xf s.x) b = false → stp b i s = s) := by
  obtain ⟨a1, a2, a3, a4, _, _⟩ := hb
  have e1 : xf s.x (bI b) = some (gt s.x b.i) := y0m a1 (by rw [hx]; exact a2)
  have e2 : xf s.x (bJ b) = some (gt s.x b.j) := y0m a3 (by rw [hx]; exact a4)
  have ei : BF.imp bI bJ bW (xf s.x) b = decide (gt s.x b.i + b.w < gt s.x b.j) := by
    unfold BF.imp; rw [e1, e2]; rfl
  have er : BF.rlx bI bJ bW (xf s.x) b = if gt s.x b.i + b.w < gt s.x b.j then fun v => if v = bJ b then some (gt s.x b.i + b.w) else xf s.x v else xf s.x := by
    unfold BF.rlx; rw [e1, e2]; simp only [BF.ltO, bW]
    by_cases h : gt s.x b.i + b.w < gt s.x b.j <;> simp [h]
  rw [ei, er]
  unfold stp
  by_cases h : gt s.x b.i + b.w < gt s.x b.j
  · rw [if_pos h, if_pos h]
    refine ⟨?_, fun _ => rfl, fun q => by simp [h] at q⟩
    funext v
    unfold xf
    rw [z13]
    simp only
    by_cases hv : v < s.x.length
    · rw [if_pos hv, if_pos hv, z0d _ _ _ _ a3 (by rw [hx]; exact a4) (by omega)]
      by_cases e : v = bJ b
      · rw [if_pos e, if_pos (by unfold bJ at e; omega)]
      · rw [if_neg e, if_neg (by unfold bJ at e; omega)]
    · rw [if_neg hv, if_neg hv, if_neg (fun e => hv (by rw [hx, e]; unfold bJ; omega))]
  · rw [if_neg h, if_neg h]
    exact ⟨rfl, fun q => by simp [h] at q, fun _ => rfl⟩
theorem zcw {n : Nat} {s : LS} (hs : s.x.length = n) {L : List z7} : ∀ m, (rndL L m s).x.length = n
  | 0 => hs
  | m + 1 => by
    have := zcw hs (L := L) m
    unfold rndL stp
    split
    · simp only [z13]; exact this
    · exact this
theorem zx8 {n : Nat} {s : LS} (hs : s.x.length = n) {L : List z7} (hL : ∀ b ∈ L, okBd n b) : ∀ m, m ≤ L.length → xf (rndL L m s).x = (L.take m).foldl (BF.rlx bI bJ bW) (xf s.x)
  | 0, _ => rfl
  | m + 1, hm => by
    have ih := zx8 hs hL m (by omega)
    rw [z0b L m (by omega), List.foldl_append, ← ih]
    exact (zxa (zcw hs m) (hL _ (z37 (by omega) (by omega))) m).1
theorem y2m {n : Nat} {s : LS} (hs : s.x.length = n) {L : List z7} (hL : ∀ b ∈ L, okBd n b) (hz : s.z = -1) : ∀ m, m ≤ L.length →
    ((rndL L m s).z < 0 → rndL L m s = s ∧ ∀ k : Nat, k < m → BF.imp bI bJ bW (xf s.x) (gt L (k : Int)) = false) ∧ -1 ≤ (rndL L m s).z ∧ (rndL L m s).z < m
  | 0, _ => ⟨fun _ => ⟨rfl, fun k hk => by omega⟩, by rw [show (rndL L 0 s).z = s.z from rfl]; omega, by rw [show (rndL L 0 s).z = s.z from rfl]; omega⟩
  | m + 1, hm => by
    obtain ⟨h1, h2, h3⟩ := y2m hs hL hz m (by omega)
    obtain ⟨q1, q2, q3⟩ := zxa (zcw hs m) (hL _ (z37 (l := L) (i := (m : Int)) (by omega) (by omega))) m
    change _ ∧ -1 ≤ (stp (gt L (m : Int)) m (rndL L m s)).z ∧ (stp (gt L (m : Int)) m (rndL L m s)).z < _
    cases hi : BF.imp bI bJ bW (xf (rndL L m s).x) (gt L (m : Int)) with
    | true =>
      have := q2 hi
      refine ⟨fun h => ?_, by omega, by omega⟩
      change (stp (gt L (m : Int)) m (rndL L m s)).z < 0 at h
      omega
    | false =>
      have e := q3 hi
      rw [e]
      refine ⟨fun h => ?_, h2, by omega⟩
      change (stp (gt L (m : Int)) m (rndL L m s)).z < 0 at h
      rw [e] at h
      obtain ⟨e2, h4⟩ := h1 h
      refine ⟨by change stp (gt L (m : Int)) m (rndL L m s) = s; rw [e, e2], fun k hk => ?_⟩
      by_cases hkm : k = m
      · subst hkm; rw [e2] at hi; exact hi
      · exact h4 k (by omega)
theorem zp3 {n : Nat} {s : LS} (hs : s.x.length = n) {L : List z7} (hL : ∀ b ∈ L, okBd n b) (hz : s.z = -1) (hf : ∀ b ∈ L, BF.imp bI bJ bW (xf s.x) b = false) : ∀ m, m ≤ L.length → rndL L m s = s
  | 0, _ => rfl
  | m + 1, hm => by
    have ih := zp3 hs hL hz hf m (by omega)
    have hb := z37 (l := L) (i := (m : Int)) (by omega) (by omega)
    change stp (gt L (m : Int)) m (rndL L m s) = s
    rw [ih]
    exact (zxa hs (hL _ hb) m).2.2 (hf _ hb)
/-- At the start. -/
def xz (n : Nat) : BF.X := fun v => if v < n then some 0 else none
theorem y7e (n : Nat) : xf (List.replicate n 0) = xz n := by
  funext v
  unfold xf xz
  rw [List.length_replicate]
  split
  · rw [z2l _ _ _ (by omega) (by omega)]
  · rfl
theorem zva {n : Nat} {L : List z7} (hL : ∀ b ∈ L, okBd n b) : ∀ (f k : Nat) (s : LS), s.x.length = n → xf s.x = BF.rnds bI bJ bW L (xz n) k → (lowR L f s).x.length = n ∧
    (((lowR L f s).z < 0 → f ≠ 0 ∨ s.z < 0) → ((lowR L f s).z < 0 → f ≠ 0) → ((lowR L f s).z < 0 → BF.Fix bI bJ bW L (xf (lowR L f s).x) ∧ ∃ k', xf (lowR L f s).x = BF.rnds bI bJ bW L (xz n) k')) ∧
    (0 ≤ (lowR L f s).z → f ≠ 0 → ¬ BF.Feas bI bJ bW (xz n) L n ∨ k + f < n) ∧ (f ≠ 0 → -1 ≤ (lowR L f s).z ∧ (lowR L f s).z < L.length)
  | 0, k, s, hs, hx => ⟨hs, fun _ h2 h => absurd rfl (h2 h), fun _ h => absurd rfl h, fun h => absurd rfl h⟩
  | f + 1, k, s, hs, hx => by
    have hs1 : (LS.mk s.x s.y (-1)).x.length = n := hs
    obtain ⟨h1, h2, h3⟩ := y2m hs1 hL rfl L.length (Nat.le_refl _)
    have hr := zx8 hs1 hL L.length (Nat.le_refl _)
    rw [List.take_length] at hr
    have hr2 : xf (rndL L L.length ⟨s.x, s.y, -1⟩).x = BF.rnds bI bJ bW L (xz n) (k + 1) := by
      rw [hr, show xf (LS.mk s.x s.y (-1)).x = _ from hx]; rfl
    have hq : ¬ (rndL L L.length ⟨s.x, s.y, -1⟩).z < 0 → n ≤ k + 1 → ¬ BF.Feas bI bJ bW (xz n) L n := fun hz hk F => by
      have := zp3 hs1 hL rfl (fun b hb => by
        have := BF.done F hk b hb
        rw [← hx] at this; exact this) L.length (Nat.le_refl _)
      rw [this] at hz
      exact hz (by show (-1 : Int) < 0; omega)
    unfold lowR
    split
    · rename_i hz
      obtain ⟨e1, e2⟩ := h1 hz
      refine ⟨zcw hs1 _, fun _ _ _ => ⟨fun b hb => ?_, k + 1, hr2⟩, fun h => by omega, fun _ => ⟨h2, h3⟩⟩
      rw [e1]
      obtain ⟨i, hi, rfl⟩ := zrf hb
      exact e2 i hi
    · rename_i hz
      by_cases hf : f = 0
      · subst hf
        refine ⟨zcw hs1 _, fun _ _ h => absurd h hz, fun _ _ => ?_, fun _ => ⟨h2, h3⟩⟩
        by_cases hk : n ≤ k + 1
        · exact .inl (hq hz hk)
        · exact .inr (by omega)
      · obtain ⟨i1, i2, i3, i4⟩ := zva hL f (k + 1) _ (zcw hs1 L.length) hr2
        refine ⟨i1, fun _ _ h => i2 (fun _ => .inl hf) (fun _ => hf) h, fun h _ => ?_, fun _ => i4 hf⟩
        rcases i3 h hf with h | h
        · exact .inl h
        · exact .inr (by omega)
/-- What the solver leaves. -/
structure y9u (n : Nat) (L : List z7) : Prop where
  len : (low n L).x.length = n
  fix : (low n L).z < 0 → BF.Fix bI bJ bW L (xf (low n L).x)
  rnd : (low n L).z < 0 → ∃ k, xf (low n L).x = BF.rnds bI bJ bW L (xz n) k
  cyc : 0 ≤ (low n L).z → ¬ BF.Feas bI bJ bW (xz n) L n
  lo : -1 ≤ (low n L).z
  hi : (low n L).z < L.length
theorem y1j {n : Nat} {L : List z7} (h1 : 1 ≤ n) (hL : ∀ b ∈ L, okBd n b) : y9u n L := by
  obtain ⟨i1, i2, i3, i4⟩ := zva hL n 0 ⟨List.replicate n 0, List.replicate n (-1), -1⟩ (by simp) (y7e n)
  have hn : n ≠ 0 := by omega
  refine ⟨i1, fun h => (i2 (fun _ => .inl hn) (fun _ => hn) h).1, fun h => (i2 (fun _ => .inl hn) (fun _ => hn) h).2, fun h => ?_, (i4 hn).1, (i4 hn).2⟩
  rcases i3 h hn with h | h
  · exact h
  · omega
/-- The solution breaks no zbc. -/
theorem zpm {n : Nat} {L : List z7} (h1 : 1 ≤ n) (hL : ∀ b ∈ L, okBd n b) (hz : (low n L).z < 0) {b : z7} (hb : b ∈ L) : gt (low n L).x b.j - gt (low n L).x b.i ≤ b.w := by
  have h := y1j h1 hL
  obtain ⟨a1, a2, a3, a4, _, _⟩ := hL b hb
  obtain ⟨d, hd, hl⟩ := (h.fix hz).le hb (y0m a1 (by rw [h.len]; exact a2))
  have e : xf (low n L).x (bJ b) = some (gt (low n L).x b.j) := y0m a3 (by rw [h.len]; exact a4)
  rw [e] at hd
  cases hd
  unfold bW at hl
  omega
theorem y3a {n : Nat} {L : List z7} (hL : ∀ b ∈ L, okBd n b) (p : Int → Int) (hp : ∀ b ∈ L, p b.j - p b.i ≤ b.w) : BF.Feas bI bJ bW (xz n) L n := by
  refine ⟨⟨fun v => p (v : Int), ((List.range n).map fun (v : Nat) => p (v : Int)).foldl max 0, fun b hb => ?_, fun v c h => ?_⟩, fun b hb => ?_, fun v c h => ?_⟩
  · obtain ⟨a1, a2, a3, a4, _, _⟩ := hL b hb
    have := hp b hb
    show p ((bJ b : Nat) : Int) ≤ p ((bI b : Nat) : Int) + bW b
    unfold bI bJ bW
    rw [show ((b.j.toNat : Nat) : Int) = b.j by omega, show ((b.i.toNat : Nat) : Int) = b.i by omega]
    omega
  · unfold xz at h
    split at h
    · rename_i hv
      cases h
      have key : ∀ (l : List Int) (m x : Int), (x ∈ l → x ≤ l.foldl max m) ∧ m ≤ l.foldl max m := by
        intro l
        induction l with
        | nil => intro m x; exact ⟨fun h => by simp at h, Int.le_refl _⟩
        | cons y l ih =>
          intro m x
          have h1 := ih (max m y) x
          have h2 := ih (max m y) y
          refine ⟨fun h => ?_, ?_⟩
          · rcases List.mem_cons.1 h with rfl | h
            · simp only [List.foldl_cons]; omega
            · exact h1.1 h
          · simp only [List.foldl_cons]; omega
      have := (key ((List.range n).map fun (v : Nat) => p (v : Int)) 0 (p (v : Int))).1 (List.mem_map.2 ⟨v, List.mem_range.2 hv, rfl⟩)
      show p (v : Int) - 0 ≤ _
      omega
    · cases h
  · obtain ⟨a1, a2, a3, a4, _, _⟩ := hL b hb
    unfold bJ; omega
  · unfold xz at h
    split at h
    · assumption
    · cases h
/-- Where there is a solution the solver ends. -/
theorem zsm {n : Nat} {L : List z7} (h1 : 1 ≤ n) (hL : ∀ b ∈ L, okBd n b) (p : Int → Int) (hp : ∀ b ∈ L, p b.j - p b.i ≤ b.w) : (low n L).z < 0 := by
  by_cases hz : (low n L).z < 0
  · exact hz
  · exact absurd (y3a hL p hp) ((y1j h1 hL).cyc (by omega))
end Px
end
