/- A part of the proof of custodyNarrows_holds. Conditions: none. -/
import Derived.Test.YtonbdachlfobnaaGreatZid
import Derived.Test.YtonbdachlfobnaaGreatProg
import Derived.Ground.SlsfProg
import Derived.Ground.NamesProg
import Derived.KernelRfl
section
namespace Go.Proofs
open Go.Shelf
def Tryz.sortEv_ren : Go.Shelf.Ren := ⟨fun | 6 => 77 | 15 => 106 | 14 => 105 | 28 => 139 | 29 => 110 | 20 => 131 | 21 => 132 | 22 => 133 | 23 => 134 | 24 => 135 | 25 => 136 | 26 => 137 | 27 => 138 | 46 => 164 | 47 => 165 | 48 => 166 | 49 => 167 | 50 => 168 | 57 => 181 | n => n, fun | 22 => 112 | 24 => 114 | 25 => 171 | 3 => 3 | 39 => 198 | 0 => 0 | 53 => 226 | 55 => 134 | 4 => 4 | 46 => 220 | 45 => 219 | 50 => 103 | 5 => 5 | 9 => 9 | 66 => 248 | 70 => 244 | 76 => 261 | 77 => 262 | n => n, fun | n => n⟩
theorem Tryz.sortEv : Go.Proofs.SlLaysF0.n6 Tryz.prog Tryz.sortEv_ren := {
 mixed := by kernel_rfl
 f6 := ⟨Tryz.f77.name, by decide, Tryz.func77.trans (congrArg some (by kernel_rfl))⟩
 f14 := ⟨Tryz.f105.name, by decide, Tryz.func105.trans (congrArg some (by kernel_rfl))⟩
 f15 := Tryz.func106.trans (congrArg some (by kernel_rfl))
 f20 := ⟨Tryz.f131.name, by decide, Tryz.func131.trans (congrArg some (by kernel_rfl))⟩
 f21 := ⟨Tryz.f132.name, by decide, Tryz.func132.trans (congrArg some (by kernel_rfl))⟩
 f22 := ⟨Tryz.f133.name, by decide, Tryz.func133.trans (congrArg some (by kernel_rfl))⟩
 f23 := ⟨Tryz.f134.name, by decide, Tryz.func134.trans (congrArg some (by kernel_rfl))⟩
 f24 := ⟨Tryz.f135.name, by decide, Tryz.func135.trans (congrArg some (by kernel_rfl))⟩
 f25 := ⟨Tryz.f136.name, by decide, Tryz.func136.trans (congrArg some (by kernel_rfl))⟩
 f26 := ⟨Tryz.f137.name, by decide, Tryz.func137.trans (congrArg some (by kernel_rfl))⟩
 f27 := ⟨Tryz.f138.name, by decide, Tryz.func138.trans (congrArg some (by kernel_rfl))⟩
 f28 := Tryz.func139.trans (congrArg some (by kernel_rfl))
 f29 := Tryz.func110.trans (congrArg some (by kernel_rfl))
 f46 := ⟨Tryz.f164.name, by decide, Tryz.func164.trans (congrArg some (by kernel_rfl))⟩
 f47 := Tryz.func165.trans (congrArg some (by kernel_rfl))
 f48 := Tryz.func166.trans (congrArg some (by kernel_rfl))
 f49 := ⟨Tryz.f167.name, by decide, Tryz.func167.trans (congrArg some (by kernel_rfl))⟩
 f50 := ⟨Tryz.f168.name, by decide, Tryz.func168.trans (congrArg some (by kernel_rfl))⟩
 f57 := ⟨Tryz.f181.name, by decide, Tryz.func181.trans (congrArg some (by kernel_rfl))⟩
 t0 := Tryz.underlying0
 a0 := Tryz.isAgg0
 z0 := Tryz.sizeOf0
 v0 := Tryz.zeroValue0
 t3 := Tryz.underlying3
 a3 := Tryz.isAgg3
 z3 := Tryz.sizeOf3
 v3 := Tryz.zeroValue3
 t4 := Tryz.underlying4
 a4 := Tryz.isAgg4
 z4 := Tryz.sizeOf4
 v4 := Tryz.zeroValue4
 t5 := Tryz.underlying5
 a5 := Tryz.isAgg5
 z5 := Tryz.sizeOf5
 v5 := Tryz.zeroValue5
 t9 := Tryz.underlying9
 a9 := Tryz.isAgg9
 z9 := Tryz.sizeOf9
 v9 := Tryz.zeroValue9
 t22 := Tryz.underlying112
 a22 := Tryz.isAgg112
 z22 := Tryz.sizeOf112
 v22 := Tryz.zeroValue112
 t25 := Tryz.underlying171
 a25 := Tryz.isAgg171
 z25 := Tryz.sizeOf171
 v25 := Tryz.zeroValue171
 t39 := Tryz.underlying198
 a39 := Tryz.isAgg198
 z39 := Tryz.sizeOf198
 v39 := Tryz.zeroValue198
 t45 := Tryz.underlying219
 a45 := Tryz.isAgg219
 z45 := Tryz.sizeOf219
 v45 := Tryz.zeroValue219
 t46 := Tryz.underlying220
 a46 := Tryz.isAgg220
 z46 := Tryz.sizeOf220
 v46 := Tryz.zeroValue220
 t50 := Tryz.underlying103
 a50 := Tryz.isAgg103
 z50 := Tryz.sizeOf103
 v50 := Tryz.zeroValue103
 t53 := Tryz.underlying226
 a53 := Tryz.isAgg226
 z53 := Tryz.sizeOf226
 v53 := Tryz.zeroValue226
 t55 := Tryz.underlying134
 a55 := Tryz.isAgg134
 z55 := Tryz.sizeOf134
 v55 := Tryz.zeroValue134
 t66 := Tryz.underlying248
 a66 := Tryz.isAgg248
 z66 := Tryz.sizeOf248
 v66 := Tryz.zeroValue248
 t70 := Tryz.underlying244
 a70 := Tryz.isAgg244
 z70 := Tryz.sizeOf244
 v70 := Tryz.zeroValue244
 t76 := Tryz.underlying261
 a76 := Tryz.isAgg261
 z76 := Tryz.sizeOf261
 v76 := Tryz.zeroValue261
 t77 := Tryz.underlying262
 a77 := Tryz.isAgg262
 z77 := Tryz.sizeOf262
 v77 := Tryz.zeroValue262 }
def Tryz.lays189_ren : Go.Shelf.Ren := ⟨fun | 189 => 89 | 125 => 106 | 257 => 111 | 128 => 139 | 129 => 110 | 294 => 144 | 295 => 145 | 296 => 146 | 297 => 147 | 298 => 148 | 299 => 149 | 216 => 150 | 300 => 151 | 301 => 152 | 328 => 170 | 329 => 165 | 330 => 166 | 331 => 171 | 332 => 172 | 215 => 107 | 343 => 182 | n => n, fun | 28 => 46 | 3 => 3 | 46 => 198 | 0 => 0 | 51 => 226 | 53 => 134 | 4 => 4 | 183 => 220 | 182 => 219 | 131 => 103 | 5 => 5 | 9 => 9 | 218 => 248 | 222 => 244 | 228 => 261 | 229 => 262 | n => n, fun | n => n⟩
theorem Tryz.lays189 : Go.Proofs.Lays.n189 Tryz.prog Tryz.lays189_ren := {
 mixed := by kernel_rfl
 f125 := Tryz.func106.trans (congrArg some (by kernel_rfl))
 f128 := Tryz.func139.trans (congrArg some (by kernel_rfl))
 f129 := Tryz.func110.trans (congrArg some (by kernel_rfl))
 f189 := Tryz.func89.trans (congrArg some (by kernel_rfl))
 f215 := Tryz.func107.trans (congrArg some (by kernel_rfl))
 f216 := Tryz.func150.trans (congrArg some (by kernel_rfl))
 f257 := Tryz.func111.trans (congrArg some (by kernel_rfl))
 f294 := Tryz.func144.trans (congrArg some (by kernel_rfl))
 f295 := Tryz.func145.trans (congrArg some (by kernel_rfl))
 f296 := Tryz.func146.trans (congrArg some (by kernel_rfl))
 f297 := Tryz.func147.trans (congrArg some (by kernel_rfl))
 f298 := Tryz.func148.trans (congrArg some (by kernel_rfl))
 f299 := Tryz.func149.trans (congrArg some (by kernel_rfl))
 f300 := Tryz.func151.trans (congrArg some (by kernel_rfl))
 f301 := Tryz.func152.trans (congrArg some (by kernel_rfl))
 f328 := Tryz.func170.trans (congrArg some (by kernel_rfl))
 f329 := Tryz.func165.trans (congrArg some (by kernel_rfl))
 f330 := Tryz.func166.trans (congrArg some (by kernel_rfl))
 f331 := Tryz.func171.trans (congrArg some (by kernel_rfl))
 f332 := Tryz.func172.trans (congrArg some (by kernel_rfl))
 f343 := Tryz.func182.trans (congrArg some (by kernel_rfl))
 t0 := Tryz.underlying0
 a0 := Tryz.isAgg0
 z0 := Tryz.sizeOf0
 v0 := Tryz.zeroValue0
 t3 := Tryz.underlying3
 a3 := Tryz.isAgg3
 z3 := Tryz.sizeOf3
 v3 := Tryz.zeroValue3
 t4 := Tryz.underlying4
 a4 := Tryz.isAgg4
 z4 := Tryz.sizeOf4
 v4 := Tryz.zeroValue4
 t5 := Tryz.underlying5
 a5 := Tryz.isAgg5
 z5 := Tryz.sizeOf5
 v5 := Tryz.zeroValue5
 t9 := Tryz.underlying9
 a9 := Tryz.isAgg9
 z9 := Tryz.sizeOf9
 v9 := Tryz.zeroValue9
 t28 := Tryz.underlying46
 a28 := Tryz.isAgg46
 z28 := Tryz.sizeOf46
 v28 := Tryz.zeroValue46
 t46 := Tryz.underlying198
 a46 := Tryz.isAgg198
 z46 := Tryz.sizeOf198
 v46 := Tryz.zeroValue198
 t51 := Tryz.underlying226
 a51 := Tryz.isAgg226
 z51 := Tryz.sizeOf226
 v51 := Tryz.zeroValue226
 t53 := Tryz.underlying134
 a53 := Tryz.isAgg134
 z53 := Tryz.sizeOf134
 v53 := Tryz.zeroValue134
 t131 := Tryz.underlying103
 a131 := Tryz.isAgg103
 z131 := Tryz.sizeOf103
 v131 := Tryz.zeroValue103
 t182 := Tryz.underlying219
 a182 := Tryz.isAgg219
 z182 := Tryz.sizeOf219
 v182 := Tryz.zeroValue219
 t183 := Tryz.underlying220
 a183 := Tryz.isAgg220
 z183 := Tryz.sizeOf220
 v183 := Tryz.zeroValue220
 t218 := Tryz.underlying248
 a218 := Tryz.isAgg248
 z218 := Tryz.sizeOf248
 v218 := Tryz.zeroValue248
 t222 := Tryz.underlying244
 a222 := Tryz.isAgg244
 z222 := Tryz.sizeOf244
 v222 := Tryz.zeroValue244
 t228 := Tryz.underlying261
 a228 := Tryz.isAgg261
 z228 := Tryz.sizeOf261
 v228 := Tryz.zeroValue261
 t229 := Tryz.underlying262
 a229 := Tryz.isAgg262
 z229 := Tryz.sizeOf262
 v229 := Tryz.zeroValue262 }
end Go.Proofs
end
section
namespace Px
open Go
set_option linter.unusedVariables false
set_option linter.unusedSimpArgs false
theorem zwu {σ ρ : Type} (L : Nat -> Int -> σ -> Option ρ) (len : Nat) (Inv : Nat -> σ -> Prop) (G : Option ρ -> Prop)
  (step : ∀ n i s, i < len -> Inv i s -> (∀ s', Inv (i + 1) s' -> G (L n ((i : Int) + 1) s')) -> G (L (n + 1) i s))
  (done : ∀ n s, Inv len s -> G (L (n + 1) len s)) : ∀ n i s, i <= len -> Inv i s -> len - i < n -> G (L n i s) := by
 intro n
 induction n with
 | zero => intro i s _ _ h; omega
 | succ n ih =>
  intro i s hi hI hn
  by_cases h : i = len
  ·subst h; exact done n s hI
  ·refine step n i s (by omega) hI fun s' hs' => ?_
   have := ih (i + 1) s' (by omega) hs' (by omega)
   simpa using this
theorem z0e {σ ρ : Type} (L : Nat -> Int -> σ -> Option ρ) (len : Nat) (Inv : Nat -> σ -> Prop) (G : Option ρ -> Prop)
  (step : ∀ n i s, i < len -> Inv i s -> (∀ s', Inv (i + 1) s' -> G (L n ((i : Int) + 1) s')) -> G (L (n + 1) i s))
  (done : ∀ n s, Inv len s -> G (L (n + 1) len s)) (n : Nat) (s : σ) (h : Inv 0 s) (hn : len < n) : G (L n 0 s) := by
 simpa using zwu L len Inv G step done n 0 s (Nat.zero_le _) h (by omega)
theorem ycb (x : Int) : W x = if x % 18446744073709551616 >= 9223372036854775808 then x % 18446744073709551616 - 18446744073709551616 else x % 18446744073709551616 := by
 simp [W, IntKind.wrap, IntKind.bits, IntKind.signed]
theorem zxn (x : Int) : U x = x % 18446744073709551616 := by
 simp [U, IntKind.wrap, IntKind.bits, IntKind.signed]
theorem W_id {x : Int} (h : -9223372036854775808 <= x) (h' : x <= 9223372036854775807) : W x = x := by
 rw [ycb]; split <;> omega
theorem U_id {x : Int} (h : 0 <= x) (h' : x <= 18446744073709551615) : U x = x := by
 rw [zxn]; omega
theorem zna {α : Type} [Inhabited α] (ok : α -> Bool) (l : List α) (i : Nat) (h : i < l.length) : (l.take (i + 1)).all ok = ((l.take i).all ok && ok (gt l (i : Int))) := by
 rw [List.take_succ_eq_append_getElem h, List.all_append]
 simp [gt, h]
theorem zg2 {α : Type} [Inhabited α] (ok : α -> Bool) (l : List α) (i : Nat) (h : i < l.length) : (l.take (i + 1)).any ok = ((l.take i).any ok || ok (gt l (i : Int))) := by
 rw [List.take_succ_eq_append_getElem h, List.any_append]
 simp [gt, h]
theorem z0v {α : Type} [Inhabited α] (l : List α) (i : Nat) (h : i < l.length) : l.take (i + 1) = l.take i ++ [gt l (i : Int)] := by
 rw [List.take_succ_eq_append_getElem h]
 simp [gt, h]
theorem z0g {α : Type} [Inhabited α] {l : List α} {i : Int} (h0 : 0 <= i) (h : i < (l.length : Int)) : gt l i ∈ l := by
 have hlt : i.toNat < l.length := by omega
 simp [gt, hlt]
theorem z20 {α : Type} [Inhabited α] {l : List α} {i : Nat} (h : i < l.length) : gt l (i : Int) = l[i] := by
 simp [gt, h]
theorem zzg {α : Type} [Inhabited α] (l : List α) (i : Nat) (h : i < l.length) : l.drop i = gt l (i : Int) :: l.drop (i + 1) := by
 rw [z20 h, List.getElem_cons_drop]
theorem zbz {α : Type} [Inhabited α] {l : List α} {x : α} (h : x ∈ l) : ∃ i : Nat, i < l.length /\ gt l (i : Int) = x := by
 obtain ⟨i, hi, e⟩ := List.getElem_of_mem h
 exact ⟨i, hi, by rw [z20 hi, e]⟩
theorem z0f {α : Type} [Inhabited α] (l : List α) (i j : Int) (x : α) (hi : 0 <= i) (h : i < (l.length : Int)) (hj : 0 <= j) : gt (z02 l i x) j = if j = i then x else gt l j := by
 unfold gt z02
 by_cases e : j = i
 ·subst e
  have : j.toNat < l.length := by omega
  simp [List.getD, List.getElem?_set, this]
 ·have : i.toNat ≠ j.toNat := by omega
  simp [List.getD, List.getElem?_set, this, e]
theorem z1h {α : Type} [Inhabited α] (n : Nat) (x : α) (j : Int) (hj : 0 <= j) (h : j < n) : gt (List.replicate n x) j = x := by
 have : j.toNat < n := by omega
 simp [gt, List.getD, List.getElem?_replicate, this]
theorem zsm {α : Type} [Inhabited α] (l m : List α) (j : Int) (h0 : 0 <= j) (h : j < (l.length : Int)) : gt (l ++ m) j = gt l j := by
 have : j.toNat < l.length := by omega
 simp [gt, List.getD, List.getElem?_append, this]
theorem ziy {α ρ : Type} [Inhabited α] (L : Nat -> Int -> Int -> Option ρ) (k : Int -> Option ρ) (l : List α) (ok : α -> Bool)
  (step : ∀ (n i : Nat) (s : Int), i < l.length -> L (n + 1) i s = L n ((i : Int) + 1) (bif ok (gt l i) then s else 1)) (done : ∀ n s, L (n + 1) l.length s = k s) :
  ∀ n s, l.length < n -> L n 0 s = k (bif l.all ok then s else 1) := by
 intro n s hn
 refine zwu L l.length (fun i t => t = bif (l.take i).all ok then s else 1) (fun o => o = k (bif l.all ok then s else 1)) ?_ ?_ n 0 s (Nat.zero_le _) (by simp) (by omega)
 ·intro n i t hi ht hs
  rw [step n i t hi]
  refine hs _ ?_
  rw [zna ok l i hi, ht]
  cases (l.take i).all ok <;> cases ok (gt l (i : Int)) <;> simp
 ·intro n t ht
  rw [done, ht, List.take_length]
theorem zwx {α ρ : Type} [Inhabited α] (L : Nat -> Int -> Option ρ) (k : Option ρ) (l : List α) (p : α -> Bool) (g : α -> Option ρ)
  (step : ∀ n i : Nat, i < l.length -> L (n + 1) i = bif p (gt l i) then g (gt l i) else L n ((i : Int) + 1)) (done : ∀ n, L (n + 1) l.length = k) :
  ∀ n, l.length < n -> L n 0 = match l.find? p with | some x => g x | none => k := by
 intro n hn
 refine z0e (fun n i (_ : Unit) => L n i) l.length (fun i _ => ∀ x ∈ l.take i, p x = false) (fun o => o = match l.find? p with | some x => g x | none => k) ?_ ?_ n () (by simp) hn
 ·intro n i _ hi hI hs
  simp only [step n i hi]
  cases e : p (gt l (i : Int)) with
  | false =>
   refine hs () ?_
   rw [z0v l i hi]
   intro x hx
   rcases List.mem_append.1 hx with h | h
   ·exact hI x h
   ·simp at h; rw [h]; exact e
  | true =>
   have : l.find? p = some (gt l (i : Int)) := by
    have h1 : l = l.take i ++ (gt l (i : Int) :: l.drop (i + 1)) := by
     rw [z20 hi, List.getElem_cons_drop, List.take_append_drop]
    generalize gt l (i : Int) = y at *
    rw [h1, List.find?_append, List.find?_eq_none.2 (fun x hx => by simp [hI x hx])]
    simp [List.find?_cons, e]
   rw [this]; rfl
 ·intro n _ hI
  simp only [done]
  rw [List.take_length] at hI
  rw [List.find?_eq_none.2 (fun x hx => by simp [hI x hx])]
theorem y1u {α ρ : Type} (l : List α) (p : α -> Bool) (r k : ρ) : (match l.find? p with | some _ => r | none => k) = bif l.any p then r else k := by
 induction l with
 | nil => rfl
 | cons x l ih =>
  rw [List.find?_cons, List.any_cons]
  cases p x
  ·simpa using ih
  ·rfl
theorem zg6 {α ρ : Type} [Inhabited α] (L : Nat -> Int -> Option ρ) (k r : Option ρ) (l : List α) (p : α -> Bool)
  (step : ∀ n i : Nat, i < l.length -> L (n + 1) i = bif p (gt l i) then r else L n ((i : Int) + 1)) (done : ∀ n, L (n + 1) l.length = k)
  (n : Nat) (hn : l.length < n) : L n 0 = bif l.any p then r else k := by
 rw [zwx L k l p (fun _ => r) step done n hn, y1u]
def bet (a b c : Int) : Bool := decide (b <= a) && decide (a <= c)
theorem zs3 {a b c : Int} : bet a b c = true ↔ b <= a /\ a <= c := by simp [bet]
theorem zzt {a b c : Int} (h : bet a b c = true) : b <= a /\ a <= c := zs3.1 h
theorem mk_t (n : Int) (b : Nat) (h0 : 0 <= n) (h : n <= 100000) (hb : b <= 1000000) : z0l n b := by
 refine ⟨h0, ?_, by omega⟩
 have : (b : Int) * n <= 1000000 * 100000 := Int.mul_le_mul (by omega) h h0 (by omega)
 omega
theorem zsl {x y z : Int} : min2 x y < z ↔ x < z \/ y < z := by unfold min2; split <;> omega
theorem y6s {x y z : Int} : z < max2 x y ↔ z < x \/ z < y := by unfold max2; split <;> omega
end Px
end
section
namespace Px
open Go
set_option linter.unusedVariables false
set_option linter.unusedSimpArgs false
theorem zs9 {a b : Int} : cmpI a b < 0 ↔ a < b := by unfold cmpI; (repeat' split) <;> omega
theorem zso {a b : Int} : cmpI a b = 0 ↔ a = b := by unfold cmpI; (repeat' split) <;> omega
theorem yao {a b c d e : Int} : or5 a b c d e < 0 ↔ a < 0 \/ (a = 0 /\ (b < 0 \/ (b = 0 /\ (c < 0 \/ (c = 0 /\ (d < 0 \/ (d = 0 /\ e < 0))))))) := by
 unfold or5
 by_cases h1 : a = 0
 ·by_cases h2 : b = 0
  ·by_cases h3 : c = 0
   ·by_cases h4 : d = 0
    ·simp [h1, h2, h3, h4]
    ·simp [h1, h2, h3, h4]
   ·simp [h1, h2, h3]
  ·simp [h1, h2]
 ·simp [h1]
theorem zbu {a b : z6} : cfEv a b < 0 ↔ a.visit.early < b.visit.early \/ (a.visit.early = b.visit.early /\ (a.visit.ref.railway < b.visit.ref.railway \/ (a.visit.ref.railway = b.visit.ref.railway /\ (a.visit.ref.no < b.visit.ref.no \/ (a.visit.ref.no = b.visit.ref.no /\
  (ordB a.second < ordB b.second \/ (ordB a.second = ordB b.second /\ a.report < b.report))))))) := by
 unfold cfEv
 rw [yao, zs9, zs9, zs9, zso, zso, zso]
 have e1 : ∀ x y : Int, (x - y < 0) = (x < y) := fun x y => propext ⟨fun h => by omega, fun h => by omega⟩
 have e2 : ∀ x y : Int, (x - y = 0) = (x = y) := fun x y => propext ⟨fun h => by omega, fun h => by omega⟩
 rw [e1, e1, e2]
theorem y1p : Sort.SWO (Proofs.ltOf fun a b : {y : z6 // okEv y = true} => cfEv a.1 b.1) where
 irrefl := fun x => by
  simp only [Proofs.ltOf, decide_eq_false_iff_not]
  rw [zbu]
  omega
 trans := fun x y z h1 h2 => by
  simp only [Proofs.ltOf, decide_eq_true_eq] at *
  rw [zbu] at *
  omega
 ntrans := fun x y z h1 h2 => by
  simp only [Proofs.ltOf, decide_eq_false_iff_not] at *
  rw [zbu] at *
  omega
theorem zv9 (φ : Nat) (a b : Int) : z7e φ a b = some (cmpI a b, ()) := by
 unfold z7e cmpI
 simp only [bne_self_eq_false, Bool.false_eq_true, if_false, decide_eq_true_eq]
 split
 ·rfl
 ·split <;> rfl
theorem y2t (φ : Nat) (b : Bool) : z9r φ b = some (ordB b, ()) := by
 unfold z9r ordB
 split <;> rfl
theorem ycv (φ : Nat) (h : 6 <= φ) (a b c d e : Int) : ztq φ [a, b, c, d, e] = some (or5 a b c d e, ()) := by
 obtain ⟨n, rfl⟩ : ∃ n, φ = n + 6 := ⟨φ - 6, by omega⟩
 unfold ztq or5
 simp only [zgb, List.length_cons, List.length_nil]
 have w : ∀ x : Int, 0 <= x -> x < 100 -> W (x + 1) = x + 1 := fun x h1 h2 => W_id (by omega) (by omega)
 have g0 : gt [a, b, c, d, e] 0 = a := rfl
 have g1 : gt [a, b, c, d, e] 1 = b := rfl
 have g2 : gt [a, b, c, d, e] 2 = c := rfl
 have g3 : gt [a, b, c, d, e] 3 = d := rfl
 have g4 : gt [a, b, c, d, e] 4 = e := rfl
 rw [w 0 (by omega) (by omega), show (0 : Int) + 1 = 1 by rfl, w 1 (by omega) (by omega), show (1 : Int) + 1 = 2 by rfl, w 2 (by omega) (by omega), show (2 : Int) + 1 = 3 by rfl, w 3 (by omega) (by omega), show (3 : Int) + 1 = 4 by rfl, w 4 (by omega) (by omega), show (4 : Int) + 1 = 5 by rfl, g0, g1, g2, g3, g4]
 simp [ck]
 repeat' (split; try rfl)
 all_goals simp_all
theorem zqz (φ : Nat) (h : 6 <= φ) (a b : z6) (ha : okEv a = true) (hb : okEv b = true) : z7k φ a b = some (cfEv a b, ()) := by
 simp only [okEv, decide_eq_true_eq] at ha hb
 unfold z7k cfEv
 simp only [zv9, y2t, Option.bind_some]
 have w1 : W (ordB a.second - ordB b.second) = ordB a.second - ordB b.second := by
  have : ∀ x : Bool, 0 <= ordB x /\ ordB x <= 1 := fun x => by cases x <;> decide
  have h1 := this a.second
  have h2 := this b.second
  exact W_id (by omega) (by omega)
 rw [w1, W_id (by omega) (by omega), ycv φ h]
 rfl
theorem zsu (a b : z6) (ha : okEv a = true) (hb : okEv b = true) : z7k 10 a b = some (cfEv a b, ()) := zqz 10 (by omega) a b ha hb
end Px
end
section
set_option linter.unusedVariables false
set_option linter.unusedSimpArgs false
set_option maxHeartbeats 4000000
set_option maxRecDepth 100000
namespace Px
open Go Go.RowKit Go.Proofs
def z8n (φ : Nat) : H TV (RTup TT [.val 0]) := .x
def zbj (P : Program) (φ : Nat) : Env TV := ⟨P, lk [], lk [], lk []⟩
theorem zn5 (φ : Nat) (a) : (zbb φ).F a = fnX TV (zbj Tryz.prog φ) φ Tryz.f80 [0, 0] [.val 0] (z8n φ) a := by kernel_rfl
theorem znk (φ : Nat) : fnO TV (zbj Tryz.prog φ) φ Tryz.f80 [.val 0] (z8n φ) := by
 unfold fnO
 show obl _ _ _ _ _ _ _
 unfold z8n
 repeat' (first | exact trivial | (refine ⟨?_, ?_⟩) | (intro _) | kernel_rfl)
theorem zmt (φ : Nat) : z1k TV Tryz.prog 80 (zbb φ) :=
 z1z (N := zbj Tryz.prog φ) (z05 trivial trivial trivial) (z8n φ) Tryz.func80 (by kernel_rfl) (zn5 φ) (znk φ)
def zpp : Msp TV := ⟨3, 0, [], znm⟩
theorem zwe : zxa TV Tryz.prog 89 zpp := fun l l' sv h => zow (ρ := Tryz.lays189_ren) Tryz.lays189 h
def z8s (φ : Nat) : H TV (RTup TT [.val 0]) := .x
def zb9 (P : Program) (φ : Nat) : Env TV := ⟨P, lk [], lk [], lk []⟩
theorem zn7 (φ : Nat) (a) : (zb5 φ).F a = fnX TV (zb9 Tryz.prog φ) φ Tryz.f81 [2] [.val 0] (z8s φ) a := by kernel_rfl
theorem znx (φ : Nat) : fnO TV (zb9 Tryz.prog φ) φ Tryz.f81 [.val 0] (z8s φ) := by
 unfold fnO
 show obl _ _ _ _ _ _ _
 unfold z8s
 repeat' (first | exact trivial | (refine ⟨?_, ?_⟩) | (intro _) | kernel_rfl)
theorem zml (φ : Nat) : z1k TV Tryz.prog 81 (zb5 φ) :=
 z1z (N := zb9 Tryz.prog φ) (z05 trivial trivial trivial) (z8s φ) Tryz.func81 (by kernel_rfl) (zn7 φ) (znx φ)
def ziv (φ : Nat) : H TV (RTup TT [.val 0]) := (.seq .x (.seq .x (.seq (.seq .x (.body (.loop ⟨[(18, [(3, .val 0), (6, .val 5), (7, .val 0), (8, .val 0)])], []⟩ (fun n z => zgb φ n z.1 z.2.1 z.2.2.1 z.2.2.2.1) (fun zk6 => .x)))) .x)))
def zo8 (P : Program) (φ : Nat) : Env TV := ⟨P, lk [], lk [], lk []⟩
theorem y3q (φ : Nat) (a) : (zmo φ).F a = fnX TV (zo8 Tryz.prog φ) φ Tryz.f79 [5] [.val 0] (ziv φ) a := by kernel_rfl
theorem y2l (φ : Nat) : fnO TV (zo8 Tryz.prog φ) φ Tryz.f79 [.val 0] (ziv φ) := by
 unfold fnO
 show obl _ _ _ _ _ _ _
 unfold ziv
 repeat' (first | exact trivial | (refine ⟨?_, ?_⟩) | (intro _) | kernel_rfl)
theorem y1a (φ : Nat) : z1k TV Tryz.prog 79 (zmo φ) :=
 z1z (N := zo8 Tryz.prog φ) (z05 trivial trivial trivial) (ziv φ) Tryz.func79 (by kernel_rfl) (y3q φ) (y2l φ)
def z5b (φ : Nat) : H TV (RTup TT [.val 0]) := .x
def z89 (P : Program) (φ : Nat) : Env TV := ⟨P, lk [(80, zbb φ), (81, zb5 φ), (79, zmo φ)], lk [], lk []⟩
theorem zi9 (φ : Nat) (a) : (zbw φ).F a = fnX TV (z89 Tryz.prog φ) φ Tryz.f78 [4, 4] [.val 0] (z5b φ) a := by kernel_rfl
theorem zi4 (φ : Nat) : fnO TV (z89 Tryz.prog φ) φ Tryz.f78 [.val 0] (z5b φ) := by
 unfold fnO
 show obl _ _ _ _ _ _ _
 unfold z5b
 repeat' (first | exact trivial | (refine ⟨?_, ?_⟩) | (intro _) | kernel_rfl)
theorem zib (φ : Nat) : z1k TV Tryz.prog 78 (zbw φ) :=
 z1z (N := z89 Tryz.prog φ) (z05 ⟨zmt φ, zml φ, y1a φ, trivial⟩ trivial trivial) (z5b φ) Tryz.func78 (by kernel_rfl) (zi9 φ) (zi4 φ)
def zum : Msp TV := ⟨114, 4, [78], sortEv⟩
theorem y4m : zxa TV Tryz.prog 77 zum :=
 zzy (V := TV) (c := 4) (ρ := Tryz.sortEv_ren) Tryz.sortEv Tryz.isAgg114 (by rw [show TV.sz 4 = 11 by kernel_rfl]; exact Tryz.sizeOf114) (by kernel_rfl) (by kernel_rfl) ⟨Tryz.f78, Tryz.func78, by kernel_rfl, by kernel_rfl⟩ y1p fun a b ha hb =>
  (zib 10 (a, b, ()) (cfEv a b, ()) (zsu a b ha hb)).mono fun x news ⟨B, hB, h1, h2⟩ => by
   cases B with
   | nil => exact ⟨h1, h2⟩
   | cons y B => cases hB
def zad (φ : Nat) : H TV (RTup TT [.val 10]) := .x
def zcp (P : Program) (φ : Nat) : Env TV := ⟨P, lk [], lk [], lk []⟩
theorem zqn (φ : Nat) (a) : (zde φ).F a = fnX TV (zcp Tryz.prog φ) φ Tryz.f31 [0, 0, 0, 0] [.val 10] (zad φ) a := by kernel_rfl
theorem zon (φ : Nat) : fnO TV (zcp Tryz.prog φ) φ Tryz.f31 [.val 10] (zad φ) := by
 unfold fnO
 show obl _ _ _ _ _ _ _
 unfold zad
 repeat' (first | exact trivial | (refine ⟨?_, ?_⟩) | (intro _) | kernel_rfl)
theorem zpi (φ : Nat) : z1k TV Tryz.prog 31 (zde φ) :=
 z1z (N := zcp Tryz.prog φ) (z05 trivial trivial trivial) (zad φ) Tryz.func31 (by kernel_rfl) (zqn φ) (zon φ)
def za0 (φ : Nat) : H TV (RTup TT [.val 10]) := .x
def zcs (P : Program) (φ : Nat) : Env TV := ⟨P, lk [], lk [], lk []⟩
theorem zqh (φ : Nat) (a) : (zcj φ).F a = fnX TV (zcs Tryz.prog φ) φ Tryz.f32 [0, 0, 0] [.val 10] (za0 φ) a := by kernel_rfl
theorem zqu (φ : Nat) : fnO TV (zcs Tryz.prog φ) φ Tryz.f32 [.val 10] (za0 φ) := by
 unfold fnO
 show obl _ _ _ _ _ _ _
 unfold za0
 repeat' (first | exact trivial | (refine ⟨?_, ?_⟩) | (intro _) | kernel_rfl)
theorem zph (φ : Nat) : z1k TV Tryz.prog 32 (zcj φ) :=
 z1z (N := zcs Tryz.prog φ) (z05 trivial trivial trivial) (za0 φ) Tryz.func32 (by kernel_rfl) (zqh φ) (zqu φ)
def zaa (φ : Nat) : H TV (RTup TT [.val 35]) := .x
def zc8 (P : Program) (φ : Nat) : Env TV := ⟨P, lk [], lk [], lk []⟩
theorem zoa (φ : Nat) (a) : (z7u φ).F a = fnX TV (zc8 Tryz.prog φ) φ Tryz.f33 [] [.val 35] (zaa φ) a := by kernel_rfl
theorem zq6 (φ : Nat) : fnO TV (zc8 Tryz.prog φ) φ Tryz.f33 [.val 35] (zaa φ) := by
 unfold fnO
 show obl _ _ _ _ _ _ _
 unfold zaa
 repeat' (first | exact trivial | (refine ⟨?_, ?_⟩) | (intro _) | kernel_rfl)
theorem zcc (φ : Nat) : z1k TV Tryz.prog 33 (z7u φ) :=
 z1z (N := zc8 Tryz.prog φ) (z05 trivial trivial trivial) (zaa φ) Tryz.func33 (by kernel_rfl) (zoa φ) (zq6 φ)
def z6a (φ : Nat) : H TV (RTup TT [.val 2]) := .x
def z9b (P : Program) (φ : Nat) : Env TV := ⟨P, lk [], lk [], lk []⟩
theorem zk1 (φ : Nat) (a) : (z9d φ).F a = fnX TV (z9b Tryz.prog φ) φ Tryz.f85 [11] [.val 2] (z6a φ) a := by kernel_rfl
theorem zk3 (φ : Nat) : fnO TV (z9b Tryz.prog φ) φ Tryz.f85 [.val 2] (z6a φ) := by
 unfold fnO
 show obl _ _ _ _ _ _ _
 unfold z6a
 repeat' (first | exact trivial | (refine ⟨?_, ?_⟩) | (intro _) | kernel_rfl)
theorem zjl (φ : Nat) : z1k TV Tryz.prog 85 (z9d φ) :=
 z1z (N := z9b Tryz.prog φ) (z05 trivial trivial trivial) (z6a φ) Tryz.func85 (by kernel_rfl) (zk1 φ) (zk3 φ)
def z60 (φ : Nat) : H TV (RTup TT [.val 0]) := (.seq .x (.seq .x (.seq .x (.seq (.seq .x (.body (.loop ⟨[(84, [(1, .ptr 0 0), (3, .val 0), (20, .val 12), (21, .val 0), (22, .val 0)])], [.box 25 [.val 15]]⟩ (fun n z => z2x φ n z.1 z.2.1 z.2.2.1 z.2.2.2.1 z.2.2.2.2.1) (fun zk7 => .x)))) (.seq (.seq .x (.body (.loop ⟨[(84, [(3, .val 0), (31, .val 14), (32, .val 0), (33, .val 0)])], []⟩ (fun n z => z1p φ n z.1 z.2.1 z.2.2.1 z.2.2.2.1) (fun zk13 => .x)))) .x)))))
def z9u (P : Program) (φ : Nat) : Env TV := ⟨P, lk [(85, z9d φ)], lk [], lk []⟩
theorem zjv (φ : Nat) (a) : (z5w φ).F a = fnX TV (z9u Tryz.prog φ) φ Tryz.f54 [15] [.val 0] (z60 φ) a := by kernel_rfl
theorem zkx (φ : Nat) : fnO TV (z9u Tryz.prog φ) φ Tryz.f54 [.val 0] (z60 φ) := by
 unfold fnO
 show obl _ _ _ _ _ _ _
 unfold z60
 repeat' (first | exact trivial | (refine ⟨?_, ?_⟩) | (intro _) | kernel_rfl)
theorem zcl (φ : Nat) : z1k TV Tryz.prog 54 (z5w φ) :=
 z1z (N := z9u Tryz.prog φ) (z05 ⟨zjl φ, trivial⟩ trivial trivial) (z60 φ) Tryz.func54 (by kernel_rfl) (zjv φ) (zkx φ)
def z6e (φ : Nat) : H TV (RTup TT [.val 2]) := .x
def z9f (P : Program) (φ : Nat) : Env TV := ⟨P, lk [], lk [], lk []⟩
theorem zjc (φ : Nat) (a) : (z5y φ).F a = fnX TV (z9f Tryz.prog φ) φ Tryz.f56 [0, 0, 0] [.val 2] (z6e φ) a := by kernel_rfl
theorem zj9 (φ : Nat) : fnO TV (z9f Tryz.prog φ) φ Tryz.f56 [.val 2] (z6e φ) := by
 unfold fnO
 show obl _ _ _ _ _ _ _
 unfold z6e
 repeat' (first | exact trivial | (refine ⟨?_, ?_⟩) | (intro _) | kernel_rfl)
theorem zch (φ : Nat) : z1k TV Tryz.prog 56 (z5y φ) :=
 z1z (N := z9f Tryz.prog φ) (z05 trivial trivial trivial) (z6e φ) Tryz.func56 (by kernel_rfl) (zjc φ) (zj9 φ)
def z8t (φ : Nat) : H TV (RTup TT [.val 0]) := (.seq .x (.seq .x (.seq .x (.seq .x (.seq (.seq .x (.body (.loop ⟨[(206, [(1, .ptr 0 0), (3, .ptr 1 0), (4, .func 86 [.ptr 1 0]), (41, .val 18), (42, .val 0), (43, .val 0)])], [.box 31 [.val 25], .box 41 [.val 0]]⟩ (fun n z => z34 φ n z.1 z.2.1 z.2.2.1 z.2.2.2.1 z.2.2.2.2.1) (fun zk7 => (.seq .x (.seq .x (.seq (.body (.seq .x (.seq (.seq .x (.body (.loop ⟨[(206, [(1, .ptr 0 0), (3, .ptr 1 0), (4, .func 86 [.ptr 1 0]), (6, .ptr 2 0), (41, .val 18), (42, .val 0), (43, .val 0), (55, .own 3), (56, .val 0), (57, .val 0)])], [.box 31 [.val 25], .box 41 [.val 0], .box 153 [.val 17], .row 3 0]⟩ (fun n z => z1y φ (fun a0 a1 a2 a3 a4 => zk7 (a0, a1, a2, a3, a4, ())) n z.1 z.2.1 z.2.2.1 z.2.2.2.1 z.2.2.2.2.1 z.2.2.2.2.2.1 z.2.2.2.2.2.2.1 z.2.2.2.2.2.2.2.1 z.2.2.2.2.2.2.2.2.1) (fun zk17 => .x)))) .x))) .x))))))) (.seq (.seq .x (.body (.loop ⟨[(206, [(1, .ptr 0 0), (3, .ptr 1 0), (4, .func 86 [.ptr 1 0]), (83, .val 20), (84, .val 0), (85, .val 0)])], [.box 31 [.val 25], .box 41 [.val 0]]⟩ (fun n z => z0d φ n z.1 z.2.1 z.2.2.1 z.2.2.2.1 z.2.2.2.2.1) (fun zk27 => .x)))) (.seq (.seq .x (.body (.loop ⟨[(206, [(1, .ptr 0 0), (3, .ptr 1 0), (4, .func 86 [.ptr 1 0]), (120, .val 22), (121, .val 0), (122, .val 0)])], [.box 31 [.val 25], .box 41 [.val 0]]⟩ (fun n z => z10 φ n z.1 z.2.1 z.2.2.1 z.2.2.2.1 z.2.2.2.2.1) (fun zk40 => .x)))) (.seq .x (.seq (.seq .x (.body (.loop ⟨[(206, [(3, .ptr 0 0), (4, .func 86 [.ptr 0 0]), (13, .ptr 1 0), (158, .val 24), (159, .val 0), (160, .val 0)])], [.box 41 [.val 0], .box 179 [.val 36]]⟩ (fun n z => zw φ n z.1 z.2.1 z.2.2.1 z.2.2.2.1 z.2.2.2.2.1) (fun zk49 => .x)))) .x)))))))))
def zbl (P : Program) (φ : Nat) : Env TV := ⟨P, lk [(56, z5y φ)], lk [], lk []⟩
theorem zne (φ : Nat) (a) : (zbs φ).F a = fnX TV (zbl Tryz.prog φ) φ Tryz.f55 [25] [.val 0] (z8t φ) a := by kernel_rfl
theorem zmi (φ : Nat) : fnO TV (zbl Tryz.prog φ) φ Tryz.f55 [.val 0] (z8t φ) := by
 unfold fnO
 show obl _ _ _ _ _ _ _
 unfold z8t
 repeat' (first | exact trivial | (refine ⟨?_, ?_⟩) | (intro _) | kernel_rfl)
theorem zn3 (φ : Nat) : z1k TV Tryz.prog 55 (zbs φ) :=
 z1z (N := zbl Tryz.prog φ) (z05 ⟨zch φ, trivial⟩ trivial trivial) (z8t φ) Tryz.func55 (by kernel_rfl) (zne φ) (zmi φ)
def z5e (φ : Nat) : H TV (RTup TT [.val 0]) := (.seq .x (.seq (.seq .x (.body (.loop ⟨[(45, [(1, .ptr 0 0), (9, .val 31), (10, .val 0)])], [.box 139 [.val 32]]⟩ (fun n z => z2i φ n z.1 z.2.1 z.2.2.1) (fun zk5 => .x)))) (.seq .x (.seq (.seq .x (.body (.loop ⟨[(45, [(5, .val 0), (30, .val 5), (31, .val 0), (32, .val 0)])], []⟩ (fun n z => z21 φ n z.1 z.2.1 z.2.2.1 z.2.2.2.1) (fun zk10 => .x)))) .x))))
def z7z (P : Program) (φ : Nat) : Env TV := ⟨P, lk [], lk [], lk []⟩
theorem zil (φ : Nat) (a) : (z84 φ).F a = fnX TV (z7z Tryz.prog φ) φ Tryz.f57 [32] [.val 0] (z5e φ) a := by kernel_rfl
theorem zii (φ : Nat) : fnO TV (z7z Tryz.prog φ) φ Tryz.f57 [.val 0] (z5e φ) := by
 unfold fnO
 show obl _ _ _ _ _ _ _
 unfold z5e
 repeat' (first | exact trivial | (refine ⟨?_, ?_⟩) | (intro _) | kernel_rfl)
theorem zia (φ : Nat) : z1k TV Tryz.prog 57 (z84 φ) :=
 z1z (N := z7z Tryz.prog φ) (z05 trivial trivial trivial) (z5e φ) Tryz.func57 (by kernel_rfl) (zil φ) (zii φ)
def zah (φ : Nat) : H TV (RTup TT [.val 16, .val 16]) := .x
def zd8 (P : Program) (φ : Nat) : Env TV := ⟨P, lk [], lk [], lk []⟩
theorem zog (φ : Nat) (a) : (zak φ).F a = fnX TV (zd8 Tryz.prog φ) φ Tryz.f141 [16, 16] [.val 16, .val 16] (zah φ) a := by kernel_rfl
theorem zp9 (φ : Nat) : fnO TV (zd8 Tryz.prog φ) φ Tryz.f141 [.val 16, .val 16] (zah φ) := by
 unfold fnO
 show obl _ _ _ _ _ _ _
 unfold zah
 repeat' (first | exact trivial | (refine ⟨?_, ?_⟩) | (intro _) | kernel_rfl)
theorem zhw (φ : Nat) : z1k TV Tryz.prog 141 (zak φ) :=
 z1z (N := zd8 Tryz.prog φ) (z05 trivial trivial trivial) (zah φ) Tryz.func141 (by kernel_rfl) (zog φ) (zp9 φ)
def z33 (φ : Nat) : H TV (RTup TT [.val 0]) := (.seq .x (.seq (.ins 1 110 (.seq .x (.seq (.join ⟨[(25, [(0, .val 16), (2, .val 0)]), (6, [])], []⟩ (fun z => z1j φ z.1 z.2.1) (.seq .x .x)) (.seq (.join ⟨[(25, [(0, .val 16), (2, .val 0)]), (6, [])], []⟩ (fun z => z1l φ z.1 z.2.1) (.seq .x .x)) (.seq (.join ⟨[(25, [(0, .val 16), (2, .val 0)]), (6, [])], []⟩ (fun z => z1d φ z.1 z.2.1) (.seq .x .x)) .x)))) .x) .x))
def z4a (P : Program) (φ : Nat) : Env TV := ⟨P, lk [], lk [], lk []⟩
theorem zck (φ : Nat) (a) : (z47 φ).F a = fnX TV (z4a Tryz.prog φ) φ Tryz.f169 [16] [.val 0] (z33 φ) a := by kernel_rfl
theorem zcw (φ : Nat) : fnO TV (z4a Tryz.prog φ) φ Tryz.f169 [.val 0] (z33 φ) := by
 unfold fnO
 show obl _ _ _ _ _ _ _
 unfold z33
 repeat' (first | exact trivial | (refine ⟨?_, ?_⟩) | (intro _) | kernel_rfl)
theorem zdc (φ : Nat) : z1k TV Tryz.prog 169 (z47 φ) :=
 z1z (N := z4a Tryz.prog φ) (z05 trivial trivial trivial) (z33 φ) Tryz.func169 (by kernel_rfl) (zck φ) (zcw φ)
def zai (φ : Nat) : H TV (RTup TT [.val 16, .val 16]) := (.seq .x (.seq .x (.seq .x (.seq .x (.seq .x (.seq .x (.seq .x (.seq .x (.seq .x (.seq .x (.seq .x (.seq .x (.seq .x (.seq .x (.seq (.join ⟨[(135, [(2, .val 16), (8, .val 16), (9, .val 16), (10, .val 16), (11, .val 16), (13, .val 16), (14, .val 16), (15, .val 16)])], []⟩ (fun z => z4w φ z.1 z.2.1 z.2.2.1 z.2.2.2.1 z.2.2.2.2.1 z.2.2.2.2.2.1 z.2.2.2.2.2.2.1 z.2.2.2.2.2.2.2.1) (.body (.loop ⟨[(135, [(2, .val 16), (8, .val 16), (9, .val 16), (10, .val 16), (11, .val 16), (13, .val 16), (14, .val 16), (15, .val 16), (16, .val 16)])], []⟩ (fun n z => z58 φ n z.1 z.2.1 z.2.2.1 z.2.2.2.1 z.2.2.2.2.1 z.2.2.2.2.2.1 z.2.2.2.2.2.2.1 z.2.2.2.2.2.2.2.1 z.2.2.2.2.2.2.2.2.1) (fun zk40 => .x)))) (.seq .x (.seq .x (.seq .x (.seq (.join ⟨[(135, [(2, .val 16), (8, .val 16), (14, .val 16), (15, .val 16), (17, .val 16), (18, .val 16)])], []⟩ (fun z => z52 φ z.1 z.2.1 z.2.2.1 z.2.2.2.1 z.2.2.2.2.1 z.2.2.2.2.2.1) (.body (.loop ⟨[(135, [(2, .val 16), (8, .val 16), (9, .val 16), (10, .val 16), (14, .val 16), (15, .val 16), (16, .val 16), (17, .val 16), (18, .val 16)])], []⟩ (fun n z => z4x φ n z.1 z.2.1 z.2.2.1 z.2.2.2.1 z.2.2.2.2.1 z.2.2.2.2.2.1 z.2.2.2.2.2.2.1 z.2.2.2.2.2.2.2.1 z.2.2.2.2.2.2.2.2.1) (fun zk30 => .x)))) .x)))))))))))))))))))
def zcu (P : Program) (φ : Nat) : Env TV := ⟨P, lk [(169, z47 φ)], lk [], lk []⟩
theorem zr0 (φ : Nat) (a) : (zc7 φ).F a = fnX TV (zcu Tryz.prog φ) φ Tryz.f143 [16, 16, 16] [.val 16, .val 16] (zai φ) a := by kernel_rfl
theorem zom (φ : Nat) : fnO TV (zcu Tryz.prog φ) φ Tryz.f143 [.val 16, .val 16] (zai φ) := by
 unfold fnO
 show obl _ _ _ _ _ _ _
 unfold zai
 repeat' (first | exact trivial | (refine ⟨?_, ?_⟩) | (intro _) | kernel_rfl)
theorem zpj (φ : Nat) : z1k TV Tryz.prog 143 (zc7 φ) :=
 z1z (N := zcu Tryz.prog φ) (z05 ⟨zdc φ, trivial⟩ trivial trivial) (zai φ) Tryz.func143 (by kernel_rfl) (zr0 φ) (zom φ)
def zdr (φ : Nat) : H TV (RTup TT [.val 16]) := (.seq .x (.seq .x (.seq .x (.seq (.seq (.ins 1 110 (.seq .x (.seq (.join ⟨[(25, [(0, .val 16), (2, .val 0)]), (33, [(0, .val 16), (1, .val 16), (5, .func 142 [.ptr 0 0]), (6, .val 16)])], [.box 134 [.val 16]]⟩ (fun z => z9c φ z.1 z.2.1 z.2.2.1 z.2.2.2.1 z.2.2.2.2.1 z.2.2.2.2.2.1) (.seq .x .x)) (.seq (.join ⟨[(25, [(0, .val 16), (2, .val 0)]), (33, [(0, .val 16), (1, .val 16), (5, .func 142 [.ptr 0 0]), (6, .val 16)])], [.box 134 [.val 16]]⟩ (fun z => z7o φ z.1 z.2.1 z.2.2.1 z.2.2.2.1 z.2.2.2.2.1 z.2.2.2.2.2.1) (.seq .x .x)) (.seq (.join ⟨[(25, [(0, .val 16), (2, .val 0)]), (33, [(0, .val 16), (1, .val 16), (5, .func 142 [.ptr 0 0]), (6, .val 16)])], [.box 134 [.val 16]]⟩ (fun z => z7q φ z.1 z.2.1 z.2.2.1 z.2.2.2.1 z.2.2.2.2.1 z.2.2.2.2.2.1) (.seq .x .x)) .x)))) .x) (.body (.loop ⟨[(33, [(0, .val 16), (1, .val 16), (5, .func 142 [.ptr 0 0]), (6, .val 16), (10, .val 0), (11, .val 0)])], [.box 134 [.val 16]]⟩ (fun n z => z0m φ n z.1 z.2.1 z.2.2.1 z.2.2.2.1 z.2.2.2.2.1 z.2.2.2.2.2.1) (fun zk30 => (.seq .x (.seq .x (.seq (.body (.seq .x (.seq .x (.seq (.ins 2 110 (.seq .x (.seq (.join ⟨[(25, [(0, .val 16), (2, .val 0)]), (33, [(0, .val 16), (1, .val 16), (5, .func 142 [.ptr 0 0]), (6, .val 16), (7, .val 0), (10, .val 0), (11, .val 0), (18, .val 16)])], [.box 134 [.val 16]]⟩ (fun z => z32 φ (fun a0 a1 a2 a3 a4 a5 => zk30 (a0, a1, a2, a3, a4, a5, ())) z.1 z.2.1 z.2.2.1 z.2.2.2.1 z.2.2.2.2.1 z.2.2.2.2.2.1 z.2.2.2.2.2.2.1 z.2.2.2.2.2.2.2.1 z.2.2.2.2.2.2.2.2.1 z.2.2.2.2.2.2.2.2.2.1) (.seq .x .x)) (.seq (.join ⟨[(25, [(0, .val 16), (2, .val 0)]), (33, [(0, .val 16), (1, .val 16), (5, .func 142 [.ptr 0 0]), (6, .val 16), (7, .val 0), (10, .val 0), (11, .val 0), (18, .val 16)])], [.box 134 [.val 16]]⟩ (fun z => z7r φ (fun a0 a1 a2 a3 a4 a5 => zk30 (a0, a1, a2, a3, a4, a5, ())) z.1 z.2.1 z.2.2.1 z.2.2.2.1 z.2.2.2.2.1 z.2.2.2.2.2.1 z.2.2.2.2.2.2.1 z.2.2.2.2.2.2.2.1 z.2.2.2.2.2.2.2.2.1 z.2.2.2.2.2.2.2.2.2.1) (.seq .x .x)) (.seq (.join ⟨[(25, [(0, .val 16), (2, .val 0)]), (33, [(0, .val 16), (1, .val 16), (5, .func 142 [.ptr 0 0]), (6, .val 16), (7, .val 0), (10, .val 0), (11, .val 0), (18, .val 16)])], [.box 134 [.val 16]]⟩ (fun z => z7n φ (fun a0 a1 a2 a3 a4 a5 => zk30 (a0, a1, a2, a3, a4, a5, ())) z.1 z.2.1 z.2.2.1 z.2.2.2.1 z.2.2.2.2.1 z.2.2.2.2.2.1 z.2.2.2.2.2.2.1 z.2.2.2.2.2.2.2.1 z.2.2.2.2.2.2.2.2.1 z.2.2.2.2.2.2.2.2.2.1) (.seq .x .x)) .x)))) .x) .x)))) .x))))))) .x))))
def zhh (P : Program) (φ : Nat) : Env TV := ⟨P, lk [(141, zak φ), (143, zc7 φ)], lk [], lk []⟩
theorem zv7 (φ : Nat) (a) : (zh3 φ).F a = fnX TV (zhh Tryz.prog φ) φ Tryz.f87 [16, 16] [.val 16] (zdr φ) a := by kernel_rfl
theorem zvu (φ : Nat) : fnO TV (zhh Tryz.prog φ) φ Tryz.f87 [.val 16] (zdr φ) := by
 unfold fnO
 show obl _ _ _ _ _ _ _
 unfold zdr
 repeat' (first | exact trivial | (refine ⟨?_, ?_⟩) | (intro _) | kernel_rfl)
theorem zv4 (φ : Nat) : z1k TV Tryz.prog 87 (zh3 φ) :=
 z1z (N := zhh Tryz.prog φ) (z05 ⟨zhw φ, zpj φ, trivial⟩ trivial trivial) (zdr φ) Tryz.func87 (by kernel_rfl) (zv7 φ) (zvu φ)
def za7 (φ : Nat) : H TV (RTup TT [.val 2]) := .x
def zd2 (P : Program) (φ : Nat) : Env TV := ⟨P, lk [(87, zh3 φ)], lk [], lk []⟩
theorem zr3 (φ : Nat) (a) : (zdb φ).F a = fnX TV (zd2 Tryz.prog φ) φ Tryz.f58 [16] [.val 2] (za7 φ) a := by kernel_rfl
theorem zpo (φ : Nat) : fnO TV (zd2 Tryz.prog φ) φ Tryz.f58 [.val 2] (za7 φ) := by
 unfold fnO
 show obl _ _ _ _ _ _ _
 unfold za7
 repeat' (first | exact trivial | (refine ⟨?_, ?_⟩) | (intro _) | kernel_rfl)
theorem zpy (φ : Nat) : z1k TV Tryz.prog 58 (zdb φ) :=
 z1z (N := zd2 Tryz.prog φ) (z05 ⟨zv4 φ, trivial⟩ trivial trivial) (za7 φ) Tryz.func58 (by kernel_rfl) (zr3 φ) (zpo φ)
def z4f (φ : Nat) : H TV (RTup TT [.val 0]) := (.seq .x (.seq .x (.seq .x (.seq .x (.seq .x (.seq .x (.seq (.seq .x (.body (.loop ⟨[(193, [(1, .ptr 0 0), (5, .val 12), (6, .val 0), (7, .val 2), (57, .val 27), (58, .val 0), (59, .val 0)])], [.box 36 [.val 35]]⟩ (fun n z => z1r φ n z.1 z.2.1 z.2.2.1 z.2.2.2.1 z.2.2.2.2.1 z.2.2.2.2.2.1 z.2.2.2.2.2.2.1) (fun zk11 => .x)))) (.seq (.seq .x (.body (.loop ⟨[(193, [(1, .ptr 0 0), (5, .val 12), (6, .val 0), (7, .val 2), (92, .val 29), (93, .val 0), (94, .val 0)])], [.box 36 [.val 35]]⟩ (fun n z => z19 φ n z.1 z.2.1 z.2.2.1 z.2.2.2.1 z.2.2.2.2.1 z.2.2.2.2.2.1 z.2.2.2.2.2.2.1) (fun zk20 => .x)))) (.seq (.seq .x (.body (.loop ⟨[(193, [(1, .ptr 0 0), (5, .val 12), (6, .val 0), (7, .val 2), (120, .val 20), (121, .val 0), (122, .val 0)])], [.box 36 [.val 35]]⟩ (fun n z => z15 φ n z.1 z.2.1 z.2.2.1 z.2.2.2.1 z.2.2.2.2.1 z.2.2.2.2.2.1 z.2.2.2.2.2.2.1) (fun zk29 => .x)))) (.seq (.seq .x (.body (.loop ⟨[(193, [(1, .ptr 0 0), (6, .val 0), (7, .val 2), (135, .val 12), (136, .val 0), (137, .val 0)])], [.box 36 [.val 35]]⟩ (fun n z => z17 φ n z.1 z.2.1 z.2.2.1 z.2.2.2.1 z.2.2.2.2.1 z.2.2.2.2.2.1) (fun zk36 => .x)))) (.seq (.seq .x (.body (.loop ⟨[(193, [(1, .ptr 0 0), (6, .val 0), (7, .val 2), (157, .val 14), (158, .val 0), (159, .val 0)])], [.box 36 [.val 35]]⟩ (fun n z => z18 φ n z.1 z.2.1 z.2.2.1 z.2.2.2.1 z.2.2.2.2.1 z.2.2.2.2.2.1) (fun zk43 => .x)))) (.seq (.seq .x (.body (.loop ⟨[(193, [(7, .val 2), (172, .val 34), (173, .val 0), (174, .val 0)])], []⟩ (fun n z => z16 φ n z.1 z.2.1 z.2.2.1 z.2.2.2.1) (fun zk48 => .x)))) .x))))))))))))
def z7f (P : Program) (φ : Nat) : Env TV := ⟨P, lk [(54, z5w φ), (55, zbs φ), (56, z5y φ), (57, z84 φ), (58, zdb φ)], lk [], lk []⟩
theorem zhg (φ : Nat) (a) : (z3f φ).F a = fnX TV (z7f Tryz.prog φ) φ Tryz.f27 [35] [.val 0] (z4f φ) a := by kernel_rfl
theorem zgm (φ : Nat) : fnO TV (z7f Tryz.prog φ) φ Tryz.f27 [.val 0] (z4f φ) := by
 unfold fnO
 show obl _ _ _ _ _ _ _
 unfold z4f
 repeat' (first | exact trivial | (refine ⟨?_, ?_⟩) | (intro _) | kernel_rfl)
theorem z78 (φ : Nat) : z1k TV Tryz.prog 27 (z3f φ) :=
 z1z (N := z7f Tryz.prog φ) (z05 ⟨zcl φ, zn3 φ, zch φ, zia φ, zpy φ, trivial⟩ trivial trivial) (z4f φ) Tryz.func27 (by kernel_rfl) (zhg φ) (zgm φ)
def z6n (φ : Nat) : H TV (RTup TT [.val 2]) := .x
def z95 (P : Program) (φ : Nat) : Env TV := ⟨P, lk [], lk [], lk []⟩
theorem zke (φ : Nat) (a) : (z9m φ).F a = fnX TV (z95 Tryz.prog φ) φ Tryz.f129 [9] [.val 2] (z6n φ) a := by kernel_rfl
theorem zjd (φ : Nat) : fnO TV (z95 Tryz.prog φ) φ Tryz.f129 [.val 2] (z6n φ) := by
 unfold fnO
 show obl _ _ _ _ _ _ _
 unfold z6n
 repeat' (first | exact trivial | (refine ⟨?_, ?_⟩) | (intro _) | kernel_rfl)
theorem zjx (φ : Nat) : z1k TV Tryz.prog 129 (z9m φ) :=
 z1z (N := z95 Tryz.prog φ) (z05 trivial trivial trivial) (z6n φ) Tryz.func129 (by kernel_rfl) (zke φ) (zjd φ)
def zbf (φ : Nat) : H TV (RTup TT [.val 2]) := (.seq .x (.seq (.seq .x (.body (.loop ⟨[(43, [(0, .val 8), (1, .val 2), (7, .val 8), (8, .val 0), (9, .val 0)])], []⟩ (fun n z => z5t φ n z.1 z.2.1 z.2.2.1 z.2.2.2.1 z.2.2.2.2.1) (fun zk8 => .x)))) .x))
def zeh (P : Program) (φ : Nat) : Env TV := ⟨P, lk [], lk [], lk []⟩
theorem zse (φ : Nat) (a) : (zeg φ).F a = fnX TV (zeh Tryz.prog φ) φ Tryz.f180 [8, 2] [.val 2] (zbf φ) a := by kernel_rfl
theorem zsc (φ : Nat) : fnO TV (zeh Tryz.prog φ) φ Tryz.f180 [.val 2] (zbf φ) := by
 unfold fnO
 show obl _ _ _ _ _ _ _
 unfold zbf
 repeat' (first | exact trivial | (refine ⟨?_, ?_⟩) | (intro _) | kernel_rfl)
theorem zrk (φ : Nat) : z1k TV Tryz.prog 180 (zeg φ) :=
 z1z (N := zeh Tryz.prog φ) (z05 trivial trivial trivial) (zbf φ) Tryz.func180 (by kernel_rfl) (zse φ) (zsc φ)
def zae (φ : Nat) : H TV (RTup TT [.val 2]) := (.seq .x (.seq .x (.seq (.join ⟨[(46, [(5, .ptr 0 0)])], [.box 243 [.val 37]]⟩ (fun z => zi φ z.1) (.seq .x (.cond (.ins 0 161 (.seq .x (.seq .x (.seq .x (.seq .x (.body (.seq .x (.cond .x (.seq .x (.cond (.seq (.ins 1 176 (.seq .x (.seq (.join ⟨[(66, [(0, .ptr 0 0), (1, .val 0), (4, .ptr 1 0)]), (135, [(0, .ptr 0 0)]), (46, [(5, .ptr 0 0)])], [.box 243 [.val 37], .box 129 [.val 11]]⟩ (fun z => z6l φ z.1 z.2.1 z.2.2.1) (.seq .x .x)) .x)) .x) .x) (.seq (.join ⟨[(135, [(0, .ptr 0 0), (2, .ptr 0 9), (20, .val 0), (43, .val 2)]), (46, [(5, .ptr 0 0)])], [.box 243 [.val 37]]⟩ (fun z => z4o φ z.1 z.2.1 z.2.2.1) (.seq .x .x)) (.cond (.seq (.ins 1 176 (.seq .x (.seq (.join ⟨[(66, [(0, .ptr 0 0), (1, .val 0), (4, .ptr 1 0)]), (135, [(0, .ptr 0 0), (2, .ptr 0 9)]), (46, [(5, .ptr 0 0)])], [.box 243 [.val 37], .box 129 [.val 11]]⟩ (fun z => z57 φ z.1 z.2.1 z.2.2.1) (.seq .x .x)) .x)) .x) .x) (.seq .x (.cond (.seq .x (.seq .x (.seq (.ins 1 176 (.seq .x (.seq (.join ⟨[(66, [(0, .ptr 0 0), (1, .val 0), (4, .ptr 1 0)]), (135, [(0, .ptr 0 0), (2, .ptr 0 9)]), (46, [(5, .ptr 0 0)])], [.box 243 [.val 37], .box 129 [.val 11]]⟩ (fun z => z4y φ z.1 z.2.1 z.2.2.1) (.seq .x .x)) .x)) .x) .x))) (.seq (.join ⟨[(135, [(0, .ptr 0 0), (2, .ptr 0 9), (116, .val 2)]), (46, [(5, .ptr 0 0)])], [.box 243 [.val 37]]⟩ (fun z => z59 φ z.1 z.2.1) (.seq .x .x)) (.cond (.seq (.ins 1 176 (.seq .x (.seq (.join ⟨[(66, [(0, .ptr 0 0), (1, .val 0), (4, .ptr 1 0)]), (135, [(0, .ptr 0 0), (2, .ptr 0 9)]), (46, [(5, .ptr 0 0)])], [.box 243 [.val 37], .box 129 [.val 11]]⟩ (fun z => z54 φ z.1 z.2.1 z.2.2.1) (.seq .x .x)) .x)) .x) .x) .x))))))))))))))) .x) (.ins 0 162 (.seq .x (.seq .x (.body (.seq .x (.cond .x (.seq .x (.cond (.seq .x (.seq (.ins 1 176 (.seq .x (.seq (.join ⟨[(66, [(0, .ptr 0 0), (1, .val 0), (4, .ptr 1 0)]), (168, [(0, .ptr 0 0), (2, .ptr 0 9)]), (46, [(5, .ptr 0 0)])], [.box 243 [.val 37], .box 129 [.val 11]]⟩ (fun z => z56 φ z.1 z.2.1 z.2.2.1) (.seq .x .x)) .x)) .x) .x)) (.seq .x (.cond .x (.seq (.join ⟨[(168, [(0, .ptr 0 0), (2, .ptr 0 9), (9, .val 0), (91, .val 2)]), (46, [(5, .ptr 0 0)])], [.box 243 [.val 37]]⟩ (fun z => z35 φ z.1 z.2.1 z.2.2.1) (.seq .x .x)) (.cond .x (.seq .x (.cond .x (.seq .x (.cond (.seq .x (.seq (.ins 1 176 (.seq .x (.seq (.join ⟨[(66, [(0, .ptr 0 0), (1, .val 0), (4, .ptr 1 0)]), (168, [(0, .ptr 0 0), (2, .ptr 0 9)]), (46, [(5, .ptr 0 0)])], [.box 243 [.val 37], .box 129 [.val 11]]⟩ (fun z => z4z φ z.1 z.2.1 z.2.2.1) (.seq .x .x)) .x)) .x) .x)) .x))))))))))))))) .x)))) (.seq (.seq .x (.body (.unr 12 .x))) .x))))
def zda (P : Program) (φ : Nat) : Env TV := ⟨P, lk [(180, zeg φ)], lk [], lk []⟩
theorem zq5 (φ : Nat) (a) : (zd0 φ).F a = fnX TV (zda Tryz.prog φ) φ Tryz.f130 [35, 9] [.val 2] (zae φ) a := by kernel_rfl
theorem zpt (φ : Nat) : fnO TV (zda Tryz.prog φ) φ Tryz.f130 [.val 2] (zae φ) := by
 unfold fnO
 show obl _ _ _ _ _ _ _
 unfold zae
 repeat' (first | exact trivial | (refine ⟨?_, ?_⟩) | (intro _) | kernel_rfl)
theorem zq2 (φ : Nat) : z1k TV Tryz.prog 130 (zd0 φ) :=
 z1z (N := zda Tryz.prog φ) (z05 ⟨zrk φ, trivial⟩ trivial trivial) (zae φ) Tryz.func130 (by kernel_rfl) (zq5 φ) (zpt φ)
def zbn (φ : Nat) : H TV (RTup TT [.val 0]) := .x
def zez (P : Program) (φ : Nat) : Env TV := ⟨P, lk [(27, z3f φ), (129, z9m φ), (130, zd0 φ)], lk [], lk []⟩
theorem zsq (φ : Nat) (a) : (zel φ).F a = fnX TV (zez Tryz.prog φ) φ Tryz.f103 [35, 9] [.val 0] (zbn φ) a := by kernel_rfl
theorem zsh (φ : Nat) : fnO TV (zez Tryz.prog φ) φ Tryz.f103 [.val 0] (zbn φ) := by
 unfold fnO
 show obl _ _ _ _ _ _ _
 unfold zbn
 repeat' (first | exact trivial | (refine ⟨?_, ?_⟩) | (intro _) | kernel_rfl)
theorem zru (φ : Nat) : z1k TV Tryz.prog 103 (zel φ) :=
 z1z (N := zez Tryz.prog φ) (z05 ⟨z78 φ, zjx φ, zq2 φ, trivial⟩ trivial trivial) (zbn φ) Tryz.func103 (by kernel_rfl) (zsq φ) (zsh φ)
def z6g (φ : Nat) : H TV (RTup TT [.val 5]) := (.seq .x (.seq .x (.seq (.seq .x (.body (.loop ⟨[(26, [(2, .ptr 0 0), (5, .own 1), (8, .val 38), (9, .val 0), (10, .val 0)])], [.box 36 [.val 35], .row 3 0]⟩ (fun n z => z2d φ n z.1 z.2.1 z.2.2.1 z.2.2.2.1 z.2.2.2.2.1) (fun zk8 => .x)))) .x)))
def z90 (P : Program) (φ : Nat) : Env TV := ⟨P, lk [(103, zel φ)], lk [], lk []⟩
theorem zjr (φ : Nat) (a) : (z9k φ).F a = fnX TV (z90 Tryz.prog φ) φ Tryz.f75 [35, 38] [.val 5] (z6g φ) a := by kernel_rfl
theorem zkt (φ : Nat) : fnO TV (z90 Tryz.prog φ) φ Tryz.f75 [.val 5] (z6g φ) := by
 unfold fnO
 show obl _ _ _ _ _ _ _
 unfold z6g
 repeat' (first | exact trivial | (refine ⟨?_, ?_⟩) | (intro _) | kernel_rfl)
theorem zje (φ : Nat) : z1k TV Tryz.prog 75 (z9k φ) :=
 z1z (N := z90 Tryz.prog φ) (z05 ⟨zru φ, trivial⟩ trivial trivial) (z6g φ) Tryz.func75 (by kernel_rfl) (zjr φ) (zkt φ)
def z3y (φ : Nat) : H TV (RTup TT [.val 4]) := .x
def z5v (P : Program) (φ : Nat) : Env TV := ⟨P, lk [], lk [], lk []⟩
theorem zfn (φ : Nat) (a b) : (z6c φ).F a b = fnXc TV (z5v Tryz.prog φ) φ Tryz.f104 [0, 0] [9, 10, 0] [.val 4] (z3y φ) a b := by kernel_rfl
theorem zfj (φ : Nat) : fnO TV (z5v Tryz.prog φ) φ Tryz.f104 [.val 4] (z3y φ) := by
 unfold fnO
 show obl _ _ _ _ _ _ _
 unfold z3y
 repeat' (first | exact trivial | (refine ⟨?_, ?_⟩) | (intro _) | kernel_rfl)
theorem zfy (φ : Nat) : zvs TV Tryz.prog 104 (z6c φ) :=
 y00 (N := z5v Tryz.prog φ) (z05 trivial trivial trivial) (z3y φ) Tryz.func104 (by kernel_rfl) (zfn φ) (zfj φ)
theorem zd4 (φ : Nat) (x14 : Item) (x15 : zc) (x16 : Int) : z0b (z24 φ x14 x15 x16) (z5n φ x14 x15 x16) := by
 unfold z24 z5n
 repeat' (first | exact z0b.one | exact z0b.nil | refine z0b.cons ?_ ?_ | refine z0b.ck ?_ | exact z0b.same (n := 2) rfl | exact z0b.same (n := 3) rfl | exact z0b.same (n := 4) rfl | exact z0b.same (n := 6) rfl | refine z0b.bind fun _ => ?_)
def z5c (φ : Nat) : H TV (RTup TT [.val 39]) := (.seq .x (.seq .x (.seq .x (.seq (.seq .x (.body (.seq .x (.cond .x (.seq (.join ⟨[(68, [(7, .ptr 0 0), (8, .func 104 [.ptr 0 0, .ptr 1 0, .ptr 2 0]), (16, .val 0), (35, .val 2)])], [.box 81 [.val 9], .box 83 [.val 10], .box 3 [.val 0]]⟩ (fun z => z07 φ z.1 z.2.1 z.2.2.1 z.2.2.2.1 z.2.2.2.2.1) (.seq .x .x)) (.cond (.seq (.join ⟨[(68, [(10, .ptr 0 0), (11, .ptr 1 0)])], [.box 114 [.val 4], .box 114 [.val 4]]⟩ (fun z => z26 φ z.1 z.2.1) (.alt ⟨[(68, [(7, .ptr 0 0), (8, .func 104 [.ptr 0 0, .ptr 1 0, .ptr 2 0])])], [.box 81 [.val 9], .box 83 [.val 10], .box 3 [.val 0]]⟩ (fun z => z24 φ z.1 z.2.1 z.2.2.1) (fun z => z5n φ z.1 z.2.1 z.2.2.1))) .x) (.seq (.join ⟨[(68, [(7, .ptr 0 0), (8, .func 104 [.ptr 0 0, .ptr 1 0, .ptr 2 0]), (56, .val 2)])], [.box 81 [.val 9], .box 83 [.val 10], .box 3 [.val 0]]⟩ (fun z => z06 φ z.1 z.2.1 z.2.2.1 z.2.2.2.1) (.seq .x .x)) .x))))))) .x))))
def z8e (P : Program) (φ : Nat) : Env TV := ⟨P, lk [], lk [], lk [(104, z6c φ)]⟩
theorem zih (φ : Nat) (a) : (z8g φ).F a = fnX TV (z8e Tryz.prog φ) φ Tryz.f76 [35, 10, 0] [.val 39] (z5c φ) a := by kernel_rfl
theorem zir (φ : Nat) : fnO TV (z8e Tryz.prog φ) φ Tryz.f76 [.val 39] (z5c φ) := by
 unfold fnO
 show obl _ _ _ _ _ _ _
 unfold z5c
 repeat' (first | exact trivial | (refine ⟨?_, ?_⟩) | (intro _) | kernel_rfl | exact zd4 ..)
theorem zin (φ : Nat) : z1k TV Tryz.prog 76 (z8g φ) :=
 z1z (N := z8e Tryz.prog φ) (z05 trivial trivial ⟨zfy φ, trivial⟩) (z5c φ) Tryz.func76 (by kernel_rfl) (zih φ) (zir φ)
def z7j (φ : Nat) : H TV (RTup TT [.val 40]) := (.seq .x (.seq .x (.seq (.seq .x (.body (.loop ⟨[(63, [(1, .val 38), (2, .ptr 0 0), (5, .own 1), (19, .val 5), (20, .val 0), (21, .val 0)])], [.box 36 [.val 35], .nst 112 114 39 none]⟩ (fun n z => z2a φ n z.1 z.2.1 z.2.2.1 z.2.2.2.1 z.2.2.2.2.1 z.2.2.2.2.2.1) (fun zk10 => (.seq .x (.seq .x (.seq (.body (.seq .x (.seq .x (.seq .x (.cond (.seq .x (.foc (5, none) (9, none) .x)) .x))))) .x))))))) (.seq (.seq .x (.body (.loop ⟨[(63, [(5, .own 0), (51, .own 0), (52, .val 0), (53, .val 0)])], [.nst 112 114 39 none]⟩ (fun n z => z1i φ n z.1 z.2.1 z.2.2.1) (fun zk15 => (.seq .x (.seq .x (.seq (.body (.seq (.foc (5, none) (53, none) .x) (.seq .x (.ins 1 82 (.seq .x (.seq .x (.body (.loop ⟨[(48, [(0, .own 0), (2, .own 1), (6, .val 0), (7, .val 0)]), (63, [(5, .own 2), (51, .own 2), (52, .val 0), (53, .val 0)])], [.row 114 4, .map 0 2, .nst 112 114 39 (some 0)]⟩ (fun n z => z12 φ (fun a0 a1 a2 => zk15 (a0, a1, a2, ())) n z.1 z.2.1 z.2.2.1 z.2.2.2.1 z.2.2.2.2.1 z.2.2.2.2.2.1 z.2.2.2.2.2.2.1 z.2.2.2.2.2.2.2.1) (fun zk25 => (.seq .x (.seq .x (.seq (.body (.seq .x (.seq (.join ⟨[(48, [(0, .own 0), (2, .own 1), (3, .val 0), (6, .val 0), (7, .val 0)]), (63, [(5, .own 2), (51, .own 2), (52, .val 0), (53, .val 0)])], [.row 114 4, .map 0 2, .nst 112 114 39 (some 0)]⟩ (fun z => z2u φ (fun a0 a1 a2 a3 a4 a5 a6 a7 => zk25 (a0, a1, a2, a3, a4, a5, a6, a7, ())) z.1 z.2.1 z.2.2.1 z.2.2.2.1 z.2.2.2.2.1 z.2.2.2.2.2.1 z.2.2.2.2.2.2.1 z.2.2.2.2.2.2.2.1 z.2.2.2.2.2.2.2.2.1) (.seq .x .x)) .x))) .x)))))))) .x)))) .x))))))) .x))))
def zau (P : Program) (φ : Nat) : Env TV := ⟨P, lk [(75, z9k φ), (76, z8g φ)], lk [(77, zum)], lk []⟩
theorem zl6 (φ : Nat) (a) : (zao φ).F a = fnX TV (zau Tryz.prog φ) φ Tryz.f49 [35, 38] [.val 40] (z7j φ) a := by kernel_rfl
theorem zlg (φ : Nat) : fnO TV (zau Tryz.prog φ) φ Tryz.f49 [.val 40] (z7j φ) := by
 unfold fnO
 show obl _ _ _ _ _ _ _
 unfold z7j
 repeat' (first | exact trivial | (refine ⟨?_, ?_⟩) | (intro _) | kernel_rfl)
theorem zl7 (φ : Nat) : z1k TV Tryz.prog 49 (zao φ) :=
 z1z (N := zau Tryz.prog φ) (z05 ⟨zje φ, zin φ, trivial⟩ ⟨y4m, trivial⟩ trivial) (z7j φ) Tryz.func49 (by kernel_rfl) (zl6 φ) (zlg φ)
def z4g (φ : Nat) : H TV (RTup TT [.val 0, .val 0]) := (.seq .x (.seq (.ins 4 59 (.seq .x (.seq .x (.seq (.seq .x (.body (.loop ⟨[(77, [(2, .ptr 0 0), (4, .ptr 1 0), (19, .own 2), (20, .val 0), (21, .val 0)]), (30, [(1, .val 0), (2, .val 0), (3, .ptr 3 0)])], [.box 25 [.val 15], .box 147 [.own 4, .raw (.map none)], .row 3 0, .box 25 [.val 15], .row 46 5]⟩ (fun n z => z0a φ n z.1 z.2.1 z.2.2.1 z.2.2.2.1 z.2.2.2.2.1 z.2.2.2.2.2.1 z.2.2.2.2.2.2.1 z.2.2.2.2.2.2.2.1) (fun zk13 => .x)))) (.seq .x (.seq .x (.seq (.seq .x (.body (.loop ⟨[(77, [(4, .ptr 0 0), (8, .func 88 [.ptr 0 0, .ptr 1 0]), (44, .val 14), (45, .val 0), (46, .val 0)]), (30, [(1, .val 0), (2, .val 0), (3, .ptr 2 0)])], [.box 147 [.own 3, .own 4], .box 25 [.val 15], .box 25 [.val 15], .nst 46 3 5 none, .map 41 0]⟩ (fun n z => zq φ n z.1 z.2.1 z.2.2.1 z.2.2.2.1 z.2.2.2.2.1 z.2.2.2.2.2.1 z.2.2.2.2.2.2.1 z.2.2.2.2.2.2.2.1 z.2.2.2.2.2.2.2.2.1) (fun zk23 => (.seq .x (.seq .x (.seq (.body (.seq .x (.seq (.ins 6 88 (.seq .x (.seq .x (.seq (.join ⟨[(56, [(2, .val 0), (3, .ptr 0 0), (4, .ptr 1 0), (8, .ptr 2 0), (9, .val 0), (10, .val 2)]), (77, [(4, .ptr 0 0), (8, .func 88 [.ptr 0 0, .ptr 1 0]), (9, .val 0), (10, .ptr 3 0), (44, .val 14), (45, .val 0), (46, .val 0)]), (30, [(1, .val 0), (2, .val 0), (3, .ptr 4 0)])], [.box 147 [.own 5, .own 6], .box 25 [.val 15], .box 183 [.val 41], .box 133 [.val 13], .box 25 [.val 15], .nst 46 3 5 none, .map 41 0]⟩ (fun z => z2j φ (fun a0 a1 a2 a3 a4 a5 a6 a7 a8 => zk23 (a0, a1, a2, a3, a4, a5, a6, a7, a8, ())) z.1 z.2.1 z.2.2.1 z.2.2.2.1 z.2.2.2.2.1 z.2.2.2.2.2.1 z.2.2.2.2.2.2.1 z.2.2.2.2.2.2.2.1 z.2.2.2.2.2.2.2.2.1 z.2.2.2.2.2.2.2.2.2.1 z.2.2.2.2.2.2.2.2.2.2.1 z.2.2.2.2.2.2.2.2.2.2.2.1 z.2.2.2.2.2.2.2.2.2.2.2.2.1 z.2.2.2.2.2.2.2.2.2.2.2.2.2.1 z.2.2.2.2.2.2.2.2.2.2.2.2.2.2.1) (.seq .x (.cond (.foc (3, some 0) (0, none) .x) .x))) .x))) .x) (.ins 6 88 (.seq .x (.seq .x (.seq (.join ⟨[(56, [(2, .val 0), (3, .ptr 0 0), (4, .ptr 1 0), (8, .ptr 2 0), (9, .val 0), (10, .val 2)]), (77, [(4, .ptr 0 0), (8, .func 88 [.ptr 0 0, .ptr 1 0]), (44, .val 14), (45, .val 0), (46, .val 0)]), (30, [(1, .val 0), (2, .val 0), (3, .ptr 3 0)])], [.box 147 [.own 4, .own 5], .box 25 [.val 15], .box 183 [.val 41], .box 25 [.val 15], .nst 46 3 5 none, .map 41 0]⟩ (fun z => z2l φ (fun a0 a1 a2 a3 a4 a5 a6 a7 a8 => zk23 (a0, a1, a2, a3, a4, a5, a6, a7, a8, ())) z.1 z.2.1 z.2.2.1 z.2.2.2.1 z.2.2.2.2.1 z.2.2.2.2.2.1 z.2.2.2.2.2.2.1 z.2.2.2.2.2.2.2.1 z.2.2.2.2.2.2.2.2.1 z.2.2.2.2.2.2.2.2.2.1 z.2.2.2.2.2.2.2.2.2.2.1 z.2.2.2.2.2.2.2.2.2.2.2.1 z.2.2.2.2.2.2.2.2.2.2.2.2.1) (.seq .x (.cond (.foc (3, some 0) (0, none) .x) .x))) .x))) .x)))) .x))))))) (.seq (.seq .x (.body (.loop ⟨[(77, [(4, .ptr 0 0), (67, .own 1), (68, .val 0), (69, .val 0)]), (30, [(1, .val 0), (2, .val 0), (3, .ptr 2 0)])], [.box 147 [.own 1, .own 3], .nst 46 3 5 none, .box 25 [.val 15], .map 41 0]⟩ (fun n z => z14 φ n z.1 z.2.1 z.2.2.1 z.2.2.2.1 z.2.2.2.2.1 z.2.2.2.2.2.1 z.2.2.2.2.2.2.1) (fun zk75 => (.seq .x (.seq .x (.seq (.body (.seq (.foc (67, none) (69, none) .x) .x)) .x))))))) .x))))))) .x) (.seq .x (.seq (.seq (.ins 3 60 (.seq .x (.seq .x (.seq .x (.seq (.seq .x (.body (.loop ⟨[(118, [(2, .val 0), (3, .ptr 0 0), (4, .ptr 1 0), (7, .own 2), (8, .own 3), (23, .val 0), (24, .val 0)]), (30, [(2, .val 0)])], [.box 25 [.val 15], .box 147 [.own 4, .own 5], .row 3 0, .row 4 2, .nst 46 3 5 none, .map 41 0]⟩ (fun n z => z01 φ n z.1 z.2.1 z.2.2.1 z.2.2.2.1 z.2.2.2.2.1 z.2.2.2.2.2.1 z.2.2.2.2.2.2.1 z.2.2.2.2.2.2.2.1 z.2.2.2.2.2.2.2.2.1) (fun zk86 => .x)))) (.seq .x (.body (.loop ⟨[(118, [(3, .ptr 0 0), (4, .ptr 1 0), (7, .own 2), (8, .own 3)]), (30, [(2, .val 0)])], [.box 25 [.val 15], .box 147 [.own 4, .own 5], .row 3 0, .row 4 2, .nst 46 3 5 none, .map 41 0]⟩ (fun n z => zu φ n z.1 z.2.1 z.2.2.1 z.2.2.2.1 z.2.2.2.2.1 z.2.2.2.2.2.1) (fun zk93 => (.body (.seq .x (.seq (.seq .x (.body (.loop ⟨[(118, [(3, .ptr 0 0), (4, .ptr 1 0), (7, .own 2), (8, .own 3), (10, .val 0), (35, .val 0), (36, .val 0)]), (30, [(2, .val 0)])], [.box 25 [.val 15], .box 147 [.own 4, .own 5], .row 3 0, .row 4 2, .nst 46 3 5 none, .map 41 0]⟩ (fun n z => z0r φ (fun a0 a1 a2 a3 a4 a5 => zk93 (a0, a1, a2, a3, a4, a5, ())) n z.1 z.2.1 z.2.2.1 z.2.2.2.1 z.2.2.2.2.1 z.2.2.2.2.2.1 z.2.2.2.2.2.2.1 z.2.2.2.2.2.2.2.1 z.2.2.2.2.2.2.2.2.1) (fun zk103 => .x)))) (.seq .x (.seq .x (.seq (.foc (4, some 0) (10, none) .x) (.body (.loop ⟨[(118, [(3, .ptr 0 0), (4, .ptr 1 0), (7, .own 2), (8, .own 3), (10, .val 0), (78, .own 4), (79, .val 0), (80, .val 0)]), (30, [(2, .val 0)])], [.box 25 [.val 15], .box 147 [.own 5, .own 6], .row 3 0, .row 4 2, .row 3 0, .nst 46 3 5 (some 4), .map 41 0]⟩ (fun n z => z0s φ (fun a0 a1 a2 a3 a4 a5 => zk93 (a0, a1, a2, a3, a4, a5, ())) n z.1 z.2.1 z.2.2.1 z.2.2.2.1 z.2.2.2.2.1 z.2.2.2.2.2.1 z.2.2.2.2.2.2.1 z.2.2.2.2.2.2.2.1 z.2.2.2.2.2.2.2.2.1 z.2.2.2.2.2.2.2.2.2.1 z.2.2.2.2.2.2.2.2.2.2.1) (fun zk115 => .x))))))))))))))))) .x) .x) .x))))
def z6z (P : Program) (φ : Nat) : Env TV := ⟨P, lk [(54, z5w φ)], lk [(89, zpp)], lk []⟩
theorem zgq (φ : Nat) (a) : (z3c φ).F a = fnX TV (z6z Tryz.prog φ) φ Tryz.f28 [15, 0, 0] [.val 0, .val 0] (z4g φ) a := by kernel_rfl
theorem zhm (φ : Nat) : fnO TV (z6z Tryz.prog φ) φ Tryz.f28 [.val 0, .val 0] (z4g φ) := by
 unfold fnO
 show obl _ _ _ _ _ _ _
 unfold z4g
 repeat' (first | exact trivial | (refine ⟨?_, ?_⟩) | (intro _) | kernel_rfl)
theorem z72 (φ : Nat) : z1k TV Tryz.prog 28 (z3c φ) :=
 z1z (N := z6z Tryz.prog φ) (z05 ⟨zcl φ, trivial⟩ ⟨zwe, trivial⟩ trivial) (z4g φ) Tryz.func28 (by kernel_rfl) (zgq φ) (zhm φ)
def z7i (φ : Nat) : H TV (RTup TT [.val 0]) := .x
def zap (P : Program) (φ : Nat) : Env TV := ⟨P, lk [(28, z3c φ)], lk [], lk []⟩
theorem zlc (φ : Nat) (a) : (zat φ).F a = fnX TV (zap Tryz.prog φ) φ Tryz.f51 [15, 3, 3] [.val 0] (z7i φ) a := by kernel_rfl
theorem zl9 (φ : Nat) : fnO TV (zap Tryz.prog φ) φ Tryz.f51 [.val 0] (z7i φ) := by
 unfold fnO
 show obl _ _ _ _ _ _ _
 unfold z7i
 repeat' (first | exact trivial | (refine ⟨?_, ?_⟩) | (intro _) | kernel_rfl)
theorem zla (φ : Nat) : z1k TV Tryz.prog 51 (zat φ) :=
 z1z (N := zap Tryz.prog φ) (z05 ⟨z72 φ, trivial⟩ trivial trivial) (z7i φ) Tryz.func51 (by kernel_rfl) (zlc φ) (zl9 φ)
def z8l (φ : Nat) : H TV (RTup TT [.val 48, .val 0]) := (.seq .x (.seq .x (.seq .x (.seq .x (.seq .x (.seq (.seq .x (.body (.loop ⟨[(257, [(2, .ptr 0 0), (4, .ptr 1 0), (7, .val 40), (8, .ptr 2 0), (9, .own 3), (40, .val 40), (41, .val 0), (42, .val 0)])], [.box 36 [.val 35], .box 56 [.val 0, .own 4, .own 5, .own 6], .box 110 [.val 0, .own 7, .own 8, .own 9], .map 0 0, .row 69 42, .row 118 44, .row 63 46, .row 69 42, .row 118 44, .row 63 46]⟩ (fun n z => z1u φ n z.1 z.2.1 z.2.2.1 z.2.2.2.1 z.2.2.2.2.1 z.2.2.2.2.2.1 z.2.2.2.2.2.2.1 z.2.2.2.2.2.2.2.1 z.2.2.2.2.2.2.2.2.1 z.2.2.2.2.2.2.2.2.2.1 z.2.2.2.2.2.2.2.2.2.2.1 z.2.2.2.2.2.2.2.2.2.2.2.1 z.2.2.2.2.2.2.2.2.2.2.2.2.1 z.2.2.2.2.2.2.2.2.2.2.2.2.2.1) (fun zk19 => (.seq .x (.seq .x (.seq (.body (.seq .x (.seq .x (.body (.loop ⟨[(257, [(2, .ptr 0 0), (4, .ptr 1 0), (7, .val 40), (8, .ptr 2 0), (9, .own 3), (40, .val 40), (41, .val 0), (42, .val 0), (46, .val 39), (47, .val 0), (48, .val 0)])], [.box 36 [.val 35], .box 56 [.val 0, .own 4, .own 5, .own 6], .box 110 [.val 0, .own 7, .own 8, .own 9], .map 0 0, .row 69 42, .row 118 44, .row 63 46, .row 69 42, .row 118 44, .row 63 46]⟩ (fun n z => z1v φ (fun a0 a1 a2 a3 a4 a5 a6 a7 a8 a9 a10 a11 a12 a13 => zk19 (a0, a1, a2, a3, a4, a5, a6, a7, a8, a9, a10, a11, a12, a13, ())) n z.1 z.2.1 z.2.2.1 z.2.2.2.1 z.2.2.2.2.1 z.2.2.2.2.2.1 z.2.2.2.2.2.2.1 z.2.2.2.2.2.2.2.1 z.2.2.2.2.2.2.2.2.1 z.2.2.2.2.2.2.2.2.2.1 z.2.2.2.2.2.2.2.2.2.2.1 z.2.2.2.2.2.2.2.2.2.2.2.1 z.2.2.2.2.2.2.2.2.2.2.2.2.1 z.2.2.2.2.2.2.2.2.2.2.2.2.2.1 z.2.2.2.2.2.2.2.2.2.2.2.2.2.2.1 z.2.2.2.2.2.2.2.2.2.2.2.2.2.2.2.1 z.2.2.2.2.2.2.2.2.2.2.2.2.2.2.2.2.1) (fun zk37 => .x)))))) .x))))))) (.seq (.seq .x (.body (.loop ⟨[(257, [(2, .ptr 0 0), (4, .ptr 1 0), (7, .val 40), (8, .ptr 2 0), (9, .own 3), (61, .val 27), (62, .val 0), (63, .val 0)])], [.box 36 [.val 35], .box 56 [.val 0, .own 4, .own 5, .own 6], .box 110 [.val 0, .own 7, .own 8, .own 9], .map 0 0, .row 69 42, .row 118 44, .row 63 46, .row 69 42, .row 118 44, .row 63 46]⟩ (fun n z => z1e φ n z.1 z.2.1 z.2.2.1 z.2.2.2.1 z.2.2.2.2.1 z.2.2.2.2.2.1 z.2.2.2.2.2.2.1 z.2.2.2.2.2.2.2.1 z.2.2.2.2.2.2.2.2.1 z.2.2.2.2.2.2.2.2.2.1 z.2.2.2.2.2.2.2.2.2.2.1 z.2.2.2.2.2.2.2.2.2.2.2.1 z.2.2.2.2.2.2.2.2.2.2.2.2.1 z.2.2.2.2.2.2.2.2.2.2.2.2.2.1) (fun zk52 => (.seq .x (.seq .x (.seq (.body (.seq .x (.seq .x (.seq .x (.cond (.seq .x (.seq (.ins 20 50 (.seq .x (.seq .x (.body (.loop ⟨[(39, [(0, .ptr 0 0), (4, .ptr 1 0), (8, .own 2), (9, .val 0), (10, .val 0)]), (257, [(2, .ptr 3 0), (4, .ptr 4 0), (7, .val 40), (8, .ptr 0 0), (9, .own 5), (61, .val 27), (62, .val 0), (63, .val 0), (82, .ptr 0 0), (83, .val 44), (84, .ptr 0 0), (85, .ptr 0 0), (86, .ptr 0 0), (87, .ptr 0 0), (88, .val 0), (89, .ptr 6 1), (90, .val 0), (91, .val 0), (92, .val 42), (93, .ptr 0 0), (94, .ptr 0 0), (95, .ptr 0 0), (96, .ptr 0 0), (97, .val 0), (98, .ptr 6 2), (99, .val 0), (100, .val 42), (101, .own 2)])], [.box 110 [.val 0, .own 7, .own 8, .own 9], .box 118 [.val 44], .row 69 42, .box 36 [.val 35], .box 56 [.val 0, .own 10, .own 11, .own 12], .map 0 0, .box 116 [.val 26], .row 69 42, .row 118 44, .row 63 46, .row 69 42, .row 118 44, .row 63 46]⟩ (fun n z => z2m φ (fun a0 a1 a2 a3 a4 a5 a6 a7 a8 a9 a10 a11 a12 a13 => zk52 (a0, a1, a2, a3, a4, a5, a6, a7, a8, a9, a10, a11, a12, a13, ())) n z.1 z.2.1 z.2.2.1 z.2.2.2.1 z.2.2.2.2.1 z.2.2.2.2.2.1 z.2.2.2.2.2.2.1 z.2.2.2.2.2.2.2.1 z.2.2.2.2.2.2.2.2.1 z.2.2.2.2.2.2.2.2.2.1 z.2.2.2.2.2.2.2.2.2.2.1 z.2.2.2.2.2.2.2.2.2.2.2.1 z.2.2.2.2.2.2.2.2.2.2.2.2.1 z.2.2.2.2.2.2.2.2.2.2.2.2.2.1 z.2.2.2.2.2.2.2.2.2.2.2.2.2.2.1 z.2.2.2.2.2.2.2.2.2.2.2.2.2.2.2.1 z.2.2.2.2.2.2.2.2.2.2.2.2.2.2.2.2.1 z.2.2.2.2.2.2.2.2.2.2.2.2.2.2.2.2.2.1 z.2.2.2.2.2.2.2.2.2.2.2.2.2.2.2.2.2.2.1 z.2.2.2.2.2.2.2.2.2.2.2.2.2.2.2.2.2.2.2.1 z.2.2.2.2.2.2.2.2.2.2.2.2.2.2.2.2.2.2.2.2.1 z.2.2.2.2.2.2.2.2.2.2.2.2.2.2.2.2.2.2.2.2.2.1 z.2.2.2.2.2.2.2.2.2.2.2.2.2.2.2.2.2.2.2.2.2.2.1 z.2.2.2.2.2.2.2.2.2.2.2.2.2.2.2.2.2.2.2.2.2.2.2.1 z.2.2.2.2.2.2.2.2.2.2.2.2.2.2.2.2.2.2.2.2.2.2.2.2.1 z.2.2.2.2.2.2.2.2.2.2.2.2.2.2.2.2.2.2.2.2.2.2.2.2.2.1 z.2.2.2.2.2.2.2.2.2.2.2.2.2.2.2.2.2.2.2.2.2.2.2.2.2.2.1) (fun zk80 => .x))))) .x) .x)) .x))))) .x))))))) (.seq (.seq .x (.body (.loop ⟨[(257, [(2, .ptr 0 0), (4, .ptr 1 0), (8, .ptr 2 0), (9, .own 3), (113, .val 40), (114, .val 0), (115, .val 0)])], [.box 36 [.val 35], .box 56 [.val 0, .own 4, .own 5, .own 6], .box 110 [.val 0, .own 7, .own 8, .own 9], .map 0 0, .row 69 42, .row 118 44, .row 63 46, .row 69 42, .row 118 44, .row 63 46]⟩ (fun n z => z1w φ n z.1 z.2.1 z.2.2.1 z.2.2.2.1 z.2.2.2.2.1 z.2.2.2.2.2.1 z.2.2.2.2.2.2.1 z.2.2.2.2.2.2.2.1 z.2.2.2.2.2.2.2.2.1 z.2.2.2.2.2.2.2.2.2.1 z.2.2.2.2.2.2.2.2.2.2.1 z.2.2.2.2.2.2.2.2.2.2.2.1 z.2.2.2.2.2.2.2.2.2.2.2.2.1) (fun zk94 => (.seq .x (.seq .x (.seq (.body (.seq .x (.seq .x (.body (.loop ⟨[(257, [(2, .ptr 0 0), (4, .ptr 1 0), (8, .ptr 2 0), (9, .own 3), (19, .val 39), (113, .val 40), (114, .val 0), (115, .val 0), (119, .val 39), (120, .val 0), (121, .val 0)])], [.box 36 [.val 35], .box 56 [.val 0, .own 4, .own 5, .own 6], .box 110 [.val 0, .own 7, .own 8, .own 9], .map 0 0, .row 69 42, .row 118 44, .row 63 46, .row 69 42, .row 118 44, .row 63 46]⟩ (fun n z => z0c φ (fun a0 a1 a2 a3 a4 a5 a6 a7 a8 a9 a10 a11 a12 => zk94 (a0, a1, a2, a3, a4, a5, a6, a7, a8, a9, a10, a11, a12, ())) n z.1 z.2.1 z.2.2.1 z.2.2.2.1 z.2.2.2.2.1 z.2.2.2.2.2.1 z.2.2.2.2.2.2.1 z.2.2.2.2.2.2.2.1 z.2.2.2.2.2.2.2.2.1 z.2.2.2.2.2.2.2.2.2.1 z.2.2.2.2.2.2.2.2.2.2.1 z.2.2.2.2.2.2.2.2.2.2.2.1 z.2.2.2.2.2.2.2.2.2.2.2.2.1 z.2.2.2.2.2.2.2.2.2.2.2.2.2.1 z.2.2.2.2.2.2.2.2.2.2.2.2.2.2.1 z.2.2.2.2.2.2.2.2.2.2.2.2.2.2.2.1 z.2.2.2.2.2.2.2.2.2.2.2.2.2.2.2.2.1) (fun zk112 => (.seq .x (.seq .x (.seq (.body (.seq .x (.seq .x (.seq .x (.seq .x (.seq (.join ⟨[(257, [(2, .ptr 0 0), (4, .ptr 1 0), (8, .ptr 2 0), (9, .own 3), (19, .val 39), (20, .val 0), (21, .ptr 4 0), (22, .val 0), (113, .val 40), (114, .val 0), (115, .val 0), (119, .val 39), (120, .val 0), (121, .val 0)])], [.box 36 [.val 35], .box 56 [.val 0, .own 5, .own 6, .own 7], .box 110 [.val 0, .own 8, .own 9, .own 10], .map 0 0, .box 114 [.val 4], .row 69 42, .row 118 44, .row 63 46, .row 69 42, .row 118 44, .row 63 46]⟩ (fun z => z13 φ (fun a0 a1 a2 a3 a4 a5 a6 a7 a8 a9 a10 a11 a12 a13 a14 a15 a16 => zk112 (a0, a1, a2, a3, a4, a5, a6, a7, a8, a9, a10, a11, a12, a13, a14, a15, a16, ())) z.1 z.2.1 z.2.2.1 z.2.2.2.1 z.2.2.2.2.1 z.2.2.2.2.2.1 z.2.2.2.2.2.2.1 z.2.2.2.2.2.2.2.1 z.2.2.2.2.2.2.2.2.1 z.2.2.2.2.2.2.2.2.2.1 z.2.2.2.2.2.2.2.2.2.2.1 z.2.2.2.2.2.2.2.2.2.2.2.1 z.2.2.2.2.2.2.2.2.2.2.2.2.1 z.2.2.2.2.2.2.2.2.2.2.2.2.2.1 z.2.2.2.2.2.2.2.2.2.2.2.2.2.2.1 z.2.2.2.2.2.2.2.2.2.2.2.2.2.2.2.1 z.2.2.2.2.2.2.2.2.2.2.2.2.2.2.2.2.1 z.2.2.2.2.2.2.2.2.2.2.2.2.2.2.2.2.2.1 z.2.2.2.2.2.2.2.2.2.2.2.2.2.2.2.2.2.2.1 z.2.2.2.2.2.2.2.2.2.2.2.2.2.2.2.2.2.2.2.1) (.seq .x (.cond (.ins 10 50 (.seq .x (.seq .x (.body (.loop ⟨[(39, [(0, .ptr 0 0), (4, .ptr 1 0), (8, .own 2), (9, .val 0), (10, .val 0)]), (257, [(2, .ptr 3 0), (4, .ptr 4 0), (8, .ptr 0 0), (9, .own 5), (19, .val 39), (20, .val 0), (21, .ptr 6 0), (22, .val 0), (113, .val 40), (114, .val 0), (115, .val 0), (119, .val 39), (120, .val 0), (121, .val 0)])], [.box 110 [.val 0, .own 7, .own 8, .own 9], .box 118 [.val 44], .row 69 42, .box 36 [.val 35], .box 56 [.val 0, .own 10, .own 11, .own 12], .map 0 0, .box 114 [.val 4], .row 69 42, .row 118 44, .row 63 46, .row 69 42, .row 118 44, .row 63 46]⟩ (fun n z => z29 φ (fun a0 a1 a2 a3 a4 a5 a6 a7 a8 a9 a10 a11 a12 a13 a14 a15 a16 => zk112 (a0, a1, a2, a3, a4, a5, a6, a7, a8, a9, a10, a11, a12, a13, a14, a15, a16, ())) n z.1 z.2.1 z.2.2.1 z.2.2.2.1 z.2.2.2.2.1 z.2.2.2.2.2.1 z.2.2.2.2.2.2.1 z.2.2.2.2.2.2.2.1 z.2.2.2.2.2.2.2.2.1 z.2.2.2.2.2.2.2.2.2.1 z.2.2.2.2.2.2.2.2.2.2.1 z.2.2.2.2.2.2.2.2.2.2.2.1 z.2.2.2.2.2.2.2.2.2.2.2.2.1 z.2.2.2.2.2.2.2.2.2.2.2.2.2.1 z.2.2.2.2.2.2.2.2.2.2.2.2.2.2.1 z.2.2.2.2.2.2.2.2.2.2.2.2.2.2.2.1 z.2.2.2.2.2.2.2.2.2.2.2.2.2.2.2.2.1 z.2.2.2.2.2.2.2.2.2.2.2.2.2.2.2.2.2.1 z.2.2.2.2.2.2.2.2.2.2.2.2.2.2.2.2.2.2.1 z.2.2.2.2.2.2.2.2.2.2.2.2.2.2.2.2.2.2.2.1 z.2.2.2.2.2.2.2.2.2.2.2.2.2.2.2.2.2.2.2.2.1 z.2.2.2.2.2.2.2.2.2.2.2.2.2.2.2.2.2.2.2.2.2.1 z.2.2.2.2.2.2.2.2.2.2.2.2.2.2.2.2.2.2.2.2.2.2.1 z.2.2.2.2.2.2.2.2.2.2.2.2.2.2.2.2.2.2.2.2.2.2.2.1) (fun zk195 => .x))))) .x) (.seq .x (.ins 16 50 (.seq .x (.seq .x (.body (.loop ⟨[(39, [(0, .ptr 0 0), (4, .ptr 1 0), (8, .own 2), (9, .val 0), (10, .val 0)]), (257, [(2, .ptr 3 0), (4, .ptr 4 0), (8, .ptr 0 0), (9, .own 5), (19, .val 39), (20, .val 0), (21, .ptr 6 0), (22, .val 0), (113, .val 40), (114, .val 0), (115, .val 0), (119, .val 39), (120, .val 0), (121, .val 0)])], [.box 110 [.val 0, .own 7, .own 8, .own 9], .box 118 [.val 44], .row 69 42, .box 36 [.val 35], .box 56 [.val 0, .own 10, .own 11, .own 12], .map 0 0, .box 114 [.val 4], .row 69 42, .row 118 44, .row 63 46, .row 69 42, .row 118 44, .row 63 46]⟩ (fun n z => z2b φ (fun a0 a1 a2 a3 a4 a5 a6 a7 a8 a9 a10 a11 a12 a13 a14 a15 a16 => zk112 (a0, a1, a2, a3, a4, a5, a6, a7, a8, a9, a10, a11, a12, a13, a14, a15, a16, ())) n z.1 z.2.1 z.2.2.1 z.2.2.2.1 z.2.2.2.2.1 z.2.2.2.2.2.1 z.2.2.2.2.2.2.1 z.2.2.2.2.2.2.2.1 z.2.2.2.2.2.2.2.2.1 z.2.2.2.2.2.2.2.2.2.1 z.2.2.2.2.2.2.2.2.2.2.1 z.2.2.2.2.2.2.2.2.2.2.2.1 z.2.2.2.2.2.2.2.2.2.2.2.2.1 z.2.2.2.2.2.2.2.2.2.2.2.2.2.1 z.2.2.2.2.2.2.2.2.2.2.2.2.2.2.1 z.2.2.2.2.2.2.2.2.2.2.2.2.2.2.2.1 z.2.2.2.2.2.2.2.2.2.2.2.2.2.2.2.2.1 z.2.2.2.2.2.2.2.2.2.2.2.2.2.2.2.2.2.1 z.2.2.2.2.2.2.2.2.2.2.2.2.2.2.2.2.2.2.1 z.2.2.2.2.2.2.2.2.2.2.2.2.2.2.2.2.2.2.2.1 z.2.2.2.2.2.2.2.2.2.2.2.2.2.2.2.2.2.2.2.2.1 z.2.2.2.2.2.2.2.2.2.2.2.2.2.2.2.2.2.2.2.2.2.1 z.2.2.2.2.2.2.2.2.2.2.2.2.2.2.2.2.2.2.2.2.2.2.1 z.2.2.2.2.2.2.2.2.2.2.2.2.2.2.2.2.2.2.2.2.2.2.2.1) (fun zk220 => .x))))) .x))))) (.seq .x (.cond (.seq .x (.ins 19 50 (.seq .x (.seq .x (.body (.loop ⟨[(39, [(0, .ptr 0 0), (4, .ptr 1 0), (8, .own 2), (9, .val 0), (10, .val 0)]), (257, [(2, .ptr 3 0), (4, .ptr 4 0), (8, .ptr 0 0), (9, .own 5), (19, .val 39), (113, .val 40), (114, .val 0), (115, .val 0), (119, .val 39), (120, .val 0), (121, .val 0), (215, .ptr 0 0), (216, .ptr 6 2), (217, .val 1), (218, .ptr 7 0), (219, .ptr 7 2), (220, .val 1), (221, .val 44), (222, .val 0), (223, .val 0), (224, .val 0), (225, .ptr 3 0), (226, .val 15), (227, .val 3), (228, .ptr 7 0), (229, .val 3), (230, .val 0), (231, .val 0), (232, .val 42), (233, .own 2)])], [.box 110 [.val 0, .own 8, .own 9, .own 10], .box 118 [.val 44], .row 69 42, .box 36 [.val 35], .box 56 [.val 0, .own 11, .own 12, .own 13], .map 0 0, .box 65 [.val 3], .box 114 [.val 4], .row 69 42, .row 118 44, .row 63 46, .row 69 42, .row 118 44, .row 63 46]⟩ (fun n z => z2c φ (fun a0 a1 a2 a3 a4 a5 a6 a7 a8 a9 a10 a11 a12 a13 a14 a15 a16 => zk112 (a0, a1, a2, a3, a4, a5, a6, a7, a8, a9, a10, a11, a12, a13, a14, a15, a16, ())) n z.1 z.2.1 z.2.2.1 z.2.2.2.1 z.2.2.2.2.1 z.2.2.2.2.2.1 z.2.2.2.2.2.2.1 z.2.2.2.2.2.2.2.1 z.2.2.2.2.2.2.2.2.1 z.2.2.2.2.2.2.2.2.2.1 z.2.2.2.2.2.2.2.2.2.2.1 z.2.2.2.2.2.2.2.2.2.2.2.1 z.2.2.2.2.2.2.2.2.2.2.2.2.1 z.2.2.2.2.2.2.2.2.2.2.2.2.2.1 z.2.2.2.2.2.2.2.2.2.2.2.2.2.2.1 z.2.2.2.2.2.2.2.2.2.2.2.2.2.2.2.1 z.2.2.2.2.2.2.2.2.2.2.2.2.2.2.2.2.1 z.2.2.2.2.2.2.2.2.2.2.2.2.2.2.2.2.2.1 z.2.2.2.2.2.2.2.2.2.2.2.2.2.2.2.2.2.2.1 z.2.2.2.2.2.2.2.2.2.2.2.2.2.2.2.2.2.2.2.1 z.2.2.2.2.2.2.2.2.2.2.2.2.2.2.2.2.2.2.2.2.1 z.2.2.2.2.2.2.2.2.2.2.2.2.2.2.2.2.2.2.2.2.2.1 z.2.2.2.2.2.2.2.2.2.2.2.2.2.2.2.2.2.2.2.2.2.2.1 z.2.2.2.2.2.2.2.2.2.2.2.2.2.2.2.2.2.2.2.2.2.2.2.1 z.2.2.2.2.2.2.2.2.2.2.2.2.2.2.2.2.2.2.2.2.2.2.2.2.1 z.2.2.2.2.2.2.2.2.2.2.2.2.2.2.2.2.2.2.2.2.2.2.2.2.2.1 z.2.2.2.2.2.2.2.2.2.2.2.2.2.2.2.2.2.2.2.2.2.2.2.2.2.2.1 z.2.2.2.2.2.2.2.2.2.2.2.2.2.2.2.2.2.2.2.2.2.2.2.2.2.2.2.1 z.2.2.2.2.2.2.2.2.2.2.2.2.2.2.2.2.2.2.2.2.2.2.2.2.2.2.2.2.1 z.2.2.2.2.2.2.2.2.2.2.2.2.2.2.2.2.2.2.2.2.2.2.2.2.2.2.2.2.2.1 z.2.2.2.2.2.2.2.2.2.2.2.2.2.2.2.2.2.2.2.2.2.2.2.2.2.2.2.2.2.2.1 z.2.2.2.2.2.2.2.2.2.2.2.2.2.2.2.2.2.2.2.2.2.2.2.2.2.2.2.2.2.2.2.1 z.2.2.2.2.2.2.2.2.2.2.2.2.2.2.2.2.2.2.2.2.2.2.2.2.2.2.2.2.2.2.2.2.1 z.2.2.2.2.2.2.2.2.2.2.2.2.2.2.2.2.2.2.2.2.2.2.2.2.2.2.2.2.2.2.2.2.2.1 z.2.2.2.2.2.2.2.2.2.2.2.2.2.2.2.2.2.2.2.2.2.2.2.2.2.2.2.2.2.2.2.2.2.2.1) (fun zk170 => .x))))) .x)) .x)))))))) .x))))))))) .x))))))) .x))))))))
def zbg (P : Program) (φ : Nat) : Env TV := ⟨P, lk [(27, z3f φ), (49, zao φ), (51, zat φ)], lk [], lk []⟩
theorem znv (φ : Nat) (a) : (z8p φ).F a = fnX TV (zbg Tryz.prog φ) φ Tryz.f22 [35, 38] [.val 48, .val 0] (z8l φ) a := by kernel_rfl
theorem znp (φ : Nat) : fnO TV (zbg Tryz.prog φ) φ Tryz.f22 [.val 48, .val 0] (z8l φ) := by
 unfold fnO
 show obl _ _ _ _ _ _ _
 unfold z8l
 repeat' (first | exact trivial | (refine ⟨?_, ?_⟩) | (intro _) | kernel_rfl)
theorem zfc (φ : Nat) : z1k TV Tryz.prog 22 (z8p φ) :=
 z1z (N := zbg Tryz.prog φ) (z05 ⟨z78 φ, zl7 φ, zla φ, trivial⟩ trivial trivial) (z8l φ) Tryz.func22 (by kernel_rfl) (znv φ) (znp φ)
def zab (φ : Nat) : H TV (RTup TT [.val 0]) := (.seq .x (.seq .x (.seq .x (.seq (.seq .x (.body (.loop ⟨[(48, [(0, .val 0), (16, .val 43), (17, .val 0), (18, .val 0)])], []⟩ (fun n z => z4h φ n z.1 z.2.1 z.2.2.1 z.2.2.2.1) (fun zk7 => .x)))) .x))))
def zd6 (P : Program) (φ : Nat) : Env TV := ⟨P, lk [], lk [], lk []⟩
theorem zqi (φ : Nat) (a) : (zaf φ).F a = fnX TV (zd6 Tryz.prog φ) φ Tryz.f52 [0, 43] [.val 0] (zab φ) a := by kernel_rfl
theorem zql (φ : Nat) : fnO TV (zd6 Tryz.prog φ) φ Tryz.f52 [.val 0] (zab φ) := by
 unfold fnO
 show obl _ _ _ _ _ _ _
 unfold zab
 repeat' (first | exact trivial | (refine ⟨?_, ?_⟩) | (intro _) | kernel_rfl)
theorem zhr (φ : Nat) : z1k TV Tryz.prog 52 (zaf φ) :=
 z1z (N := zd6 Tryz.prog φ) (z05 trivial trivial trivial) (zab φ) Tryz.func52 (by kernel_rfl) (zqi φ) (zql φ)
end Px
end
section
set_option linter.unusedVariables false
set_option linter.unusedSimpArgs false
set_option maxHeartbeats 4000000
set_option maxRecDepth 100000
namespace Px
open Go Go.RowKit Go.Proofs
def za8 (φ : Nat) : H TV (RTup TT [.val 50, .val 50]) := .x
def zd5 (P : Program) (φ : Nat) : Env TV := ⟨P, lk [], lk [], lk []⟩
theorem zpw (φ : Nat) (a) : (zcz φ).F a = fnX TV (zd5 Tryz.prog φ) φ Tryz.f140 [50, 50] [.val 50, .val 50] (za8 φ) a := by kernel_rfl
theorem zpm (φ : Nat) : fnO TV (zd5 Tryz.prog φ) φ Tryz.f140 [.val 50, .val 50] (za8 φ) := by
 unfold fnO
 show obl _ _ _ _ _ _ _
 unfold za8
 repeat' (first | exact trivial | (refine ⟨?_, ?_⟩) | (intro _) | kernel_rfl)
theorem zq7 (φ : Nat) : z1k TV Tryz.prog 140 (zcz φ) :=
 z1z (N := zd5 Tryz.prog φ) (z05 trivial trivial trivial) (za8 φ) Tryz.func140 (by kernel_rfl) (zpw φ) (zpm φ)
def zdp (φ : Nat) : H TV (RTup TT [.val 16, .val 16]) := .x
def zhl (P : Program) (φ : Nat) : Env TV := ⟨P, lk [(140, zcz φ), (141, zak φ)], lk [], lk []⟩
theorem zuw (φ : Nat) (a) : (zhi φ).F a = fnX TV (zhl Tryz.prog φ) φ Tryz.f108 [16, 16] [.val 16, .val 16] (zdp φ) a := by kernel_rfl
theorem zuv (φ : Nat) : fnO TV (zhl Tryz.prog φ) φ Tryz.f108 [.val 16, .val 16] (zdp φ) := by
 unfold fnO
 show obl _ _ _ _ _ _ _
 unfold zdp
 repeat' (first | exact trivial | (refine ⟨?_, ?_⟩) | (intro _) | kernel_rfl)
theorem zve (φ : Nat) : z1k TV Tryz.prog 108 (zhi φ) :=
 z1z (N := zhl Tryz.prog φ) (z05 ⟨zq7 φ, zhw φ, trivial⟩ trivial trivial) (zdp φ) Tryz.func108 (by kernel_rfl) (zuw φ) (zuv φ)
def z6m (φ : Nat) : H TV (RTup TT [.row 3 0]) := (.seq .x (.seq .x (.seq .x (.seq .x (.seq .x (.seq .x (.seq (.body (.loop ⟨[(48, [(7, .own 0), (8, .val 0)])], [.row 3 0]⟩ (fun n z => z3p φ n z.1 z.2.1) (fun zk6 => .x))) .x)))))))
def z92 (P : Program) (φ : Nat) : Env TV := ⟨P, lk [(108, zhi φ)], lk [], lk []⟩
theorem zkc (φ : Nat) (a) : (z98 φ).F a = fnX TV (z92 Tryz.prog φ) φ Tryz.f83 [5, 0] [.row 3 0] (z6m φ) a := by kernel_rfl
theorem zk2 (φ : Nat) : fnO TV (z92 Tryz.prog φ) φ Tryz.f83 [.row 3 0] (z6m φ) := by
 unfold fnO
 show obl _ _ _ _ _ _ _
 unfold z6m
 repeat' (first | exact trivial | (refine ⟨?_, ?_⟩) | (intro _) | kernel_rfl)
theorem zju (φ : Nat) : z1k TV Tryz.prog 83 (z98 φ) :=
 z1z (N := z92 Tryz.prog φ) (z05 ⟨zve φ, trivial⟩ trivial trivial) (z6m φ) Tryz.func83 (by kernel_rfl) (zkc φ) (zk2 φ)
theorem zf4 (φ : Nat) (k24 : ((List za) -> Int -> Int -> Int -> (List za) -> Int -> Int -> (List Int) -> (List Int) -> Option ((List Int) × (List Int) × Int × Unit))) (x25 : Int) (x26 : Int) (x27 : (List za)) (x28 : Int) (x29 : Int) (x30 : Int) (x31 : Int) (x32 : (List za)) (x33 : Int) (x34 : Int) (x35 : za) (x36 : (List Int)) (x37 : (List Int)) : z0b (z48 φ k24 x25 x26 x27 x28 x29 x30 x31 x32 x33 x34 x35 x36 x37) (z81 φ k24 x25 x26 x27 x28 x29 x30 x31 x32 x33 x34 x35 x36 x37) := by
 unfold z48 z81
 repeat' (first | exact z0b.one | exact z0b.nil | refine z0b.cons ?_ ?_ | refine z0b.ck ?_ | exact z0b.same (n := 2) rfl | exact z0b.same (n := 3) rfl | exact z0b.same (n := 4) rfl | exact z0b.same (n := 6) rfl | refine z0b.bind fun _ => ?_)
theorem zg0 (φ : Nat) (x39 : Int) (x40 : (List Int)) (x41 : (List Int)) : z0b (z9j φ x39 x40 x41) (zbx φ x39 x40 x41) := by
 unfold z9j zbx
 repeat' (first | exact z0b.one | exact z0b.nil | refine z0b.cons ?_ ?_ | refine z0b.ck ?_ | exact z0b.same (n := 2) rfl | exact z0b.same (n := 3) rfl | exact z0b.same (n := 4) rfl | exact z0b.same (n := 6) rfl | refine z0b.bind fun _ => ?_)
theorem zfq (φ : Nat) (x43 : Int) (x44 : (List Int)) (x45 : (List Int)) : z0b (z6p φ x43 x44 x45) (z86 φ x43 x44 x45) := by
 unfold z6p z86
 repeat' (first | exact z0b.one | exact z0b.nil | refine z0b.cons ?_ ?_ | refine z0b.ck ?_ | exact z0b.same (n := 2) rfl | exact z0b.same (n := 3) rfl | exact z0b.same (n := 4) rfl | exact z0b.same (n := 6) rfl | refine z0b.bind fun _ => ?_)
theorem zfm (φ : Nat) (x47 : Int) (x48 : (List za)) (x49 : (List Int)) (x50 : (List Int)) : z0b (z44 φ x47 x48 x49 x50) (z85 φ x47 x48 x49 x50) := by
 unfold z44 z85
 constructor
 intro r h
 obtain ⟨hp, h⟩ := zaq h
 obtain ⟨y, hy, hk⟩ := bind_some h
 exact ⟨[some r, some r, some r], by simp [z7 hp, hy, catL, cat2]; exact hk, by simp⟩
def z8j (φ : Nat) : H TV (RTup TT [.val 5, .val 5, .val 0]) := (.seq .x (.seq (.join ⟨[(19, [(0, .val 0), (1, .val 43), (4, .ptr 0 0), (5, .ptr 1 0)])], [.box 46 [.own 2], .box 46 [.own 3], .row 3 0, .row 3 0]⟩ (fun z => z3t φ z.1 z.2.1 z.2.2.1 z.2.2.2.1) (.alt ⟨[(19, [(0, .val 0), (1, .val 43), (4, .ptr 0 0), (5, .ptr 1 0)])], [.box 46 [.own 2], .box 46 [.own 3], .row 3 0, .row 3 0]⟩ (fun z => z44 φ z.1 z.2.1 z.2.2.1 z.2.2.2.1) (fun z => z85 φ z.1 z.2.1 z.2.2.1 z.2.2.2.1))) (.seq (.ins 3 72 (.seq .x (.body (.seq .x (.seq .x (.seq (.seq .x (.body (.loop ⟨[(30, [(1, .val 43), (2, .func 84 [.ptr 0 0, .ptr 1 0]), (7, .val 0), (10, .val 0), (11, .val 0)]), (19, [(4, .ptr 0 0), (5, .ptr 1 0)])], [.box 46 [.own 2], .box 46 [.own 3], .row 3 0, .row 3 0]⟩ (fun n z => z3g φ n z.1 z.2.1 z.2.2.1 z.2.2.2.1 z.2.2.2.2.1 z.2.2.2.2.2.1) (fun zk14 => (.seq .x (.seq .x (.seq (.body (.seq .x (.seq (.seq .x (.body (.loop ⟨[(30, [(1, .val 43), (2, .func 84 [.ptr 0 0, .ptr 1 0]), (7, .val 0), (10, .val 0), (11, .val 0), (13, .val 43), (14, .val 0), (15, .val 0)]), (19, [(4, .ptr 0 0), (5, .ptr 1 0)])], [.box 46 [.own 2], .box 46 [.own 3], .row 3 0, .row 3 0]⟩ (fun n z => z1x φ (fun a0 a1 a2 a3 a4 a5 => zk14 (a0, a1, a2, a3, a4, a5, ())) n z.1 z.2.1 z.2.2.1 z.2.2.2.1 z.2.2.2.2.1 z.2.2.2.2.2.1 z.2.2.2.2.2.2.1 z.2.2.2.2.2.2.2.1 z.2.2.2.2.2.2.2.2.1) (fun zk24 => (.seq .x (.seq .x (.seq (.body (.seq .x (.seq (.ins 3 84 (.seq .x (.seq (.seq .x (.seq .x (.cond (.seq (.alt ⟨[(33, [(0, .val 0), (2, .ptr 0 0), (3, .ptr 1 0), (5, .ptr 2 0), (7, .val 0)]), (30, [(1, .val 43), (2, .func 84 [.ptr 0 0, .ptr 1 0]), (7, .val 0), (8, .val 0), (10, .val 0), (11, .val 0), (13, .val 43), (14, .val 0), (15, .val 0)]), (19, [(4, .ptr 0 0), (5, .ptr 1 0)])], [.box 46 [.own 3], .box 46 [.own 4], .box 69 [.val 42], .row 3 0, .row 3 0]⟩ (fun z => z48 φ (fun a0 a1 a2 a3 a4 a5 a6 a7 a8 => zk24 (a0, a1, a2, a3, a4, a5, a6, a7, a8, ())) z.1 z.2.1 z.2.2.1 z.2.2.2.1 z.2.2.2.2.1 z.2.2.2.2.2.1 z.2.2.2.2.2.2.1 z.2.2.2.2.2.2.2.1 z.2.2.2.2.2.2.2.2.1 z.2.2.2.2.2.2.2.2.2.1 z.2.2.2.2.2.2.2.2.2.2.1 z.2.2.2.2.2.2.2.2.2.2.2.1 z.2.2.2.2.2.2.2.2.2.2.2.2.1) (fun z => z81 φ (fun a0 a1 a2 a3 a4 a5 a6 a7 a8 => zk24 (a0, a1, a2, a3, a4, a5, a6, a7, a8, ())) z.1 z.2.1 z.2.2.1 z.2.2.2.1 z.2.2.2.2.1 z.2.2.2.2.2.1 z.2.2.2.2.2.2.1 z.2.2.2.2.2.2.2.1 z.2.2.2.2.2.2.2.2.1 z.2.2.2.2.2.2.2.2.2.1 z.2.2.2.2.2.2.2.2.2.2.1 z.2.2.2.2.2.2.2.2.2.2.2.1 z.2.2.2.2.2.2.2.2.2.2.2.2.1)) .x) .x))) .x)) .x) .x))) .x))))))) .x))) .x))))))) .x))))) .x) (.seq (.alt ⟨[(19, [(4, .ptr 0 0), (5, .ptr 1 0), (6, .val 0)])], [.box 46 [.own 2], .box 46 [.own 3], .row 3 0, .row 3 0]⟩ (fun z => z6p φ z.1 z.2.1 z.2.2.1) (fun z => z86 φ z.1 z.2.1 z.2.2.1)) .x))))
def zbr (P : Program) (φ : Nat) : Env TV := ⟨P, lk [(83, z98 φ)], lk [], lk []⟩
theorem znf (φ : Nat) (a) : (z8q φ).F a = fnX TV (zbr Tryz.prog φ) φ Tryz.f53 [0, 43] [.val 5, .val 5, .val 0] (z8j φ) a := by kernel_rfl
theorem zng (φ : Nat) : fnO TV (zbr Tryz.prog φ) φ Tryz.f53 [.val 5, .val 5, .val 0] (z8j φ) := by
 unfold fnO
 show obl _ _ _ _ _ _ _
 unfold z8j
 repeat' (first | exact trivial | (refine ⟨?_, ?_⟩) | (intro _) | kernel_rfl | exact zf4 .. | exact zg0 .. | exact zfq .. | exact zfm ..)
theorem zfe (φ : Nat) : z1k TV Tryz.prog 53 (z8q φ) :=
 z1z (N := zbr Tryz.prog φ) (z05 ⟨zju φ, trivial⟩ trivial trivial) (z8j φ) Tryz.func53 (by kernel_rfl) (znf φ) (zng φ)
def zam (φ : Nat) : H TV (RTup TT [.val 5, .val 0]) := .x
def zd7 (P : Program) (φ : Nat) : Env TV := ⟨P, lk [(52, zaf φ), (53, z8q φ)], lk [], lk []⟩
theorem zqs (φ : Nat) (a) : (z9z φ).F a = fnX TV (zd7 Tryz.prog φ) φ Tryz.f23 [0, 43] [.val 5, .val 0] (zam φ) a := by kernel_rfl
theorem zpu (φ : Nat) : fnO TV (zd7 Tryz.prog φ) φ Tryz.f23 [.val 5, .val 0] (zam φ) := by
 unfold fnO
 show obl _ _ _ _ _ _ _
 unfold zam
 repeat' (first | exact trivial | (refine ⟨?_, ?_⟩) | (intro _) | kernel_rfl)
theorem zhx (φ : Nat) : z1k TV Tryz.prog 23 (z9z φ) :=
 z1z (N := zd7 Tryz.prog φ) (z05 ⟨zhr φ, zfe φ, trivial⟩ trivial trivial) (zam φ) Tryz.func23 (by kernel_rfl) (zqs φ) (zpu φ)
def z3h (φ : Nat) : H TV (RTup TT [.val 5]) := (.seq .x (.seq .x (.seq (.seq .x (.body (.loop ⟨[(45, [(2, .ptr 0 0), (3, .ptr 1 0), (5, .ptr 2 0), (15, .val 0), (16, .val 0)])], [.box 56 [.val 48], .box 4 [.val 2], .box 46 [.own 3], .row 3 0]⟩ (fun n z => z0t φ n z.1 z.2.1 z.2.2.1 z.2.2.2.1 z.2.2.2.2.1) (fun zk8 => .x)))) (.seq .x (.seq .x (.seq (.seq .x (.body (.loop ⟨[(45, [(2, .ptr 0 0), (5, .ptr 1 0), (7, .ptr 2 0), (8, .func 90 [.ptr 3 0, .ptr 1 0, .ptr 2 0]), (27, .val 0), (28, .val 0)])], [.box 56 [.val 48], .box 46 [.own 4], .box 4 [.val 2], .box 4 [.val 2], .row 3 0]⟩ (fun n z => z1a φ n z.1 z.2.1 z.2.2.1 z.2.2.2.1 z.2.2.2.2.1 z.2.2.2.2.2.1) (fun zk15 => (.seq .x (.seq .x (.seq (.body (.seq .x (.seq .x (.seq .x (.body (.loop ⟨[(45, [(2, .ptr 0 0), (5, .ptr 1 0), (7, .ptr 2 0), (8, .func 90 [.ptr 3 0, .ptr 1 0, .ptr 2 0]), (27, .val 0), (28, .val 0), (33, .val 43), (34, .val 0), (35, .val 0)])], [.box 56 [.val 48], .box 46 [.own 4], .box 4 [.val 2], .box 4 [.val 2], .row 3 0]⟩ (fun n z => zy φ (fun a0 a1 a2 a3 a4 a5 => zk15 (a0, a1, a2, a3, a4, a5, ())) n z.1 z.2.1 z.2.2.1 z.2.2.2.1 z.2.2.2.2.1 z.2.2.2.2.2.1 z.2.2.2.2.2.2.1 z.2.2.2.2.2.2.2.1 z.2.2.2.2.2.2.2.2.1) (fun zk25 => (.seq .x (.seq .x (.seq (.body (.seq .x (.ins 2 90 (.seq .x (.seq .x (.seq (.join ⟨[(43, [(2, .ptr 0 0), (3, .ptr 1 0), (4, .ptr 2 0), (5, .val 0), (6, .val 0)]), (45, [(2, .ptr 3 0), (5, .ptr 0 0), (7, .ptr 1 0), (8, .func 90 [.ptr 4 0, .ptr 0 0, .ptr 1 0]), (27, .val 0), (28, .val 0), (33, .val 43), (34, .val 0), (35, .val 0)])], [.box 46 [.own 5], .box 4 [.val 2], .box 69 [.val 42], .box 56 [.val 48], .box 4 [.val 2], .row 3 0]⟩ (fun z => z1t φ (fun a0 a1 a2 a3 a4 a5 a6 a7 a8 => zk25 (a0, a1, a2, a3, a4, a5, a6, a7, a8, ())) z.1 z.2.1 z.2.2.1 z.2.2.2.1 z.2.2.2.2.1 z.2.2.2.2.2.1 z.2.2.2.2.2.2.1 z.2.2.2.2.2.2.2.1 z.2.2.2.2.2.2.2.2.1 z.2.2.2.2.2.2.2.2.2.1 z.2.2.2.2.2.2.2.2.2.2.1 z.2.2.2.2.2.2.2.2.2.2.2.1) (.seq .x .x)) .x))) .x))) .x)))))))))) .x))))))) .x))))))
def z5g (P : Program) (φ : Nat) : Env TV := ⟨P, lk [], lk [], lk []⟩
theorem zem (φ : Nat) (a) : (z3i φ).F a = fnX TV (z5g Tryz.prog φ) φ Tryz.f62 [48, 2] [.val 5] (z3h φ) a := by kernel_rfl
theorem zf0 (φ : Nat) : fnO TV (z5g Tryz.prog φ) φ Tryz.f62 [.val 5] (z3h φ) := by
 unfold fnO
 show obl _ _ _ _ _ _ _
 unfold z3h
 repeat' (first | exact trivial | (refine ⟨?_, ?_⟩) | (intro _) | kernel_rfl)
theorem z99 (φ : Nat) : z1k TV Tryz.prog 62 (z3i φ) :=
 z1z (N := z5g Tryz.prog φ) (z05 trivial trivial trivial) (z3h φ) Tryz.func62 (by kernel_rfl) (zem φ) (zf0 φ)
def z68 (φ : Nat) : H TV (RTup TT [.val 48, .val 51, .val 0]) := (.seq .x (.seq .x (.seq .x (.seq .x (.seq .x (.seq (.seq .x (.body (.loop ⟨[(72, [(4, .ptr 0 0), (5, .own 1), (9, .val 5), (10, .val 5), (40, .val 47), (41, .val 0), (42, .val 0)])], [.box 56 [.val 48], .row 65 3]⟩ (fun n z => z1m φ n z.1 z.2.1 z.2.2.1 z.2.2.2.1 z.2.2.2.2.1 z.2.2.2.2.2.1 z.2.2.2.2.2.2.1) (fun zk14 => .x)))) .x))))))
def z9p (P : Program) (φ : Nat) : Env TV := ⟨P, lk [(22, z8p φ), (23, z9z φ), (62, z3i φ)], lk [], lk []⟩
theorem zjb (φ : Nat) (a) : (z69 φ).F a = fnX TV (z9p Tryz.prog φ) φ Tryz.f38 [35, 38] [.val 48, .val 51, .val 0] (z68 φ) a := by kernel_rfl
theorem zji (φ : Nat) : fnO TV (z9p Tryz.prog φ) φ Tryz.f38 [.val 48, .val 51, .val 0] (z68 φ) := by
 unfold fnO
 show obl _ _ _ _ _ _ _
 unfold z68
 repeat' (first | exact trivial | (refine ⟨?_, ?_⟩) | (intro _) | kernel_rfl)
theorem zcg (φ : Nat) : z1k TV Tryz.prog 38 (z69 φ) :=
 z1z (N := z9p Tryz.prog φ) (z05 ⟨zfc φ, zhx φ, z99 φ, trivial⟩ trivial trivial) (z68 φ) Tryz.func38 (by kernel_rfl) (zjb φ) (zji φ)
def z5f (φ : Nat) : H TV (RTup TT [.val 51, .val 0]) := .x
def z88 (P : Program) (φ : Nat) : Env TV := ⟨P, lk [(38, z69 φ)], lk [], lk []⟩
theorem zig (φ : Nat) (a) : (z7w φ).F a = fnX TV (z88 Tryz.prog φ) φ Tryz.f12 [35, 38] [.val 51, .val 0] (z5f φ) a := by kernel_rfl
theorem zid (φ : Nat) : fnO TV (z88 Tryz.prog φ) φ Tryz.f12 [.val 51, .val 0] (z5f φ) := by
 unfold fnO
 show obl _ _ _ _ _ _ _
 unfold z5f
 repeat' (first | exact trivial | (refine ⟨?_, ?_⟩) | (intro _) | kernel_rfl)
theorem zij (φ : Nat) : z1k TV Tryz.prog 12 (z7w φ) :=
 z1z (N := z88 Tryz.prog φ) (z05 ⟨zcg φ, trivial⟩ trivial trivial) (z5f φ) Tryz.func12 (by kernel_rfl) (zig φ) (zid φ)
def z4b (φ : Nat) : H TV (RTup TT [.val 51, .val 0]) := (.seq .x (.seq (.ins 2 12 (.seq .x (.seq (.ins 2 38 (.seq .x (.seq .x (.seq .x (.seq .x (.seq .x (.seq (.seq .x (.body (.loop ⟨[(72, [(4, .ptr 0 0), (5, .own 1), (9, .val 5), (10, .val 5), (40, .val 47), (41, .val 0), (42, .val 0)]), (15, []), (30, [])], [.box 56 [.val 48], .row 65 3]⟩ (fun n z => z5l φ n z.1 z.2.1 z.2.2.1 z.2.2.2.1 z.2.2.2.2.1 z.2.2.2.2.2.1 z.2.2.2.2.2.2.1) (fun zk24 => .x)))) .x)))))) .x) .x)) .x) (.seq (.seq .x (.body (.loop ⟨[(30, [(4, .own 0), (5, .val 0), (14, .val 0), (15, .val 0)])], [.row 65 3]⟩ (fun n z => z5m φ n z.1 z.2.1 z.2.2.1 z.2.2.2.1) (fun zk29 => .x)))) .x)))
def z6y (P : Program) (φ : Nat) : Env TV := ⟨P, lk [(22, z8p φ), (23, z9z φ), (62, z3i φ)], lk [], lk []⟩
theorem zhj (φ : Nat) (a) : (z71 φ).F a = fnX TV (z6y Tryz.prog φ) φ Tryz.f18 [35, 38] [.val 51, .val 0] (z4b φ) a := by kernel_rfl
theorem zho (φ : Nat) : fnO TV (z6y Tryz.prog φ) φ Tryz.f18 [.val 51, .val 0] (z4b φ) := by
 unfold fnO
 show obl _ _ _ _ _ _ _
 unfold z4b
 repeat' (first | exact trivial | (refine ⟨?_, ?_⟩) | (intro _) | kernel_rfl)
theorem zgp (φ : Nat) : z1k TV Tryz.prog 18 (z71 φ) :=
 z1z (N := z6y Tryz.prog φ) (z05 ⟨zfc φ, zhx φ, z99 φ, trivial⟩ trivial trivial) (z4b φ) Tryz.func18 (by kernel_rfl) (zhj φ) (zho φ)
def z42 (φ : Nat) : H TV (RTup TT [.val 2]) := (.seq .x (.seq .x (.seq (.seq .x (.body (.loop ⟨[(26, [(0, .val 51), (1, .val 51), (5, .val 0)])], []⟩ (fun n z => z5i φ n z.1 z.2.1 z.2.2.1) (fun zk6 => .x)))) .x)))
def z6q (P : Program) (φ : Nat) : Env TV := ⟨P, lk [], lk [], lk []⟩
theorem zf9 (φ : Nat) (a) : (z6i φ).F a = fnX TV (z6q Tryz.prog φ) φ Tryz.f20 [51, 51] [.val 2] (z42 φ) a := by kernel_rfl
theorem zf6 (φ : Nat) : fnO TV (z6q Tryz.prog φ) φ Tryz.f20 [.val 2] (z42 φ) := by
 unfold fnO
 show obl _ _ _ _ _ _ _
 unfold z42
 repeat' (first | exact trivial | (refine ⟨?_, ?_⟩) | (intro _) | kernel_rfl)
theorem zfx (φ : Nat) : z1k TV Tryz.prog 20 (z6i φ) :=
 z1z (N := z6q Tryz.prog φ) (z05 trivial trivial trivial) (z42 φ) Tryz.func20 (by kernel_rfl) (zf9 φ) (zf6 φ)
def z8r (φ : Nat) : H TV (RTup TT [.val 48, .val 51, .val 0, .val 0, .val 0]) := (.seq .x (.seq .x (.seq .x (.seq .x (.seq (.body (.loop ⟨[(82, [(2, .val 0), (8, .ptr 0 0), (9, .val 51), (10, .val 0), (12, .val 0)])], [.box 56 [.val 48]]⟩ (fun n z => z2p φ n z.1 z.2.1 z.2.2.1 z.2.2.2.1 z.2.2.2.2.1) (fun zk12 => .x))) (.seq (.seq .x (.body (.loop ⟨[(82, [(2, .val 0), (8, .ptr 0 0), (9, .val 51), (10, .val 0), (11, .val 0), (12, .val 0)])], [.box 56 [.val 48]]⟩ (fun n z => z2k φ n z.1 z.2.1 z.2.2.1 z.2.2.2.1 z.2.2.2.2.1 z.2.2.2.2.2.1) (fun zk19 => .x)))) .x))))))
def zbo (P : Program) (φ : Nat) : Env TV := ⟨P, lk [(27, z3f φ), (38, z69 φ)], lk [], lk []⟩
theorem zmw (φ : Nat) (a) : (z8o φ).F a = fnX TV (zbo Tryz.prog φ) φ Tryz.f42 [35, 38, 0, 0] [.val 48, .val 51, .val 0, .val 0, .val 0] (z8r φ) a := by kernel_rfl
theorem zn6 (φ : Nat) : fnO TV (zbo Tryz.prog φ) φ Tryz.f42 [.val 48, .val 51, .val 0, .val 0, .val 0] (z8r φ) := by
 unfold fnO
 show obl _ _ _ _ _ _ _
 unfold z8r
 repeat' (first | exact trivial | (refine ⟨?_, ?_⟩) | (intro _) | kernel_rfl)
theorem zf8 (φ : Nat) : z1k TV Tryz.prog 42 (z8o φ) :=
 z1z (N := zbo Tryz.prog φ) (z05 ⟨z78 φ, zcg φ, trivial⟩ trivial trivial) (z8r φ) Tryz.func42 (by kernel_rfl) (zmw φ) (zn6 φ)
def z4c (φ : Nat) : H TV (RTup TT [.val 0, .val 2, .val 0]) := (.seq .x (.seq .x (.seq .x (.seq (.seq .x (.body (.loop ⟨[(64, [(3, .val 0), (12, .val 51), (13, .val 0), (14, .val 0), (15, .val 0)])], []⟩ (fun n z => z1s φ n z.1 z.2.1 z.2.2.1 z.2.2.2.1 z.2.2.2.2.1) (fun zk11 => .x)))) .x))))
def z7b (P : Program) (φ : Nat) : Env TV := ⟨P, lk [(42, z8o φ)], lk [], lk []⟩
theorem zh2 (φ : Nat) (a) : (z3e φ).F a = fnX TV (z7b Tryz.prog φ) φ Tryz.f14 [35, 38, 0, 0] [.val 0, .val 2, .val 0] (z4c φ) a := by kernel_rfl
theorem zh8 (φ : Nat) : fnO TV (z7b Tryz.prog φ) φ Tryz.f14 [.val 0, .val 2, .val 0] (z4c φ) := by
 unfold fnO
 show obl _ _ _ _ _ _ _
 unfold z4c
 repeat' (first | exact trivial | (refine ⟨?_, ?_⟩) | (intro _) | kernel_rfl)
theorem z7d (φ : Nat) : z1k TV Tryz.prog 14 (z3e φ) :=
 z1z (N := z7b Tryz.prog φ) (z05 ⟨zf8 φ, trivial⟩ trivial trivial) (z4c φ) Tryz.func14 (by kernel_rfl) (zh2 φ) (zh8 φ)
def z6h (φ : Nat) : H TV (RTup TT [.val 2]) := .x
def z9n (P : Program) (φ : Nat) : Env TV := ⟨P, lk [(33, z7u φ), (14, z3e φ)], lk [], lk []⟩
theorem zku (φ : Nat) (a) : (z9a φ).F a = fnX TV (z9n Tryz.prog φ) φ Tryz.f34 [38, 0] [.val 2] (z6h φ) a := by kernel_rfl
theorem zj7 (φ : Nat) : fnO TV (z9n Tryz.prog φ) φ Tryz.f34 [.val 2] (z6h φ) := by
 unfold fnO
 show obl _ _ _ _ _ _ _
 unfold z6h
 repeat' (first | exact trivial | (refine ⟨?_, ?_⟩) | (intro _) | kernel_rfl)
theorem zkd (φ : Nat) : z1k TV Tryz.prog 34 (z9a φ) :=
 z1z (N := z9n Tryz.prog φ) (z05 ⟨zcc φ, z7d φ, trivial⟩ trivial trivial) (z6h φ) Tryz.func34 (by kernel_rfl) (zku φ) (zj7 φ)
def z38 (φ : Nat) : H TV (RTup TT [.val 0, .val 2]) := .x
def z4i (P : Program) (φ : Nat) : Env TV := ⟨P, lk [(28, z3c φ)], lk [], lk []⟩
theorem zdy (φ : Nat) (a b) : (z4k φ).F a b = fnXc TV (z4i Tryz.prog φ) φ Tryz.f45 [0, 0] [35, 51, 0] [.val 0, .val 2] (z38 φ) a b := by kernel_rfl
theorem ze1 (φ : Nat) : fnO TV (z4i Tryz.prog φ) φ Tryz.f45 [.val 0, .val 2] (z38 φ) := by
 unfold fnO
 show obl _ _ _ _ _ _ _
 unfold z38
 repeat' (first | exact trivial | (refine ⟨?_, ?_⟩) | (intro _) | kernel_rfl)
theorem zdx (φ : Nat) : zvs TV Tryz.prog 45 (z4k φ) :=
 y00 (N := z4i Tryz.prog φ) (z05 ⟨z72 φ, trivial⟩ trivial trivial) (z38 φ) Tryz.func45 (by kernel_rfl) (zdy φ) (ze1 φ)
def z3a (φ : Nat) : H TV (RTup TT [.val 0, .val 2]) := .x
def z4j (P : Program) (φ : Nat) : Env TV := ⟨P, lk [(28, z3c φ)], lk [], lk []⟩
theorem zdz (φ : Nat) (a b) : (z4l φ).F a b = fnXc TV (z4j Tryz.prog φ) φ Tryz.f46 [0, 0] [35, 51, 0] [.val 0, .val 2] (z3a φ) a b := by kernel_rfl
theorem ze4 (φ : Nat) : fnO TV (z4j Tryz.prog φ) φ Tryz.f46 [.val 0, .val 2] (z3a φ) := by
 unfold fnO
 show obl _ _ _ _ _ _ _
 unfold z3a
 repeat' (first | exact trivial | (refine ⟨?_, ?_⟩) | (intro _) | kernel_rfl)
theorem ze0 (φ : Nat) : zvs TV Tryz.prog 46 (z4l φ) :=
 y00 (N := z4j Tryz.prog φ) (z05 ⟨z72 φ, trivial⟩ trivial trivial) (z3a φ) Tryz.func46 (by kernel_rfl) (zdz φ) (ze4 φ)
theorem zgw (φ : Nat) (k32 : ((List za) -> Int -> Int -> Int -> (List za) -> Int -> Int -> Int -> (List Bool) -> (List Int) -> Option (Int × Bool × Int × Unit))) (x33 : (List za)) (x34 : Int) (x35 : Int) (x36 : Int) (x37 : Int) (x38 : (List za)) (x39 : Int) (x40 : Int) (x41 : Int) (x42 : za) (x43 : (List Bool)) (x44 : (List Int)) : z0b (z4s φ k32 x33 x34 x35 x36 x37 x38 x39 x40 x41 x42 x43 x44) (z9o φ k32 x33 x34 x35 x36 x37 x38 x39 x40 x41 x42 x43 x44) := by
 unfold z4s z9o
 repeat' (first | exact z0b.one | exact z0b.nil | refine z0b.cons ?_ ?_ | refine z0b.ck ?_ | exact z0b.same (n := 2) rfl | exact z0b.same (n := 3) rfl | exact z0b.same (n := 4) rfl | exact z0b.same (n := 6) rfl | refine z0b.bind fun _ => ?_)
theorem zh6 (φ : Nat) (x46 : Int) (x47 : (List za)) (x48 : Int) (x49 : Int) : z0b (z4p φ x46 x47 x48 x49) (z9v φ x46 x47 x48 x49) := by
 unfold z4p z9v
 constructor
 intro r h
 obtain ⟨hp, h⟩ := zaq h
 obtain ⟨hq, h⟩ := zaq h
 refine ⟨List.replicate 30 (some r), ?_, fun a ha => (List.mem_replicate.1 ha).2⟩
 simp only [z7 hp, z7 hq, h]
 rfl
def za9 (φ : Nat) : H TV (RTup TT [.val 0, .val 2, .val 0]) := (.seq .x (.seq .x (.seq .x (.seq .x (.seq (.join ⟨[(62, [(0, .val 0), (1, .val 43), (2, .val 0), (3, .val 0), (14, .ptr 0 0), (15, .ptr 1 0)])], [.box 46 [.own 2], .box 162 [.own 3], .row 3 0, .row 4 2]⟩ (fun z => zf φ z.1 z.2.1 z.2.2.1 z.2.2.2.1 z.2.2.2.2.1 z.2.2.2.2.2.1) (.alt ⟨[(62, [(0, .val 0), (1, .val 43), (2, .val 0), (3, .val 0)])], []⟩ (fun z => z4p φ z.1 z.2.1 z.2.2.1 z.2.2.2.1) (fun z => z9v φ z.1 z.2.1 z.2.2.1 z.2.2.2.1))) (.seq .x (.seq (.ins 3 72 (.seq .x (.body (.seq .x (.seq .x (.seq (.seq .x (.body (.loop ⟨[(30, [(1, .val 43), (2, .func 73 [.ptr 0 0, .ptr 1 0]), (7, .val 0), (10, .val 0), (11, .val 0)]), (62, [(3, .val 0), (14, .ptr 1 0), (15, .ptr 0 0)])], [.box 162 [.own 2], .box 46 [.own 3], .row 4 2, .row 3 0]⟩ (fun n z => z3u φ n z.1 z.2.1 z.2.2.1 z.2.2.2.1 z.2.2.2.2.1 z.2.2.2.2.2.1 z.2.2.2.2.2.2.1) (fun zk21 => (.seq .x (.seq .x (.seq (.body (.seq .x (.seq (.seq .x (.body (.loop ⟨[(30, [(1, .val 43), (2, .func 73 [.ptr 0 0, .ptr 1 0]), (7, .val 0), (10, .val 0), (11, .val 0), (13, .val 43), (14, .val 0), (15, .val 0)]), (62, [(3, .val 0), (14, .ptr 1 0), (15, .ptr 0 0)])], [.box 162 [.own 2], .box 46 [.own 3], .row 4 2, .row 3 0]⟩ (fun n z => z2g φ (fun a0 a1 a2 a3 a4 a5 a6 => zk21 (a0, a1, a2, a3, a4, a5, a6, ())) n z.1 z.2.1 z.2.2.1 z.2.2.2.1 z.2.2.2.2.1 z.2.2.2.2.2.1 z.2.2.2.2.2.2.1 z.2.2.2.2.2.2.2.1 z.2.2.2.2.2.2.2.2.1 z.2.2.2.2.2.2.2.2.2.1) (fun zk32 => (.seq .x (.seq .x (.seq (.body (.seq .x (.seq (.ins 3 73 (.seq .x (.seq .x (.seq (.alt ⟨[(52, [(2, .ptr 0 0), (3, .ptr 1 0), (5, .ptr 2 0)]), (30, [(1, .val 43), (2, .func 73 [.ptr 0 0, .ptr 1 0]), (7, .val 0), (8, .val 0), (10, .val 0), (11, .val 0), (13, .val 43), (14, .val 0), (15, .val 0)]), (62, [(3, .val 0), (14, .ptr 1 0), (15, .ptr 0 0)])], [.box 162 [.own 3], .box 46 [.own 4], .box 69 [.val 42], .row 4 2, .row 3 0]⟩ (fun z => z4s φ (fun a0 a1 a2 a3 a4 a5 a6 a7 a8 a9 => zk32 (a0, a1, a2, a3, a4, a5, a6, a7, a8, a9, ())) z.1 z.2.1 z.2.2.1 z.2.2.2.1 z.2.2.2.2.1 z.2.2.2.2.2.1 z.2.2.2.2.2.2.1 z.2.2.2.2.2.2.2.1 z.2.2.2.2.2.2.2.2.1 z.2.2.2.2.2.2.2.2.2.1 z.2.2.2.2.2.2.2.2.2.2.1 z.2.2.2.2.2.2.2.2.2.2.2.1) (fun z => z9o φ (fun a0 a1 a2 a3 a4 a5 a6 a7 a8 a9 => zk32 (a0, a1, a2, a3, a4, a5, a6, a7, a8, a9, ())) z.1 z.2.1 z.2.2.1 z.2.2.2.1 z.2.2.2.2.1 z.2.2.2.2.2.1 z.2.2.2.2.2.2.1 z.2.2.2.2.2.2.2.1 z.2.2.2.2.2.2.2.2.1 z.2.2.2.2.2.2.2.2.2.1 z.2.2.2.2.2.2.2.2.2.2.1 z.2.2.2.2.2.2.2.2.2.2.2.1)) .x))) .x) .x))) .x))))))) .x))) .x))))))) .x))))) .x) .x)))))))
def zcr (P : Program) (φ : Nat) : Env TV := ⟨P, lk [(52, zaf φ), (53, z8q φ)], lk [], lk []⟩
theorem zoj (φ : Nat) (a) : (zcf φ).F a = fnX TV (zcr Tryz.prog φ) φ Tryz.f47 [0, 43, 0, 0] [.val 0, .val 2, .val 0] (za9 φ) a := by kernel_rfl
theorem zqb (φ : Nat) : fnO TV (zcr Tryz.prog φ) φ Tryz.f47 [.val 0, .val 2, .val 0] (za9 φ) := by
 unfold fnO
 show obl _ _ _ _ _ _ _
 unfold za9
 repeat' (first | exact trivial | (refine ⟨?_, ?_⟩) | (intro _) | kernel_rfl | exact zgw .. | exact zh6 ..)
theorem zoz (φ : Nat) : z1k TV Tryz.prog 47 (zcf φ) :=
 z1z (N := zcr Tryz.prog φ) (z05 ⟨zhr φ, zfe φ, trivial⟩ trivial trivial) (za9 φ) Tryz.func47 (by kernel_rfl) (zoj φ) (zqb φ)
def z43 (φ : Nat) : H TV (RTup TT [.val 5, .val 0]) := (.seq .x (.body (.seq .x (.seq .x (.seq .x (.seq .x (.seq .x (.seq (.seq .x (.body (.loop ⟨[(161, [(8, .own 0), (10, .ptr 1 0), (11, .ptr 2 0), (12, .val 0), (13, .val 0), (14, .func 45 [.ptr 3 0, .ptr 2 0, .ptr 4 0]), (15, .func 46 [.ptr 3 0, .ptr 2 0, .ptr 4 0]), (48, .val 0), (49, .val 0)])], [.row 3 0, .box 56 [.val 48], .box 40 [.val 51], .box 36 [.val 35], .box 3 [.val 0]]⟩ (fun n z => zx φ n z.1 z.2.1 z.2.2.1 z.2.2.2.1 z.2.2.2.2.1 z.2.2.2.2.2.1 z.2.2.2.2.2.2.1 z.2.2.2.2.2.2.2.1 z.2.2.2.2.2.2.2.2.1) (fun zk15 => (.seq .x (.seq .x (.seq (.body (.seq .x (.seq .x (.seq .x (.seq .x (.seq .x (.body (.loop ⟨[(161, [(8, .own 0), (10, .ptr 1 0), (11, .ptr 2 0), (12, .val 0), (13, .val 0), (14, .func 45 [.ptr 3 0, .ptr 2 0, .ptr 4 0]), (15, .func 46 [.ptr 3 0, .ptr 2 0, .ptr 4 0]), (16, .val 0), (21, .val 0), (48, .val 0), (49, .val 0)])], [.row 3 0, .box 56 [.val 48], .box 40 [.val 51], .box 36 [.val 35], .box 3 [.val 0]]⟩ (fun n z => z1g φ (fun a0 a1 a2 a3 a4 a5 a6 a7 a8 => zk15 (a0, a1, a2, a3, a4, a5, a6, a7, a8, ())) n z.1 z.2.1 z.2.2.1 z.2.2.2.1 z.2.2.2.2.1 z.2.2.2.2.2.1 z.2.2.2.2.2.2.1 z.2.2.2.2.2.2.2.1 z.2.2.2.2.2.2.2.2.1 z.2.2.2.2.2.2.2.2.2.1 z.2.2.2.2.2.2.2.2.2.2.1) (fun zk29 => .x))))))))) .x))))))) .x))))))))
def z6k (P : Program) (φ : Nat) : Env TV := ⟨P, lk [(42, z8o φ), (47, zcf φ)], lk [], lk [(45, z4k φ), (46, z4l φ)]⟩
theorem zga (φ : Nat) (a) : (z3z φ).F a = fnX TV (z6k Tryz.prog φ) φ Tryz.f16 [35, 38, 0, 0] [.val 5, .val 0] (z43 φ) a := by kernel_rfl
theorem zf1 (φ : Nat) : fnO TV (z6k Tryz.prog φ) φ Tryz.f16 [.val 5, .val 0] (z43 φ) := by
 unfold fnO
 show obl _ _ _ _ _ _ _
 unfold z43
 repeat' (first | exact trivial | (refine ⟨?_, ?_⟩) | (intro _) | kernel_rfl)
theorem za6 (φ : Nat) : z1k TV Tryz.prog 16 (z3z φ) :=
 z1z (N := z6k Tryz.prog φ) (z05 ⟨zf8 φ, zoz φ, trivial⟩ trivial ⟨zdx φ, ze0 φ, trivial⟩) (z43 φ) Tryz.func16 (by kernel_rfl) (zga φ) (zf1 φ)
def z5a (φ : Nat) : H TV (RTup TT [.val 2]) := (.seq .x (.seq .x (.seq (.seq .x (.body (.loop ⟨[(26, [(0, .val 5), (1, .val 5), (5, .val 0)])], []⟩ (fun n z => z73 φ n z.1 z.2.1 z.2.2.1) (fun zk6 => .x)))) .x)))
def z8f (P : Program) (φ : Nat) : Env TV := ⟨P, lk [], lk [], lk []⟩
theorem ziu (φ : Nat) (a) : (z8d φ).F a = fnX TV (z8f Tryz.prog φ) φ Tryz.f21 [5, 5] [.val 2] (z5a φ) a := by kernel_rfl
theorem zif (φ : Nat) : fnO TV (z8f Tryz.prog φ) φ Tryz.f21 [.val 2] (z5a φ) := by
 unfold fnO
 show obl _ _ _ _ _ _ _
 unfold z5a
 repeat' (first | exact trivial | (refine ⟨?_, ?_⟩) | (intro _) | kernel_rfl)
theorem zim (φ : Nat) : z1k TV Tryz.prog 21 (z8d φ) :=
 z1z (N := z8f Tryz.prog φ) (z05 trivial trivial trivial) (z5a φ) Tryz.func21 (by kernel_rfl) (ziu φ) (zif φ)
def z5d (φ : Nat) : H TV (RTup TT [.val 2]) := .x
def z82 (P : Program) (φ : Nat) : Env TV := ⟨P, lk [(33, z7u φ), (16, z3z φ), (21, z8d φ)], lk [], lk []⟩
theorem zi8 (φ : Nat) (a) : (z7x φ).F a = fnX TV (z82 Tryz.prog φ) φ Tryz.f35 [38, 0, 5] [.val 2] (z5d φ) a := by kernel_rfl
theorem zic (φ : Nat) : fnO TV (z82 Tryz.prog φ) φ Tryz.f35 [.val 2] (z5d φ) := by
 unfold fnO
 show obl _ _ _ _ _ _ _
 unfold z5d
 repeat' (first | exact trivial | (refine ⟨?_, ?_⟩) | (intro _) | kernel_rfl)
theorem zi6 (φ : Nat) : z1k TV Tryz.prog 35 (z7x φ) :=
 z1z (N := z82 Tryz.prog φ) (z05 ⟨zcc φ, za6 φ, zim φ, trivial⟩ trivial trivial) (z5d φ) Tryz.func35 (by kernel_rfl) (zi8 φ) (zic φ)
def zaj (φ : Nat) : H TV (RTup TT [.val 2]) := .x
def zdd (P : Program) (φ : Nat) : Env TV := ⟨P, lk [(31, zde φ), (32, zcj φ), (33, z7u φ), (12, z7w φ), (18, z71 φ), (20, z6i φ), (34, z9a φ), (35, z7x φ), (14, z3e φ)], lk [], lk []⟩
theorem zoq (φ : Nat) (a) : (zct φ).F a = fnX TV (zdd Tryz.prog φ) φ Tryz.f10 [] [.val 2] (zaj φ) a := by kernel_rfl
theorem zq1 (φ : Nat) : fnO TV (zdd Tryz.prog φ) φ Tryz.f10 [.val 2] (zaj φ) := by
 unfold fnO
 show obl _ _ _ _ _ _ _
 unfold zaj
 repeat' (first | exact trivial | (refine ⟨?_, ?_⟩) | (intro _) | kernel_rfl)
theorem zod (φ : Nat) : z1k TV Tryz.prog 10 (zct φ) :=
 z1z (N := zdd Tryz.prog φ) (z05 ⟨zpi φ, zph φ, zcc φ, zij φ, zgp φ, zfx φ, zkd φ, zi6 φ, z7d φ, trivial⟩ trivial trivial) (zaj φ) Tryz.func10 (by kernel_rfl) (zoq φ) (zq1 φ)
def z4d (φ : Nat) : H TV (RTup TT [.val 2]) := (.seq .x (.seq .x (.seq (.seq .x (.body (.loop ⟨[(65, [(1, .ptr 0 0), (3, .val 0)])], [.box 36 [.val 35]]⟩ (fun n z => z1f φ n z.1 z.2.1) (fun zk4 => .x)))) .x)))
def z79 (P : Program) (φ : Nat) : Env TV := ⟨P, lk [], lk [], lk []⟩
theorem zh0 (φ : Nat) (a) : (z7g φ).F a = fnX TV (z79 Tryz.prog φ) φ Tryz.f36 [35] [.val 2] (z4d φ) a := by kernel_rfl
theorem zgt (φ : Nat) : fnO TV (z79 Tryz.prog φ) φ Tryz.f36 [.val 2] (z4d φ) := by
 unfold fnO
 show obl _ _ _ _ _ _ _
 unfold z4d
 repeat' (first | exact trivial | (refine ⟨?_, ?_⟩) | (intro _) | kernel_rfl)
theorem zhk (φ : Nat) : z1k TV Tryz.prog 36 (z7g φ) :=
 z1z (N := z79 Tryz.prog φ) (z05 trivial trivial trivial) (z4d φ) Tryz.func36 (by kernel_rfl) (zh0 φ) (zgt φ)
def z40 (φ : Nat) : H TV (RTup TT [.val 2]) := (.seq .x (.seq .x (.seq (.seq .x (.body (.loop ⟨[(34, [(0, .val 38), (5, .val 0)])], []⟩ (fun n z => z1n φ n z.1 z.2.1) (fun zk5 => .x)))) .x)))
def z64 (P : Program) (φ : Nat) : Env TV := ⟨P, lk [], lk [], lk []⟩
theorem zg5 (φ : Nat) (a) : (z5x φ).F a = fnX TV (z64 Tryz.prog φ) φ Tryz.f37 [38, 0] [.val 2] (z40 φ) a := by kernel_rfl
theorem zfo (φ : Nat) : fnO TV (z64 Tryz.prog φ) φ Tryz.f37 [.val 2] (z40 φ) := by
 unfold fnO
 show obl _ _ _ _ _ _ _
 unfold z40
 repeat' (first | exact trivial | (refine ⟨?_, ?_⟩) | (intro _) | kernel_rfl)
theorem zfi (φ : Nat) : z1k TV Tryz.prog 37 (z5x φ) :=
 z1z (N := z64 Tryz.prog φ) (z05 trivial trivial trivial) (z40 φ) Tryz.func37 (by kernel_rfl) (zg5 φ) (zfo φ)
def zbi (φ : Nat) : H TV (RTup TT [.val 2]) := .x
def zet (P : Program) (φ : Nat) : Env TV := ⟨P, lk [(36, z7g φ), (37, z5x φ)], lk [], lk []⟩
theorem zsa (φ : Nat) (a) : (zed φ).F a = fnX TV (zet Tryz.prog φ) φ Tryz.f11 [35, 38] [.val 2] (zbi φ) a := by kernel_rfl
theorem zrt (φ : Nat) : fnO TV (zet Tryz.prog φ) φ Tryz.f11 [.val 2] (zbi φ) := by
 unfold fnO
 show obl _ _ _ _ _ _ _
 unfold zbi
 repeat' (first | exact trivial | (refine ⟨?_, ?_⟩) | (intro _) | kernel_rfl)
theorem zsv (φ : Nat) : z1k TV Tryz.prog 11 (zed φ) :=
 z1z (N := zet Tryz.prog φ) (z05 ⟨zhk φ, zfi φ, trivial⟩ trivial trivial) (zbi φ) Tryz.func11 (by kernel_rfl) (zsa φ) (zrt φ)
end Px
end
section
set_option linter.unusedVariables false
set_option linter.unusedSimpArgs false
set_option maxHeartbeats 4000000
set_option maxRecDepth 100000
namespace Px
open Go Go.RowKit Go.Proofs
def zb7 (φ : Nat) : H TV (RTup TT [.val 2]) := (.seq .x (.seq (.seq .x (.body (.loop ⟨[(18, [(0, .val 5), (1, .val 0), (5, .val 0)])], []⟩ (fun n z => z5o φ n z.1 z.2.1 z.2.2.1) (fun zk6 => .x)))) .x))
def zec (P : Program) (φ : Nat) : Env TV := ⟨P, lk [], lk [], lk []⟩
theorem zsw (φ : Nat) (a) : (zek φ).F a = fnX TV (zec Tryz.prog φ) φ Tryz.f26 [5, 0] [.val 2] (zb7 φ) a := by kernel_rfl
theorem zr6 (φ : Nat) : fnO TV (zec Tryz.prog φ) φ Tryz.f26 [.val 2] (zb7 φ) := by
 unfold fnO
 show obl _ _ _ _ _ _ _
 unfold zb7
 repeat' (first | exact trivial | (refine ⟨?_, ?_⟩) | (intro _) | kernel_rfl)
theorem zrv (φ : Nat) : z1k TV Tryz.prog 26 (zek φ) :=
 z1z (N := zec Tryz.prog φ) (z05 trivial trivial trivial) (zb7 φ) Tryz.func26 (by kernel_rfl) (zsw φ) (zr6 φ)
end Px
end
section
set_option linter.unusedVariables false
set_option linter.unusedSimpArgs false
set_option maxHeartbeats 4000000
set_option maxRecDepth 100000
namespace Px
open Go Go.RowKit Go.Proofs
theorem z8y (φ : Nat) (x23 : (List zc)) (x24 : Int) (x25 : Int) (x26 : Pool) (x27 : zc) : z0b (z1b φ x23 x24 x25 x26 x27) (z36 φ x23 x24 x25 x26 x27) := by
 unfold z1b z36
 repeat' (first | exact z0b.one | exact z0b.nil | refine z0b.cons ?_ ?_ | refine z0b.ck ?_ | exact z0b.same (n := 2) rfl | exact z0b.same (n := 3) rfl | exact z0b.same (n := 4) rfl | exact z0b.same (n := 6) rfl | refine z0b.bind fun _ => ?_)
def z2t (φ : Nat) : H TV (RTup TT [.val 2]) := (.seq .x (.seq .x (.seq (.join ⟨[(109, [(1, .val 38), (3, .val 0), (4, .val 0), (5, .ptr 0 0), (11, .own 1)])], [.box 36 [.val 35], .row 83 10]⟩ (fun z => z0k φ z.1 z.2.1 z.2.2.1 z.2.2.2.1 z.2.2.2.2.1) (.alt ⟨[(109, [(1, .val 38), (3, .val 0), (4, .val 0), (5, .ptr 0 0), (7, .ptr 1 0)])], [.box 36 [.val 35], .box 83 [.val 10]]⟩ (fun z => z1b φ z.1 z.2.1 z.2.2.1 z.2.2.2.1 z.2.2.2.2.1) (fun z => z36 φ z.1 z.2.1 z.2.2.1 z.2.2.2.1 z.2.2.2.2.1))) (.seq .x (.seq .x (.seq .x (.seq .x (.seq .x (.seq .x (.seq .x (.seq (.seq .x (.body (.loop ⟨[(109, [(12, .val 5), (14, .val 5), (22, .val 0)])], []⟩ (fun n z => z0j φ n z.1 z.2.1 z.2.2.1) (fun zk21 => .x)))) .x)))))))))))
def z3x (P : Program) (φ : Nat) : Env TV := ⟨P, lk [(10, zct φ), (11, zed φ), (16, z3z φ), (14, z3e φ), (26, zek φ)], lk [], lk []⟩
theorem zc5 (φ : Nat) (a) : (z2s φ).F a = fnX TV (z3x Tryz.prog φ) φ Tryz.f8 [35, 38, 10, 0, 0] [.val 2] (z2t φ) a := by kernel_rfl
theorem zc6 (φ : Nat) : fnO TV (z3x Tryz.prog φ) φ Tryz.f8 [.val 2] (z2t φ) := by
 unfold fnO
 show obl _ _ _ _ _ _ _
 unfold z2t
 repeat' (first | exact trivial | (refine ⟨?_, ?_⟩) | (intro _) | kernel_rfl | exact z8y ..)
theorem zc1 (φ : Nat) : z1k TV Tryz.prog 8 (z2s φ) :=
 z1z (N := z3x Tryz.prog φ) (z05 ⟨zod φ, zsv φ, za6 φ, z7d φ, zrv φ, trivial⟩ trivial trivial) (z2t φ) Tryz.func8 (by kernel_rfl) (zc5 φ) (zc6 φ)
end Px
end
section
namespace Px
open Go
set_option linter.unusedVariables false
set_option linter.unusedSimpArgs false
theorem z2w (φ : Nat) (a b c : Int) : zr φ a b c = some (bet a b c, ()) := rfl
def zkj (t : z2q) : Bool :=
 bet t.load 0 1000000 && bet t.tare 0 1000000 && bet t.length 0 1000000 && bet t.brake 0 1000000 && bet t.gauge 0 7 && bet t.life 1 1073741824 && bet t.floor 0 100
def zew (n : Int) (w : zlb) : Bool :=
 bet w.type_ 0 (n - 1) && bet w.owner 0 63 && bet w.home 0 511 && bet w.built 0 1073741824 && bet w.worth 0 1099511627776
def zly (n : Int) (s : Swap) : Bool := bet s.wanted 0 (n - 1) && bet s.given 0 (n - 1) && (s.wanted != s.given) && bet s.cost 0 1000000000
def zxd (w : Wash) : Bool := bet w.from_ 0 63 && bet w.to 0 63 && (w.from_ != w.to) && bet w.minutes 0 100000
def keyW (w : Wash) : Int := 64 * w.from_ + w.to
def z6o (l : List Wash) (i : Nat) : Bool := zxd (gt l (i : Int)) && !(l.take i).any fun v => keyW v == keyW (gt l (i : Int))
def za3 (l : List Wash) : Bool := (List.range l.length).all (z6o l)
def z67 (x : zav) : Int :=
 bif decide (32 < x.types.length) || decide (4096 < x.wagons.length) || decide (1024 < x.swaps.length) || decide (4096 < x.washes.length) then 2 else
 bif x.types.all zkj && x.wagons.all (zew x.types.length) && x.swaps.all (zly x.types.length) && za3 x.washes then 0 else 1
theorem ze9 (p : Nat -> Bool) (i : Nat) : (List.range (i + 1)).all p = ((List.range i).all p && p i) := by
 rw [List.range_succ, List.all_append]; simp
theorem zgi (φ : Nat) (x : zav) (hl : x.swaps.length <= 1024) (ht : x.types.length <= 32) :
  ∀ n s, x.swaps.length < n -> z10 φ n x.swaps (x.swaps.length : Int) 0 x s = zw φ φ x.washes (x.washes.length : Int) 0 (bif x.swaps.all (zly (x.types.length : Int)) then s else 1) (fun _ => default) := by
 have hp : W ((x.types.length : Int) - 1) = (x.types.length : Int) - 1 := W_id (by omega) (by omega)
 refine ziy (fun n i s => z10 φ n x.swaps (x.swaps.length : Int) i x s) (fun s => zw φ φ x.washes (x.washes.length : Int) 0 s (fun _ => default)) _ _ ?_ ?_
 ·intro n i s hi
  have hW : W ((i : Int) + 1) = (i : Int) + 1 := W_id (by omega) (by omega)
  rw [z10, if_pos (by simp; omega), z7 ⟨by omega, by omega⟩]
  simp only [z2w, Option.bind_some, zly, z0q, hW, hp]
  cases bet (gt x.swaps i).wanted 0 ((x.types.length : Int) - 1) <;> cases bet (gt x.swaps i).given 0 ((x.types.length : Int) - 1) <;> cases ((gt x.swaps i).wanted != (gt x.swaps i).given) <;>
   cases bet (gt x.swaps i).cost 0 1000000000 <;> rfl
 ·intro n s
  rw [z10, if_neg (by simp)]
theorem zfg (φ : Nat) (x : zav) (hl : x.wagons.length <= 4096) (ht : x.types.length <= 32) :
  ∀ n s, x.wagons.length < n -> z0d φ n x.wagons (x.wagons.length : Int) 0 x s = z10 φ φ x.swaps (x.swaps.length : Int) 0 x (bif x.wagons.all (zew (x.types.length : Int)) then s else 1) := by
 have hp : W ((x.types.length : Int) - 1) = (x.types.length : Int) - 1 := W_id (by omega) (by omega)
 refine ziy (fun n i s => z0d φ n x.wagons (x.wagons.length : Int) i x s) (fun s => z10 φ φ x.swaps (x.swaps.length : Int) 0 x s) _ _ ?_ ?_
 ·intro n i s hi
  have hW : W ((i : Int) + 1) = (i : Int) + 1 := W_id (by omega) (by omega)
  rw [z0d, if_pos (by simp; omega), z7 ⟨by omega, by omega⟩]
  simp only [z2w, Option.bind_some, zew, z0q, hW, hp]
  cases bet (gt x.wagons i).type_ 0 ((x.types.length : Int) - 1) <;> cases bet (gt x.wagons i).owner 0 63 <;> cases bet (gt x.wagons i).home 0 511 <;>
   cases bet (gt x.wagons i).built 0 1073741824 <;> cases bet (gt x.wagons i).worth 0 1099511627776 <;> rfl
 ·intro n s
  rw [z0d, if_neg (by simp)]
theorem zio (φ : Nat) (k : List z2q -> Int -> Int -> zav -> Int -> Option (Int × Unit)) (ts : List z2q) (len i : Int) (x : zav) (t : z2q) (n : Nat) (s : Int) (hn : 4 < n) :
  z1y φ k n ts len i 4 0 x s t [t.load, t.tare, t.length, t.brake] = k ts len (W (i + 1)) x (bif zkj t then s else 1) := by
 have h := ziy (fun n j s => z1y φ k n ts len i 4 j x s t [t.load, t.tare, t.length, t.brake]) (fun s => k ts len (W (i + 1)) x (bif (bet t.gauge 0 7 && bet t.life 1 1073741824 && bet t.floor 0 100) then s else 1))
  [t.load, t.tare, t.length, t.brake] (fun a => bet a 0 1000000) (fun n j s hi => by
   rw [z1y, if_pos (by simp at hi ⊢; omega), z7 ⟨by omega, by omega⟩]
   simp at hi
   have hW : W ((j : Int) + 1) = (j : Int) + 1 := W_id (by omega) (by omega)
   simp only [z2w, Option.bind_some, hW]
   cases bet (gt [t.load, t.tare, t.length, t.brake] (j : Int)) 0 1000000 <;> rfl) (fun n s => by
   rw [z1y, if_neg (by simp)]
   simp only [z2w, Option.bind_some, z0q]
   cases bet t.gauge 0 7 <;> cases bet t.life 1 1073741824 <;> cases bet t.floor 0 100 <;> rfl) n s hn
 rw [h]
 simp only [zkj, List.all_cons, List.all_nil]
 cases bet t.load 0 1000000 <;> cases bet t.tare 0 1000000 <;> cases bet t.length 0 1000000 <;> cases bet t.brake 0 1000000 <;>
   cases bet t.gauge 0 7 <;> cases bet t.life 1 1073741824 <;> cases bet t.floor 0 100 <;> rfl
theorem zhp (φ : Nat) (hφ : 4 < φ) (x : zav) (hl : x.types.length <= 32) :
  ∀ n s, x.types.length < n -> z34 φ n x.types (x.types.length : Int) 0 x s = z0d φ φ x.wagons (x.wagons.length : Int) 0 x (bif x.types.all zkj then s else 1) := by
 refine ziy (fun n i s => z34 φ n x.types (x.types.length : Int) i x s) (fun s => z0d φ φ x.wagons (x.wagons.length : Int) 0 x s) _ _ ?_ ?_
 ·intro n i s hi
  rw [z34, if_pos (by simp; omega), z7 ⟨by omega, by omega⟩]
  have hW : W ((i : Int) + 1) = (i : Int) + 1 := W_id (by omega) (by omega)
  refine (zio φ _ x.types (x.types.length : Int) (i : Int) x (gt x.types i) φ s hφ).trans ?_
  rw [hW]
 ·intro n s
  rw [z34, if_neg (by simp)]
theorem zgf (φ : Nat) (x : zav) (hl : x.washes.length <= 4096) (n : Nat) (s : Int) (hn : x.washes.length < n) :
  zw φ n x.washes (x.washes.length : Int) 0 s (fun _ => default) = some (bif za3 x.washes then s else 1, ()) := by
 refine z0e (fun n i (t : Int × (Nat -> Bool)) => zw φ n x.washes (x.washes.length : Int) i t.1 t.2) x.washes.length
  (fun i t => t.1 = (bif (List.range i).all (z6o x.washes) then s else 1) /\ ((List.range i).all (z6o x.washes) = true -> ∀ j : Nat, t.2 j = (x.washes.take i).any fun v => keyW v == (j : Int)))
  (fun o => o = some (bif za3 x.washes then s else 1, ())) ?_ ?_ n (s, fun _ => false) ⟨by simp, by simp⟩ hn
 ·intro n i t hi ⟨h1, h2⟩ hs
  have hW : W ((i : Int) + 1) = (i : Int) + 1 := W_id (by omega) (by omega)
  rw [zw, if_pos (by simp; omega), z7 ⟨by omega, by omega⟩]
  simp only [z2w, Option.bind_some, z0q, hW]
  have hok : zxd (gt x.washes i) = (bet (gt x.washes i).from_ 0 63 && bet (gt x.washes i).to 0 63 && ((gt x.washes i).from_ != (gt x.washes i).to) && bet (gt x.washes i).minutes 0 100000) := rfl
  have hsucc := ze9 (z6o x.washes) i
  cases hw : zxd (gt x.washes i) with
  | false =>
   have hf : (List.range (i + 1)).all (z6o x.washes) = false := by rw [hsucc]; simp [z6o, hw]
   have h3 : zw φ n x.washes (x.washes.length : Int) ((i : Int) + 1) 1 t.2 = some (bif za3 x.washes then s else 1, ()) := hs (1, t.2) ⟨by rw [hf]; rfl, by rw [hf]; intro h; cases h⟩
   rw [hw] at hok
   rw [<- h3]
   generalize bet (gt x.washes i).from_ 0 63 = a at *; generalize bet (gt x.washes i).to 0 63 = b at *; generalize ((gt x.washes i).from_ != (gt x.washes i).to) = c at *; generalize bet (gt x.washes i).minutes 0 100000 = d at *
   cases a <;> cases b <;> cases c <;> cases d <;> first | (exact absurd hok (by decide)) | rfl
  | true =>
   rw [hw] at hok
   have hb := hok.symm
   simp only [Bool.and_eq_true] at hb
   obtain ⟨⟨⟨b1, b2⟩, b3⟩, b4⟩ := hb
   have c1 := zzt b1; have c2 := zzt b2
   simp only [b1, b2, b3, b4, Bool.and_self, if_true, Option.bind_some, Bool.not_true, Bool.false_eq_true, if_false]
   rw [z7 ⟨by omega, by omega⟩, z7 ⟨by omega, by omega⟩]
   have hkey : ((gt x.washes i).from_.toNat * 64 + (gt x.washes i).to.toNat : Nat) = (keyW (gt x.washes i)).toNat := by unfold keyW; omega
   have hk0 : ((keyW (gt x.washes i)).toNat : Int) = keyW (gt x.washes i) := by unfold keyW; omega
   have key : ∀ e, (e = bif (List.range (i + 1)).all (z6o x.washes) then s else 1) ->
     zw φ n x.washes (x.washes.length : Int) ((i : Int) + 1) e (upd t.2 (keyW (gt x.washes i)).toNat true) = some (bif za3 x.washes then s else 1, ()) := by
    intro e he
    refine hs (e, _) ⟨he, fun hall j => ?_⟩
    rw [hsucc, Bool.and_eq_true] at hall
    rw [zg2 _ _ _ hi, <- h2 hall.1 j]
    show (if j = (keyW (gt x.washes i)).toNat then true else t.2 j) = _
    by_cases hj : j = (keyW (gt x.washes i)).toNat
    ·simp [hj, hk0]
    ·have : (keyW (gt x.washes i) == (j : Int)) = false := by
      simp; intro h; exact hj (by omega)
     simp [hj, this]
   have e64 : ∀ (p : Prop) [Decidable p] (y : Option (Int × Unit)), p -> ck p y = y := fun p _ y hp => z7 hp
   rw [hkey]
   simp only [e64 _ _ (show (0 : Int) <= (gt x.washes i).from_ /\ (gt x.washes i).from_ < 64 by omega), e64 _ _ (show (0 : Int) <= (gt x.washes i).to /\ (gt x.washes i).to < 64 by omega)]
   cases hall : (List.range i).all (z6o x.washes) with
   | true =>
    have hat : z6o x.washes i = !(t.2 (keyW (gt x.washes i)).toNat) := by
     rw [h2 hall]; simp only [z6o, hw, Bool.true_and, hk0]
    cases ht2 : t.2 (keyW (gt x.washes i)).toNat with
    | true =>
     simp only [Bool.not_true, Bool.not_false, if_true]
     refine key 1 ?_
     rw [hsucc, hat, ht2]; simp
    | false =>
     simp only [Bool.not_true, Bool.not_false, Bool.false_eq_true, if_false]
     refine key t.1 ?_
     rw [hsucc, hat, ht2, h1, hall]; simp
   | false =>
    have hf : (List.range (i + 1)).all (z6o x.washes) = false := by rw [hsucc, hall]; rfl
    have ht1 : t.1 = 1 := by rw [h1, hall]; rfl
    rw [ht1]
    split <;> exact key 1 (by rw [hf]; rfl)
 ·intro n t ⟨h1, _⟩
  rw [zw, if_neg (by simp), h1]; rfl
theorem zlh (φ : Nat) (hφ : 5000 < φ) (x : zav) : zbq φ x = some (z67 x, ()) := by
 have e : (((decide (32 < (x.types.length : Int)) || decide (4096 < (x.wagons.length : Int))) || decide (1024 < (x.swaps.length : Int))) || decide (4096 < (x.washes.length : Int))) =
   (decide (32 < x.types.length) || decide (4096 < x.wagons.length) || decide (1024 < x.swaps.length) || decide (4096 < x.washes.length)) := by
  congr 1
  ·congr 1
   ·congr 1 <;> (apply decide_eq_decide.2; omega)
   ·apply decide_eq_decide.2; omega
  ·apply decide_eq_decide.2; omega
 unfold zbq z67
 rw [e]
 cases h : (decide (32 < x.types.length) || decide (4096 < x.wagons.length) || decide (1024 < x.swaps.length) || decide (4096 < x.washes.length)) with
 | true => rfl
 | false =>
  simp only [Bool.or_eq_false_iff, decide_eq_false_iff_not, Nat.not_lt] at h
  obtain ⟨⟨⟨h1, h2⟩, h3⟩, h4⟩ := h
  rw [if_neg (by simp), zhp φ (by omega) x h1 _ _ (by omega), zfg _ _ h2 h1 _ _ (by omega), zgi _ _ h3 h1 _ _ (by omega), zgf _ _ h4 _ _ (by omega)]
  cases x.types.all zkj <;> cases x.wagons.all (zew x.types.length) <;> cases x.swaps.all (zly x.types.length) <;> cases za3 x.washes <;> rfl
theorem z94 {x : zav} (h : z67 x = 0) : x.types.length <= 32 /\ x.wagons.length <= 4096 /\ x.swaps.length <= 1024 /\ x.washes.length <= 4096 /\
  (∀ t ∈ x.types, zkj t = true) /\ (∀ t ∈ x.wagons, zew x.types.length t = true) /\ (∀ t ∈ x.swaps, zly x.types.length t = true) /\ za3 x.washes = true := by
 unfold z67 at h
 cases h1 : (decide (32 < x.types.length) || decide (4096 < x.wagons.length) || decide (1024 < x.swaps.length) || decide (4096 < x.washes.length)) with
 | true => rw [h1] at h; cases h
 | false =>
  rw [h1] at h
  simp only [Bool.or_eq_false_iff, decide_eq_false_iff_not, Nat.not_lt] at h1
  obtain ⟨⟨⟨a1, a2⟩, a3⟩, a4⟩ := h1
  cases h2 : (x.types.all zkj && x.wagons.all (zew x.types.length) && x.swaps.all (zly x.types.length) && za3 x.washes) with
  | false => rw [h2] at h; cases h
  | true =>
   simp only [Bool.and_eq_true, List.all_eq_true] at h2
   exact ⟨a1, a2, a3, a4, h2.1.1.1, h2.1.1.2, h2.1.2, h2.2⟩
end Px
end
section
namespace Px
open Go
set_option linter.unusedVariables false
set_option linter.unusedSimpArgs false
theorem z74 {c : Int} (h : 0 <= c) (h' : c < 18446744073709551616) : (BitVec.ofInt 64 c).toNat = c.toNat := by
 rw [BitVec.toNat_ofInt]; omega
theorem y9s {n : Nat} (h : n < 18446744073709551616) : U (n : Int) = n := U_id (by omega) (by omega)
theorem y5m {a b : Nat} (h : a < 18446744073709551616) : a &&& b < 18446744073709551616 := Nat.lt_of_le_of_lt Nat.and_le_left h
theorem y2q {k : Nat} (h : k <= 63) : (2 ^ k : Nat) < 18446744073709551616 := Nat.lt_of_lt_of_le (Nat.pow_lt_pow_right (by decide) (by omega : k < 64)) (by decide)
theorem ybx {c k : Int} (h : 0 <= c) (hk : 0 <= k) (hk' : k <= 63) : c.fdiv (2 ^ (min (k : Int).toNat (IntKind.bits .u64))) = ((c.toNat / 2 ^ k.toNat : Nat) : Int) := by
 have e : min (k : Int).toNat (IntKind.bits .u64) = k.toNat := by simp [IntKind.bits]; omega
 rw [e]
 have e2 : ((2 : Int) ^ k.toNat) = ((2 ^ k.toNat : Nat) : Int) := by simp
 rw [e2, Int.fdiv_eq_ediv_of_nonneg _ (Int.natCast_nonneg _)]
 have : c = (c.toNat : Int) := by omega
 rw [this]; simp
end Px
end
section
namespace Px
open Go
set_option linter.unusedVariables false
set_option linter.unusedSimpArgs false
set_option maxRecDepth 100000
theorem zvb : ((List.range 256).all fun i => decide (0 <= z9i z00 i /\ z9i z00 i <= 8 /\ i < 2 ^ (z9i z00 i).toNat /\ (0 < i -> 0 < z9i z00 i /\ 2 ^ ((z9i z00 i).toNat - 1) <= i))) = true := by decide +kernel
theorem zkr {i : Int} (h : 0 <= i) (h' : i < 256) : ∃ n : Nat, z9i z00 i = n /\ n <= 8 /\ i.toNat < 2 ^ n /\ (0 < i -> 0 < n /\ 2 ^ (n - 1) <= i.toNat) := by
 have := List.all_eq_true.1 zvb i.toNat (by simp; omega)
 rw [decide_eq_true_eq, show ((i.toNat : Nat) : Int) = i by omega] at this
 obtain ⟨a, b, c, d⟩ := this
 exact ⟨(z9i z00 i).toNat, by omega, by omega, c, fun hi => ⟨by have := (d (by omega)).1; omega, (d (by omega)).2⟩⟩
def z6s (v : Nat) (n : Nat) : Prop := v < 2 ^ n /\ (0 < v -> 0 < n /\ 2 ^ (n - 1) <= v)
theorem z6s.up {v : Nat} (k : Nat) {n : Nat} (h : z6s (v / 2 ^ k) n) (hv : 2 ^ k <= v) : z6s v (n + k) := by
 have hp := Nat.two_pow_pos k
 have hpos : 0 < v / 2 ^ k := Nat.div_pos hv hp
 obtain ⟨h1, h2⟩ := h
 obtain ⟨h3, h4⟩ := h2 hpos
 refine ⟨?_, fun _ => ⟨by omega, ?_⟩⟩
 ·rw [Nat.pow_add]; exact (Nat.div_lt_iff_lt_mul hp).1 h1
 ·have : n + k - 1 = (n - 1) + k := by omega
  rw [this, Nat.pow_add]; exact (Nat.le_div_iff_mul_le hp).1 h4
theorem y07 (φ : Nat) (v w : Int) (h : 0 <= v) (h' : v < 256) (hw : 0 <= w) (hw' : w <= 64) : ∃ n : Nat, z1d φ v w = some (64 - (w + n), ()) /\ n <= 8 /\ z6s v.toNat n := by
 obtain ⟨n, e, hn, a, b⟩ := zkr h h'
 have e8 : IntKind.wrap .u8 v = v := by simp [IntKind.wrap, IntKind.bits, IntKind.signed]; omega
 refine ⟨n, ?_, hn, a, fun hv => b (by omega)⟩
 unfold z1d
 rw [e8, z7 ⟨h, h'⟩, e, W_id (x := (n : Int)) (by omega) (by omega), W_id (x := w + n) (by omega) (by omega), W_id (by omega) (by omega)]
theorem sh8 (v : Int) : v.fdiv (2 ^ (min (8 : Int).toNat 64)) = v / 256 := by rw [show ((2 : Int) ^ (min (8 : Int).toNat 64)) = 256 by decide]; exact Int.fdiv_eq_ediv_of_nonneg _ (by omega)
theorem sh16 (v : Int) : v.fdiv (2 ^ (min (16 : Int).toNat 64)) = v / 65536 := by rw [show ((2 : Int) ^ (min (16 : Int).toNat 64)) = 65536 by decide]; exact Int.fdiv_eq_ediv_of_nonneg _ (by omega)
theorem sh32 (v : Int) : v.fdiv (2 ^ (min (32 : Int).toNat 64)) = v / 4294967296 := by rw [show ((2 : Int) ^ (min (32 : Int).toNat 64)) = 4294967296 by decide]; exact Int.fdiv_eq_ediv_of_nonneg _ (by omega)
theorem y4w (φ : Nat) (v w : Int) (h : 0 <= v) (h' : v < 65536) (hw : 0 <= w) (hw' : w <= 48) : ∃ n : Nat, z1l φ v w = some (64 - (w + n), ()) /\ n <= 16 /\ z6s v.toNat n := by
 unfold z1l
 by_cases c : 256 <= v
 ·rw [if_pos (by simpa using c), if_pos (by decide), sh8, W_id (by omega) (by omega)]
  obtain ⟨n, e, hn, hl⟩ := y07 φ (v / 256) (w + 8) (by omega) (by omega) (by omega) (by omega)
  refine ⟨n + 8, by rw [e]; congr 2; omega, by omega, ?_⟩
  refine z6s.up 8 ?_ (by omega)
  rwa [show v.toNat / 2 ^ 8 = (v / 256).toNat by omega]
 ·rw [if_neg (by simpa using c)]
  obtain ⟨n, e, hn, hl⟩ := y07 φ v w h (by omega) (by omega) (by omega)
  exact ⟨n, e, by omega, hl⟩
theorem y6g (φ : Nat) (v w : Int) (h : 0 <= v) (h' : v < 4294967296) (hw : 0 <= w) (hw' : w <= 32) : ∃ n : Nat, z1j φ v w = some (64 - (w + n), ()) /\ n <= 32 /\ z6s v.toNat n := by
 unfold z1j
 by_cases c : 65536 <= v
 ·rw [if_pos (by simpa using c), if_pos (by decide), sh16, W_id (by omega) (by omega)]
  obtain ⟨n, e, hn, hl⟩ := y4w φ (v / 65536) (w + 16) (by omega) (by omega) (by omega) (by omega)
  refine ⟨n + 16, by rw [e]; congr 2; omega, by omega, ?_⟩
  refine z6s.up 16 ?_ (by omega)
  rwa [show v.toNat / 2 ^ 16 = (v / 65536).toNat by omega]
 ·rw [if_neg (by simpa using c)]
  obtain ⟨n, e, hn, hl⟩ := y4w φ v w h (by omega) (by omega) (by omega)
  exact ⟨n, e, by omega, hl⟩
theorem ycr (φ : Nat) (v : Int) (h : 0 <= v) (h' : v < 18446744073709551616) : ∃ n : Nat, z2n φ v = some (64 - (n : Int), ()) /\ n <= 64 /\ z6s v.toNat n := by
 unfold z2n
 by_cases c : 4294967296 <= v
 ·rw [if_pos (by simpa using c), if_pos (by decide), sh32]
  obtain ⟨n, e, hn, hl⟩ := y6g φ (v / 4294967296) 32 (by omega) (by omega) (by omega) (by omega)
  refine ⟨n + 32, by rw [e]; congr 2; omega, by omega, ?_⟩
  refine z6s.up 32 ?_ (by omega)
  rwa [show v.toNat / 2 ^ 32 = (v / 4294967296).toNat by omega]
 ·rw [if_neg (by simpa using c)]
  obtain ⟨n, e, hn, hl⟩ := y6g φ v 0 h (by omega) (by omega) (by omega)
  exact ⟨n, by rw [e]; simp, by omega, hl⟩
theorem zk9 {v : Int} (h : 0 <= v) (h' : v < 18446744073709551616) : U ((BitVec.ofInt 64 v &&& BitVec.ofInt 64 4294967295).toNat) = v % 4294967296 := by
 show U ((BitVec.ofInt 64 v &&& BitVec.ofInt 64 4294967295).toNat : Int) = _
 rw [BitVec.toNat_and, z74 h h', z74 (by omega) (by omega), y9s (y5m (by omega))]
 have : (4294967295 : Int).toNat = 2 ^ 32 - 1 := by decide
 rw [this, Nat.and_two_pow_sub_one_eq_mod]
 omega
theorem zjf {a b m n : Int} (ha : 0 <= a) (hb : 0 <= b) (h : a <= m) (h' : b <= n) : 0 <= a * b /\ a * b <= m * n :=
 ⟨Int.mul_nonneg ha hb, Int.mul_le_mul h h' hb (by omega)⟩
theorem ztn (φ : Nat) (x y : Int) (hx : 0 <= x) (hx' : x < 18446744073709551616) (hy : 0 <= y) (hy' : y < 18446744073709551616) :
  z5p φ x y = some (x * y / 18446744073709551616, x * y % 18446744073709551616, ()) := by
 unfold z5p
 simp only [show (0 : Int) <= 32 by decide, if_true]
 rw [zk9 hx hx', zk9 hy hy']
 simp only [sh32]
 have ex : x = x / 4294967296 * 4294967296 + x % 4294967296 := by omega
 have ey : y = y / 4294967296 * 4294967296 + y % 4294967296 := by omega
 have a1 : 0 <= x / 4294967296 /\ x / 4294967296 <= 4294967295 := by omega
 have a0 : 0 <= x % 4294967296 /\ x % 4294967296 <= 4294967295 := by omega
 have b1 : 0 <= y / 4294967296 /\ y / 4294967296 <= 4294967295 := by omega
 have b0 : 0 <= y % 4294967296 /\ y % 4294967296 <= 4294967295 := by omega
 have hxy : x * y = (x / 4294967296) * (y / 4294967296) * 18446744073709551616 + ((x / 4294967296) * (y % 4294967296) + (x % 4294967296) * (y / 4294967296)) * 4294967296 + (x % 4294967296) * (y % 4294967296) := by
  conv => lhs; rw [ex, ey]
  generalize x / 4294967296 = a; generalize x % 4294967296 = b; generalize y / 4294967296 = c; generalize y % 4294967296 = d
  rw [Int.add_mul, Int.mul_add, Int.mul_add, Int.add_mul]
  have e1 : a * 4294967296 * (c * 4294967296) = a * c * 18446744073709551616 := by
   rw [Int.mul_assoc, Int.mul_left_comm 4294967296 c, <- Int.mul_assoc]; rfl
  have e2 : a * 4294967296 * d = a * d * 4294967296 := by rw [Int.mul_right_comm]
  have e3 : b * (c * 4294967296) = b * c * 4294967296 := by rw [Int.mul_assoc]
  rw [e1, e2, e3]; omega
 have p11 := zjf a1.1 b1.1 a1.2 b1.2
 have p10 := zjf a1.1 b0.1 a1.2 b0.2
 have p01 := zjf a0.1 b1.1 a0.2 b1.2
 have p00 := zjf a0.1 b0.1 a0.2 b0.2
 rw [zxn (x * y), hxy]
 generalize (x / 4294967296) * (y / 4294967296) = p at *; generalize (x / 4294967296) * (y % 4294967296) = q at *
 generalize (x % 4294967296) * (y / 4294967296) = r at *; generalize (x % 4294967296) * (y % 4294967296) = s at *
 clear hxy ex ey a1 a0 b1 b0
 rw [U_id (x := p) (by omega) (by omega), U_id (x := q) (by omega) (by omega), U_id (x := r) (by omega) (by omega), U_id (x := s) (by omega) (by omega)]
 rw [U_id (x := q + s / 4294967296) (by omega) (by omega), zk9 (by omega) (by omega),
  U_id (x := (q + s / 4294967296) % 4294967296 + r) (by omega) (by omega), U_id (x := p + (q + s / 4294967296) / 4294967296) (by omega) (by omega), U_id (by omega) (by omega)]
 refine congrArg some (Prod.ext ?_ rfl)
 show _ = _
 omega
theorem ybd {yn1 yn0 u d q r : Int} (h1 : 2147483648 <= yn1) (h1' : yn1 < 4294967296) (h0 : 0 <= yn0) (h0' : yn0 < 4294967296) (hd : 0 <= d) (hd' : d < 4294967296) (hu : 0 <= u)
  (hu' : u < yn1 * 4294967296 + yn0) (hqr : q * yn1 + r = u) (hr : 0 <= r) (hr' : r < 4294967296) (hq : (u * 4294967296 + d) / (yn1 * 4294967296 + yn0) <= q) :
  0 <= q /\ q <= 4294967297 /\ 0 <= (u * 4294967296 + d) / (yn1 * 4294967296 + yn0) /\ (u * 4294967296 + d) / (yn1 * 4294967296 + yn0) < 4294967296 /\
  (4294967296 <= q \/ 4294967296 * r + d < q * yn0 -> (u * 4294967296 + d) / (yn1 * 4294967296 + yn0) <= q - 1) /\
  (¬ (4294967296 <= q \/ 4294967296 * r + d < q * yn0) -> q = (u * 4294967296 + d) / (yn1 * 4294967296 + yn0)) /\
  (4294967296 <= q \/ 4294967296 * r + d < q * yn0 -> 4294967296 <= r + yn1 -> q - 1 = (u * 4294967296 + d) / (yn1 * 4294967296 + yn0)) := by
 have hY : 0 < yn1 * 4294967296 + yn0 := by omega
 have hQ0 : 0 <= (u * 4294967296 + d) / (yn1 * 4294967296 + yn0) := Int.ediv_nonneg (by omega) (by omega)
 have hQ1 : (u * 4294967296 + d) / (yn1 * 4294967296 + yn0) < 4294967296 := Int.ediv_lt_of_lt_mul hY (by omega)
 have hq0 : 0 <= q := by omega
 have key : q * (yn1 * 4294967296 + yn0) = (u - r) * 4294967296 + q * yn0 := by
  rw [Int.mul_add, <- Int.mul_assoc, <- hqr]; omega
 have hq2 : q <= 4294967297 := by
  rcases Int.lt_or_le 4294967297 q with h | h
  ·have : 4294967298 * yn1 <= q * yn1 := Int.mul_le_mul_of_nonneg_right (by omega) (by omega)
   omega
  ·exact h
 have lt_of : ∀ {z : Int}, (u * 4294967296 + d) / (yn1 * 4294967296 + yn0) < z ↔ u * 4294967296 + d < z * (yn1 * 4294967296 + yn0) := fun {z} => Int.ediv_lt_iff_lt_mul hY
 refine ⟨hq0, hq2, hQ0, hQ1, fun h => ?_, fun h => ?_, fun h hr2 => ?_⟩
 ·have : (u * 4294967296 + d) / (yn1 * 4294967296 + yn0) < q := by
   rcases h with h | h
   ·omega
   ·rw [lt_of, key]; omega
  omega
 ·have : ¬ (u * 4294967296 + d) / (yn1 * 4294967296 + yn0) < q := by rw [lt_of, key]; omega
  omega
 ·have hq1 : (u * 4294967296 + d) / (yn1 * 4294967296 + yn0) < q := by
   rcases h with h | h
   ·omega
   ·rw [lt_of, key]; omega
  have h2 : ¬ (u * 4294967296 + d) / (yn1 * 4294967296 + yn0) < q - 1 := by
   rw [lt_of]
   have e : (q - 1) * (yn1 * 4294967296 + yn0) = (u - (r + yn1)) * 4294967296 + (q - 1) * yn0 := by
    have : (q - 1) * yn1 + (r + yn1) = u := by rw [Int.sub_mul]; omega
    rw [Int.mul_add, <- Int.mul_assoc, <- this]; omega
   have b := (zjf (by omega : 0 <= q - 1) h0 (by omega : q - 1 <= 4294967296) (by omega : yn0 <= 4294967295)).2
   rw [e]; omega
  omega
theorem mulB {a b : Int} (h : 0 <= a) (h' : a < 4294967296) (g : 0 <= b) (g' : b < 4294967296) : 0 <= a * b /\ a * b <= 18446744065119617025 :=
 zjf h g (by omega : a <= 4294967295) (by omega : b <= 4294967295)
theorem zli {ρ : Type} (L : Nat -> Int -> Int -> Option ρ) (k : Int -> Option ρ) {yn1 yn0 u d : Int} (h1 : 2147483648 <= yn1) (h1' : yn1 < 4294967296) (h0 : 0 <= yn0) (h0' : yn0 < 4294967296) (hd : 0 <= d) (hd' : d < 4294967296) (hu : 0 <= u)
  (hu' : u < yn1 * 4294967296 + yn0)
  (step : ∀ n q r, L (n + 1) q r = if (decide (4294967296 <= q) || decide (U (U (4294967296 * r) + d) < U (q * yn0))) = true then (if decide (4294967296 <= U (r + yn1)) = true then k (U (q - 1)) else L n (U (q - 1)) (U (r + yn1))) else k q) :
  ∀ (n : Nat) q r, q * yn1 + r = u -> 0 <= r -> r < 4294967296 -> (u * 4294967296 + d) / (yn1 * 4294967296 + yn0) <= q -> 4294967296 - r <= 2147483648 * n -> L (n + 1) q r = k ((u * 4294967296 + d) / (yn1 * 4294967296 + yn0)) := by
 intro n
 induction n with
 | zero => intro q r _ _ _ _ h; omega
 | succ n ih =>
  intro q r hqr hr hr' hq hn
  obtain ⟨g0, g1, g2, g3, g4, g5, g6⟩ := ybd h1 h1' h0 h0' hd hd' hu hu' hqr hr hr' hq
  have hc : (decide (4294967296 <= q) || decide (U (U (4294967296 * r) + d) < U (q * yn0))) = true ↔ (4294967296 <= q \/ 4294967296 * r + d < q * yn0) := by
   rw [Bool.or_eq_true, decide_eq_true_eq, decide_eq_true_eq]
   by_cases hqB : 4294967296 <= q
   ·simp [hqB]
   ·have := mulB g0 (by omega : q < 4294967296) h0 h0'
    rw [U_id (x := 4294967296 * r) (by omega) (by omega), U_id (by omega) (by omega), U_id (by omega) (by omega)]
  rw [step]
  by_cases c : 4294967296 <= q \/ 4294967296 * r + d < q * yn0
  ·have a4 := g4 c
   rw [if_pos (hc.2 c), U_id (x := r + yn1) (by omega) (by omega), U_id (x := q - 1) (by omega) (by omega)]
   by_cases e : 4294967296 <= r + yn1
   ·rw [if_pos (by simpa using e), g6 c e]
   ·rw [if_neg (by simpa using e)]
    exact ih _ _ (by rw [Int.sub_mul]; omega) (by omega) (by omega) a4 (by omega)
  ·rw [if_neg (fun h => c (hc.1 h)), <- g5 c]
theorem zkn {yn1 yn0 u d : Int} (h1 : 2147483648 <= yn1) (h1' : yn1 < 4294967296) (h0 : 0 <= yn0) (h0' : yn0 < 4294967296) (hd : 0 <= d) (hd' : d < 4294967296) (hu : 0 <= u)
  (hu' : u < yn1 * 4294967296 + yn0) : U (u.tdiv yn1) = u / yn1 /\ U (u - U (U (u.tdiv yn1) * yn1)) = u % yn1 /\ u / yn1 * yn1 + u % yn1 = u /\ 0 <= u % yn1 /\ u % yn1 < 4294967296 /\
  (u * 4294967296 + d) / (yn1 * 4294967296 + yn0) <= u / yn1 := by
 have e1 : u.tdiv yn1 = u / yn1 := Int.tdiv_eq_ediv_of_nonneg hu
 have hdm : u / yn1 * yn1 + u % yn1 = u := by have := Int.ediv_mul_add_emod u yn1; exact this
 have hm0 := Int.emod_nonneg u (by omega : yn1 ≠ 0)
 have hm1 := Int.emod_lt_of_pos u (by omega : 0 < yn1)
 have hq0 : 0 <= u / yn1 := Int.ediv_nonneg hu (by omega)
 have hq1 : u / yn1 <= u := Int.ediv_le_self _ hu
 have hqm : 0 <= u / yn1 * yn1 := Int.mul_nonneg hq0 (by omega)
 rw [e1, U_id hq0 (by omega), U_id (x := u / yn1 * yn1) (by omega) (by omega), U_id (by omega) (by omega)]
 refine ⟨rfl, by omega, hdm, hm0, by omega, ?_⟩
 have hY : 0 < yn1 * 4294967296 + yn0 := by omega
 have hQ0 : 0 <= (u * 4294967296 + d) / (yn1 * 4294967296 + yn0) := Int.ediv_nonneg (by omega) (by omega)
 have hQ := Int.ediv_mul_le (u * 4294967296 + d) (b := yn1 * 4294967296 + yn0) (by omega)
 generalize (u * 4294967296 + d) / (yn1 * 4294967296 + yn0) = z at *
 rw [Int.mul_add, <- Int.mul_assoc] at hQ
 have := Int.mul_nonneg hQ0 h0
 exact (Int.le_ediv_iff_mul_le (by omega)).2 (by omega)
theorem y4t (a b c : Int) : U (U (U a + b) - U c) = U (a + b - c) := by
 simp only [zxn]; omega
theorem yam {a b : Int} {s : Nat} (hs : s <= 63) (ha : 0 <= a) (h : a * 2 ^ s < 18446744073709551616) (hb : 0 <= b) (hb' : b < 2 ^ s) :
  U ((BitVec.ofInt 64 (U (a * 2 ^ s)) ||| BitVec.ofInt 64 b).toNat) = a * 2 ^ s + b := by
 have hp : (0 : Int) < 2 ^ s := Int.pow_pos (by decide)
 have hn := Int.mul_nonneg ha (Int.le_of_lt hp)
 have hp2 : (2 : Int) ^ s = ((2 ^ s : Nat) : Int) := by simp
 have hlt : (2 ^ s : Nat) < 18446744073709551616 := y2q hs
 rw [U_id hn (by omega)]
 show U ((BitVec.ofInt 64 (a * 2 ^ s) ||| BitVec.ofInt 64 b).toNat : Int) = _
 have hlt2 := (BitVec.ofInt 64 (a * 2 ^ s) ||| BitVec.ofInt 64 b).isLt
 rw [y9s (by omega), BitVec.toNat_or, z74 hn h, z74 hb (by omega)]
 obtain ⟨n, rfl⟩ := Int.eq_ofNat_of_zero_le ha
 obtain ⟨m, rfl⟩ := Int.eq_ofNat_of_zero_le hb
 have e : ((n : Int) * 2 ^ s).toNat = 2 ^ s * n := by rw [hp2, <- Int.natCast_mul, Int.toNat_natCast, Nat.mul_comm]
 rw [e, Int.toNat_natCast, <- Nat.two_pow_add_eq_or_of_lt (by rw [hp2] at hb'; omega)]
 simp [Int.mul_comm]
theorem zgk (φ : Nat) (v : Int) (h : 0 < v) (h' : v < 18446744073709551616) : ∃ s : Nat, z2n φ v = some ((s : Int), ()) /\ s <= 63 /\
  9223372036854775808 <= v * 2 ^ s /\ v * 2 ^ s < 18446744073709551616 /\ v <= 2 ^ (64 - s) := by
 obtain ⟨n, e, hn, h1, h2⟩ := ycr φ v (by omega) h'
 obtain ⟨h3, h4⟩ := h2 (by omega)
 refine ⟨64 - n, ?_, by omega, ?_, ?_, ?_⟩
 ·rw [e]; congr 2; omega
 ·have : 2 ^ (n - 1) * 2 ^ (64 - n) <= v.toNat * 2 ^ (64 - n) := Nat.mul_le_mul_right _ h4
  rw [<- Nat.pow_add, show n - 1 + (64 - n) = 63 by omega] at this
  have e2 : ((v.toNat * 2 ^ (64 - n) : Nat) : Int) = v * 2 ^ (64 - n) := by
   rw [Int.natCast_mul, Int.natCast_pow]; congr 1; omega
  omega
 ·have : v.toNat * 2 ^ (64 - n) < 2 ^ n * 2 ^ (64 - n) := Nat.mul_lt_mul_of_pos_right h1 (Nat.two_pow_pos _)
  rw [<- Nat.pow_add, show n + (64 - n) = 64 by omega] at this
  have e2 : ((v.toNat * 2 ^ (64 - n) : Nat) : Int) = v * 2 ^ (64 - n) := by
   rw [Int.natCast_mul, Int.natCast_pow]; congr 1; omega
  omega
 ·rw [show 64 - (64 - n) = n by omega]
  have e2 : ((2 ^ n : Nat) : Int) = (2 : Int) ^ n := by simp
  omega
theorem y2y (φ : Nat) (hφ : 5 < φ) (hi lo y : Int) (h0 : 0 <= hi) (hy : hi < y) (hy' : y < 18446744073709551616) (hl : 0 <= lo) (hl' : lo < 18446744073709551616) :
  z5s φ hi lo y = some ((hi * 18446744073709551616 + lo) / y, (hi * 18446744073709551616 + lo) % y, ()) := by
 unfold z5s
 rw [if_neg (by simp; omega), if_neg (by simp; omega)]
 by_cases hz : hi = 0
 ·subst hz
  rw [if_pos (by simp), z7 (by omega), z7 (by omega), Int.tdiv_eq_ediv_of_nonneg hl, Int.tmod_eq_emod_of_nonneg hl, U_id (Int.ediv_nonneg hl (by omega)) (by have := Int.ediv_le_self y hl; omega)]
  simp
 rw [if_neg (by simpa using hz)]
 obtain ⟨s, es, hs, hY1, hY2, hyP⟩ := zgk φ y (by omega) hy'
 have em1 : min (s : Int).toNat 64 = s := by omega
 have em2 : min (64 - (s : Int)).toNat 64 = 64 - s := by omega
 have hp : (0 : Int) < 2 ^ s := Int.pow_pos (by decide)
 have hP : (0 : Int) < 2 ^ (64 - s) := Int.pow_pos (by decide)
 have hpP : (2 : Int) ^ s * 2 ^ (64 - s) = 18446744073709551616 := by rw [<- Int.pow_add, show s + (64 - s) = 64 by omega]; rfl
 have hhp : hi * 2 ^ s < y * 2 ^ s := Int.mul_lt_mul_of_pos_right hy hp
 have hlP0 : 0 <= lo / 2 ^ (64 - s) := Int.ediv_nonneg hl (by omega)
 have hlP1 : lo / 2 ^ (64 - s) < 2 ^ s := Int.ediv_lt_of_lt_mul hP (by omega)
 have hh0 : 0 <= hi * 2 ^ s := Int.mul_nonneg h0 (by omega)
 -- the low word
 have hlo10 : U (lo * 2 ^ s) = lo % 2 ^ (64 - s) * 2 ^ s := by
  have e : lo = lo / 2 ^ (64 - s) * 2 ^ (64 - s) + lo % 2 ^ (64 - s) := (Int.ediv_mul_add_emod lo _).symm
  have e2 : lo * 2 ^ s = lo / 2 ^ (64 - s) * 18446744073709551616 + lo % 2 ^ (64 - s) * 2 ^ s := by
   conv => lhs; rw [e]
   rw [Int.add_mul, Int.mul_assoc, Int.mul_comm (2 ^ (64 - s)), hpP]
  have m0 := Int.emod_nonneg lo (by omega : (2 : Int) ^ (64 - s) ≠ 0)
  have m1 := Int.emod_lt_of_pos lo hP
  have m2 : lo % 2 ^ (64 - s) * 2 ^ s < 2 ^ (64 - s) * 2 ^ s := Int.mul_lt_mul_of_pos_right m1 hp
  have m3 := Int.mul_nonneg m0 (Int.le_of_lt hp)
  rw [Int.mul_comm (2 ^ (64 - s))] at m2
  rw [e2, zxn]; omega
 have hN : (hi * 2 ^ s + lo / 2 ^ (64 - s)) * 18446744073709551616 + lo % 2 ^ (64 - s) * 2 ^ s = (hi * 18446744073709551616 + lo) * 2 ^ s := by
  have e : lo = lo / 2 ^ (64 - s) * 2 ^ (64 - s) + lo % 2 ^ (64 - s) := (Int.ediv_mul_add_emod lo _).symm
  have e2 : lo * 2 ^ s = lo / 2 ^ (64 - s) * 18446744073709551616 + lo % 2 ^ (64 - s) * 2 ^ s := by
   conv => lhs; rw [e]
   rw [Int.add_mul, Int.mul_assoc, Int.mul_comm (2 ^ (64 - s)), hpP]
  have e3 : (hi * 18446744073709551616 + lo) * 2 ^ s = hi * 2 ^ s * 18446744073709551616 + lo * 2 ^ s := by rw [Int.add_mul, Int.mul_right_comm]
  rw [e3, e2]; omega
 have hun0 : 0 <= lo % 2 ^ (64 - s) * 2 ^ s := Int.mul_nonneg (Int.emod_nonneg lo (by omega)) (by omega)
 have hun1 : lo % 2 ^ (64 - s) * 2 ^ s < 18446744073709551616 := by
  rw [<- hlo10, zxn]; omega
 have hu' : hi * 2 ^ s + lo / 2 ^ (64 - s) < y * 2 ^ s := by
  have : (hi + 1) * 2 ^ s <= y * 2 ^ s := Int.mul_le_mul_of_nonneg_right (by omega) (by omega)
  rw [Int.add_mul] at this; omega
 have hs1 : U (s : Int) = s := U_id (by omega) (by omega)
 have hs2 : U (64 - (s : Int)) = 64 - (s : Int) := U_id (by omega) (by omega)
 have ef : lo.fdiv (2 ^ (64 - s)) = lo / 2 ^ (64 - s) := Int.fdiv_eq_ediv_of_nonneg _ (by omega)
 have eor := yam hs h0 (by omega : hi * 2 ^ s < 18446744073709551616) hlP0 hlP1
 obtain ⟨Y, hYd⟩ : ∃ Y, Y = y * 2 ^ s := ⟨_, rfl⟩
 have eY : U (y * 2 ^ s) = Y := by rw [hYd]; exact U_id (by omega) (by omega)
 obtain ⟨u, hud⟩ : ∃ u, u = hi * 2 ^ s + lo / 2 ^ (64 - s) := ⟨_, rfl⟩
 obtain ⟨w, hwd⟩ : ∃ w, w = lo % 2 ^ (64 - s) * 2 ^ s := ⟨_, rfl⟩
 rw [<- hwd] at hlo10 hN hun0 hun1
 rw [<- hud] at hN hu' eor
 rw [<- hYd] at hu' hY1 hY2 hhp
 have hu0 : 0 <= u := by omega
 have fY : Y.fdiv 4294967296 = Y / 4294967296 := Int.fdiv_eq_ediv_of_nonneg _ (by omega)
 have fw : w.fdiv 4294967296 = w / 4294967296 := Int.fdiv_eq_ediv_of_nonneg _ (by omega)
 have mY := zk9 (v := Y) (by omega) (by omega)
 have mw := zk9 (v := w) (by omega) (by omega)
 have b1 : 2147483648 <= Y / 4294967296 /\ Y / 4294967296 < 4294967296 /\ 0 <= Y % 4294967296 /\ Y % 4294967296 < 4294967296 := by omega
 have b2 : 0 <= w / 4294967296 /\ w / 4294967296 < 4294967296 /\ 0 <= w % 4294967296 /\ w % 4294967296 < 4294967296 := by omega
 have eYs : Y / 4294967296 * 4294967296 + Y % 4294967296 = Y := by omega
 obtain ⟨m, rfl⟩ : ∃ m, φ = m + 3 := ⟨φ - 3, by omega⟩
 rw [es]
 simp only [Option.bind_some, hs1, hs2, em1, em2, sh32, eY, hlo10, mY, mw, ef, eor, show (0 : Int) <= 32 by decide, if_true]
 rw [z7 (by omega), z7 (by omega), z7 (by omega), z7 (by omega), z7 (by omega)]
 obtain ⟨i1, i2, i3, i4, i5, i6⟩ := zkn (u := u) (d := w / 4294967296) b1.1 b1.2.1 b1.2.2.1 b1.2.2.2 b2.1 b2.2.1 hu0 (by omega)
 rw [i1] at i2 ⊢
 rw [i2]
 refine (zli (fun n q r => z58 (m + 3) n Y s (Y / 4294967296) (Y % 4294967296) u (w / 4294967296) (w % 4294967296) q r) (fun q => z4w (m + 3) Y s (Y / 4294967296) (Y % 4294967296) u (w / 4294967296) (w % 4294967296) q)
  b1.1 b1.2.1 b1.2.2.1 b1.2.2.2 b2.1 b2.2.1 hu0 (by omega) (fun n q r => by rw [z58]) (m + 2) _ _ i3 i4 i5 i6 (by omega)).trans ?_
 rw [eYs]
 unfold z4w
 rw [z7 (by omega)]
 have hQ1 : 0 <= (u * 4294967296 + w / 4294967296) / Y /\ (u * 4294967296 + w / 4294967296) / Y < 4294967296 := ⟨Int.ediv_nonneg (by omega) (by omega), Int.ediv_lt_of_lt_mul (by omega) (by omega)⟩
 have hR1 := Int.ediv_mul_add_emod (u * 4294967296 + w / 4294967296) Y
 have hR1a := Int.emod_nonneg (u * 4294967296 + w / 4294967296) (by omega : Y ≠ 0)
 have hR1b := Int.emod_lt_of_pos (u * 4294967296 + w / 4294967296) (by omega : 0 < Y)
 generalize (u * 4294967296 + w / 4294967296) / Y = q1 at *
 generalize (u * 4294967296 + w / 4294967296) % Y = r1 at *
 have eu21 : U (U (U (u * 4294967296) + w / 4294967296) - U (q1 * Y)) = r1 := by
  rw [y4t, show u * 4294967296 + w / 4294967296 - q1 * Y = r1 by omega]; exact U_id hR1a (by omega)
 rw [eu21]
 obtain ⟨j1, j2, j3, j4, j5, j6⟩ := zkn (u := r1) (d := w % 4294967296) b1.1 b1.2.1 b1.2.2.1 b1.2.2.2 b2.2.2.1 b2.2.2.2 hR1a (by omega)
 rw [j1] at j2 ⊢
 rw [j2]
 refine (zli (fun n q r => z4x (m + 3) n Y s (Y / 4294967296) (Y % 4294967296) (w % 4294967296) q1 r r1 q) (fun q => z52 (m + 3) Y s (w % 4294967296) q1 r1 q)
  b1.1 b1.2.1 b1.2.2.1 b1.2.2.2 b2.2.2.1 b2.2.2.2 hR1a (by omega) (fun n q r => by rw [z4x]) (m + 2) _ _ j3 j4 j5 j6 (by omega)).trans ?_
 rw [eYs]
 unfold z52
 rw [em1, z7 (by omega)]
 have hQ0 : 0 <= (r1 * 4294967296 + w % 4294967296) / Y /\ (r1 * 4294967296 + w % 4294967296) / Y < 4294967296 := ⟨Int.ediv_nonneg (by omega) (by omega), Int.ediv_lt_of_lt_mul (by omega) (by omega)⟩
 have hR0 := Int.ediv_mul_add_emod (r1 * 4294967296 + w % 4294967296) Y
 have hR0a := Int.emod_nonneg (r1 * 4294967296 + w % 4294967296) (by omega : Y ≠ 0)
 have hR0b := Int.emod_lt_of_pos (r1 * 4294967296 + w % 4294967296) (by omega : 0 < Y)
 generalize (r1 * 4294967296 + w % 4294967296) / Y = q0 at *
 generalize (r1 * 4294967296 + w % 4294967296) % Y = r0 at *
 rw [y4t, show r1 * 4294967296 + w % 4294967296 - q0 * Y = r0 by omega, U_id (x := r0) hR0a (by omega), U_id (x := q1 * 4294967296) (by omega) (by omega), U_id (by omega) (by omega), Int.fdiv_eq_ediv_of_nonneg _ (by omega)]
 have hall : (hi * 18446744073709551616 + lo - (q1 * 4294967296 + q0) * y) * 2 ^ s = r0 := by
  rw [Int.sub_mul, <- hN, Int.mul_assoc, <- hYd, Int.add_mul, Int.mul_right_comm]; omega
 have hz0 : 0 <= hi * 18446744073709551616 + lo - (q1 * 4294967296 + q0) * y := by
  rcases Int.lt_or_le (hi * 18446744073709551616 + lo - (q1 * 4294967296 + q0) * y) 0 with h | h
  ·have := Int.mul_neg_of_neg_of_pos h hp; omega
  ·exact h
 have hz1 : hi * 18446744073709551616 + lo - (q1 * 4294967296 + q0) * y < y := by
  refine Int.lt_of_mul_lt_mul_right (a := 2 ^ s) ?_ (by omega)
  rw [hall, <- hYd]; exact hR0b
 have hr0 : r0 / 2 ^ s = hi * 18446744073709551616 + lo - (q1 * 4294967296 + q0) * y := by
  rw [<- hall]; exact Int.mul_ediv_cancel _ (by omega)
 have hdm : (hi * 18446744073709551616 + lo) / y = q1 * 4294967296 + q0 /\ (hi * 18446744073709551616 + lo) % y = hi * 18446744073709551616 + lo - (q1 * 4294967296 + q0) * y :=
  (Int.ediv_emod_unique (by omega)).2 ⟨by rw [Int.mul_comm y]; omega, hz0, hz1⟩
 rw [hr0, hdm.1, hdm.2]
end Px
end
section
namespace Px
open Go
set_option linter.unusedVariables false
set_option linter.unusedSimpArgs false
set_option maxRecDepth 100000
def PP : Nat := 2305843009213690799
def QQ : Nat := 1152921504606845399
def pw (b n : Nat) : Nat := b ^ n % PP
theorem zyy (b n : Nat) : pw b n < PP := Nat.mod_lt _ (by decide)
theorem y6u (b : Nat) : pw b 0 = 1 := by simp [pw, PP]
theorem y5r (b m n : Nat) : pw b m * pw b n % PP = pw b (m + n) := by
 unfold pw; rw [Nat.pow_add, <- Nat.mul_mod]
theorem yay (b : Nat) : pw b 1 = b % PP := by simp [pw]
theorem yaw {a : Nat} (h : a < PP) : ((a : Int)).tmod 2305843009213690799 = (a : Int) := by
 unfold PP at h
 rw [Int.tmod_eq_emod_of_nonneg (by omega)]; omega
theorem yal (b : Nat) : ((b : Int)).tmod 2305843009213690799 = ((b % PP : Nat) : Int) := by
 rw [Int.tmod_eq_emod_of_nonneg (by omega)]; unfold PP; omega
theorem zy6 {ρ : Type} {a b : Nat} (ha : a < PP) (hb : b < PP) (φ : Nat) (hφ : 5 < φ) (K : Int -> Option ρ) : ((z5p φ (a : Int) (b : Int)).bind fun y => (z5s φ y.1 y.2.1 2305843009213690799).bind fun z => K z.2.1) = K ((a * b % PP : Nat) : Int) := by
 have ha' : (a : Int) < 2305843009213690799 := by unfold PP at ha; omega
 have hb' : (b : Int) < 2305843009213690799 := by unfold PP at hb; omega
 have hp := zjf (by omega : 0 <= (a : Int)) (by omega : 0 <= (b : Int)) (by omega : (a : Int) <= 2305843009213690798) (by omega : (b : Int) <= 2305843009213690798)
 rw [ztn φ _ _ (by omega) (by omega) (by omega) (by omega), Option.bind_some]
 generalize hz : (a : Int) * (b : Int) = z at *
 show (z5s φ (z / 18446744073709551616) (z % 18446744073709551616) 2305843009213690799).bind _ = _
 rw [y2y φ hφ _ _ _ (by omega) (by omega) (by omega) (by omega) (by omega), Option.bind_some]
 congr 1
 have : z / 18446744073709551616 * 18446744073709551616 + z % 18446744073709551616 = z := by omega
 show (z / 18446744073709551616 * 18446744073709551616 + z % 18446744073709551616) % 2305843009213690799 = _
 rw [this, <- hz, Int.natCast_emod, Int.natCast_mul]; rfl
theorem z6s.uniq {v m n : Nat} (hv : 0 < v) (h : z6s v m) (k : z6s v n) : m = n := by
 obtain ⟨h1, h2⟩ := h
 obtain ⟨k1, k2⟩ := k
 obtain ⟨h3, h4⟩ := h2 hv
 obtain ⟨k3, k4⟩ := k2 hv
 have a : m - 1 < n := (Nat.pow_lt_pow_iff_right (by decide : 1 < 2)).1 (Nat.lt_of_le_of_lt h4 k1)
 have b : n - 1 < m := (Nat.pow_lt_pow_iff_right (by decide : 1 < 2)).1 (Nat.lt_of_le_of_lt k4 h1)
 omega
section first
variable (φ : Nat) (b n a p : Int)
theorem zzw (v w : Int) (h : 0 <= v) (h' : v < 256) (hw : 0 <= w) (hw' : w <= 64) : ∃ m : Nat, z7q φ v w b n a p = z0m φ φ b n a (w + m) 0 p /\ m <= 8 /\ z6s v.toNat m := by
 obtain ⟨m, e, hm, x, y⟩ := zkr h h'
 have e8 : IntKind.wrap .u8 v = v := by simp [IntKind.wrap, IntKind.bits, IntKind.signed]; omega
 refine ⟨m, ?_, hm, x, fun hv => y (by omega)⟩
 unfold z7q
 rw [e8, z7 ⟨h, h'⟩, e, W_id (x := (m : Int)) (by omega) (by omega), W_id (x := w + m) (by omega) (by omega)]
theorem zyb (v w : Int) (h : 0 <= v) (h' : v < 65536) (hw : 0 <= w) (hw' : w <= 48) : ∃ m : Nat, z7o φ v w b n a p = z0m φ φ b n a (w + m) 0 p /\ m <= 16 /\ z6s v.toNat m := by
 unfold z7o
 by_cases c : 256 <= v
 ·rw [if_pos (by simpa using c), if_pos (by decide), sh8, W_id (by omega) (by omega)]
  obtain ⟨m, e, hn, hl⟩ := zzw φ b n a p (v / 256) (w + 8) (by omega) (by omega) (by omega) (by omega)
  refine ⟨m + 8, by rw [e]; congr 1; omega, by omega, ?_⟩
  refine z6s.up 8 ?_ (by omega)
  rwa [show v.toNat / 2 ^ 8 = (v / 256).toNat by omega]
 ·rw [if_neg (by simpa using c)]
  obtain ⟨m, e, hn, hl⟩ := zzw φ b n a p v w h (by omega) (by omega) (by omega)
  exact ⟨m, e, by omega, hl⟩
theorem y6f (v w : Int) (h : 0 <= v) (h' : v < 4294967296) (hw : 0 <= w) (hw' : w <= 32) : ∃ m : Nat, z9c φ v w b n a p = z0m φ φ b n a (w + m) 0 p /\ m <= 32 /\ z6s v.toNat m := by
 unfold z9c
 by_cases c : 65536 <= v
 ·rw [if_pos (by simpa using c), if_pos (by decide), sh16, W_id (by omega) (by omega)]
  obtain ⟨m, e, hn, hl⟩ := zyb φ b n a p (v / 65536) (w + 16) (by omega) (by omega) (by omega) (by omega)
  refine ⟨m + 16, by rw [e]; congr 1; omega, by omega, ?_⟩
  refine z6s.up 16 ?_ (by omega)
  rwa [show v.toNat / 2 ^ 16 = (v / 65536).toNat by omega]
 ·rw [if_neg (by simpa using c)]
  obtain ⟨m, e, hn, hl⟩ := zyb φ b n a p v w h (by omega) (by omega) (by omega)
  exact ⟨m, e, by omega, hl⟩
end first
def zgs (φ : Nat) (k : Int -> Int -> Int -> Int -> Int -> Int -> Option (Int × Unit)) (L x57 x58 x59 x60 x61 x62 x63 x64 : Int) : Option (Int × Unit) :=
 ck (0 <= (W ((W (L - 1)) - x60))) (if (((U ((BitVec.ofInt 64 ((x63 : Int).fdiv (2 ^ (min ((W ((W (L - 1)) - x60)) : Int).toNat 64))) &&& BitVec.ofInt 64 1).toNat)) : Int) == 1) = true then (ck (x64 ≠ 0) (ck (x64 ≠ 0) ((z5p φ ((x59 : Int).tmod x64) ((x57 : Int).tmod x64)).bind fun y66 => ((z5s φ y66.1 y66.2.1 x64).bind fun y67 => (k x57 x58 y67.2.1 x61 (W (x62 + 1)) x64))))) else (k x57 x58 x59 x61 (W (x62 + 1)) x64))
section second
variable (φ : Nat) (k : Int -> Int -> Int -> Int -> Int -> Int -> Option (Int × Unit)) (x57 x58 x59 x60 x61 x62 x63 x64 : Int)
theorem zzq (v w : Int) (h : 0 <= v) (h' : v < 256) (hw : 0 <= w) (hw' : w <= 64) : ∃ m : Nat, z7n φ k v w x57 x58 x59 x60 x61 x62 x63 x64 = zgs φ k (w + m) x57 x58 x59 x60 x61 x62 x63 x64 /\ m <= 8 /\ z6s v.toNat m := by
 obtain ⟨m, e, hm, x, y⟩ := zkr h h'
 have e8 : IntKind.wrap .u8 v = v := by simp [IntKind.wrap, IntKind.bits, IntKind.signed]; omega
 refine ⟨m, ?_, hm, x, fun hv => y (by omega)⟩
 unfold z7n zgs
 rw [e8, z7 ⟨h, h'⟩, e, W_id (x := (m : Int)) (by omega) (by omega), W_id (x := w + m) (by omega) (by omega)]
theorem zys (v w : Int) (h : 0 <= v) (h' : v < 65536) (hw : 0 <= w) (hw' : w <= 48) : ∃ m : Nat, z7r φ k v w x57 x58 x59 x60 x61 x62 x63 x64 = zgs φ k (w + m) x57 x58 x59 x60 x61 x62 x63 x64 /\ m <= 16 /\ z6s v.toNat m := by
 unfold z7r
 by_cases c : 256 <= v
 ·rw [if_pos (by simpa using c), if_pos (by decide), sh8, W_id (by omega) (by omega)]
  obtain ⟨m, e, hn, hl⟩ := zzq φ k x57 x58 x59 x60 x61 x62 x63 x64 (v / 256) (w + 8) (by omega) (by omega) (by omega) (by omega)
  refine ⟨m + 8, by rw [e]; congr 1; omega, by omega, ?_⟩
  refine z6s.up 8 ?_ (by omega)
  rwa [show v.toNat / 2 ^ 8 = (v / 256).toNat by omega]
 ·rw [if_neg (by simpa using c)]
  obtain ⟨m, e, hn, hl⟩ := zzq φ k x57 x58 x59 x60 x61 x62 x63 x64 v w h (by omega) (by omega) (by omega)
  exact ⟨m, e, by omega, hl⟩
theorem zwf (v w : Int) (h : 0 <= v) (h' : v < 4294967296) (hw : 0 <= w) (hw' : w <= 32) : ∃ m : Nat, z32 φ k v w x57 x58 x59 x60 x61 x62 x63 x64 = zgs φ k (w + m) x57 x58 x59 x60 x61 x62 x63 x64 /\ m <= 32 /\ z6s v.toNat m := by
 unfold z32
 by_cases c : 65536 <= v
 ·rw [if_pos (by simpa using c), if_pos (by decide), sh16, W_id (by omega) (by omega)]
  obtain ⟨m, e, hn, hl⟩ := zys φ k x57 x58 x59 x60 x61 x62 x63 x64 (v / 65536) (w + 16) (by omega) (by omega) (by omega) (by omega)
  refine ⟨m + 16, by rw [e]; congr 1; omega, by omega, ?_⟩
  refine z6s.up 16 ?_ (by omega)
  rwa [show v.toNat / 2 ^ 16 = (v / 65536).toNat by omega]
 ·rw [if_neg (by simpa using c)]
  obtain ⟨m, e, hn, hl⟩ := zys φ k x57 x58 x59 x60 x61 x62 x63 x64 v w h (by omega) (by omega) (by omega)
  exact ⟨m, e, by omega, hl⟩
theorem yad (v : Int) (h : 0 <= v) (h' : v < 18446744073709551616) : ∃ m : Nat, (if (decide ((4294967296 : Int) <= v)) = true then (if 0 <= (32 : Int) then (z32 φ k (((v : Int).fdiv (2 ^ (min (32 : Int).toNat 64)))) 32 x57 x58 x59 x60 x61 x62 x63 x64) else none) else (z32 φ k v 0 x57 x58 x59 x60 x61 x62 x63 x64)) =
  zgs φ k m x57 x58 x59 x60 x61 x62 x63 x64 /\ m <= 64 /\ z6s v.toNat m := by
 by_cases c : 4294967296 <= v
 ·rw [if_pos (by simpa using c), if_pos (by decide), sh32]
  obtain ⟨m, e, hn, hl⟩ := zwf φ k x57 x58 x59 x60 x61 x62 x63 x64 (v / 4294967296) 32 (by omega) (by omega) (by omega) (by omega)
  refine ⟨m + 32, by rw [e]; congr 1; omega, by omega, ?_⟩
  refine z6s.up 32 ?_ (by omega)
  rwa [show v.toNat / 2 ^ 32 = (v / 4294967296).toNat by omega]
 ·rw [if_neg (by simpa using c)]
  obtain ⟨m, e, hn, hl⟩ := zwf φ k x57 x58 x59 x60 x61 x62 x63 x64 v 0 h (by omega) (by omega) (by omega)
  exact ⟨m, by rw [e]; simp, by omega, hl⟩
end second
theorem zr5 (φ : Nat) (hφ : 100 < φ) (b n : Nat) (hn0 : 0 < n) (hn : n < 18446744073709551616) : zfs φ (b : Int) (n : Int) = some (((pw b n : Nat) : Int), ()) := by
 have hstart : ∃ L : Nat, zfs φ (b : Int) (n : Int) = z0m φ φ b n 1 L 0 2305843009213690799 /\ L <= 64 /\ z6s n L := by
  unfold zfs
  by_cases c : (4294967296 : Int) <= n
  ·rw [if_pos (by simpa using c), if_pos (by decide), sh32]
   obtain ⟨m, e, hm, hl⟩ := y6f φ b n 1 2305843009213690799 ((n : Int) / 4294967296) 32 (by omega) (by omega) (by omega) (by omega)
   refine ⟨m + 32, by rw [e]; congr 1; omega, by omega, ?_⟩
   refine z6s.up 32 ?_ (by omega)
   rwa [show n / 2 ^ 32 = ((n : Int) / 4294967296).toNat by omega]
  ·rw [if_neg (by simpa using c)]
   obtain ⟨m, e, hm, hl⟩ := y6f φ b n 1 2305843009213690799 (n : Int) 0 (by omega) (by omega) (by omega) (by omega)
   exact ⟨m, by rw [e]; simp, by omega, by rwa [Int.toNat_natCast] at hl⟩
 obtain ⟨L, e0, hL, hlen⟩ := hstart
 rw [e0]
 obtain ⟨h1, h2⟩ := hlen
 refine z0e (fun k i v => z0m φ k (b : Int) (n : Int) v (L : Int) i 2305843009213690799) L (fun i v => v = ((pw b (n / 2 ^ (L - i)) : Nat) : Int)) (fun o => o = some (((pw b n : Nat) : Int), ())) ?_ ?_ φ 1 ?_ (by omega)
 ·intro k i v hi hv hs
  rw [z0m, if_pos (by simp; omega), z7 (by decide), z7 (by decide)]
  subst hv
  rw [yaw (zyy _ _)]
  refine (zy6 (zyy _ _) (zyy _ _) φ (by omega) (fun z => (if (decide ((4294967296 : Int) <= (n : Int))) = true then (if 0 <= (32 : Int) then (z32 φ (z0m φ k) ((((n : Int) : Int).fdiv (2 ^ (min (32 : Int).toNat 64)))) 32 b n z i L i n 2305843009213690799) else none) else (z32 φ (z0m φ k) n 0 b n z i L i n 2305843009213690799)))).trans ?_
  rw [y5r]
  obtain ⟨m, em, hm, hl⟩ := yad φ (z0m φ k) b n ((pw b (n / 2 ^ (L - i) + n / 2 ^ (L - i)) : Nat) : Int) i L i n 2305843009213690799 (n : Int) (by omega) (by omega)
  refine em.trans ?_
  rw [Int.toNat_natCast] at hl
  have := z6s.uniq hn0 hl ⟨h1, h2⟩
  subst this
  unfold zgs
  have hw1 : W ((m : Int) - 1) = (m : Int) - 1 := W_id (by omega) (by omega)
  have hw2 : W ((m : Int) - 1 - (i : Int)) = ((m - 1 - i : Nat) : Int) := by rw [W_id (by omega) (by omega)]; omega
  rw [hw1, hw2, z7 (by omega)]
  have hsh := ybx (c := (n : Int)) (k := ((m - 1 - i : Nat) : Int)) (by omega) (by omega) (by omega)
  have hone : U ((BitVec.ofInt 64 ((n : Int).fdiv (2 ^ (min (((m - 1 - i : Nat) : Int)).toNat 64))) &&& BitVec.ofInt 64 1).toNat) = ((n / 2 ^ (m - 1 - i) % 2 : Nat) : Int) := by
   rw [show ((n : Int).fdiv (2 ^ (min (((m - 1 - i : Nat) : Int)).toNat 64))) = _ from hsh, Int.toNat_natCast, Int.toNat_natCast]
   have hd : n / 2 ^ (m - 1 - i) <= n := Nat.div_le_self _ _
   rw [BitVec.toNat_and, z74 (Int.natCast_nonneg _) (by omega), z74 (by omega) (by omega), y9s (y5m (by omega)), Int.toNat_natCast]
   show ((n / 2 ^ (m - 1 - i) &&& 1 : Nat) : Int) = _
   rw [Nat.and_one_is_mod]
  rw [hone]
  have hhalf : n / 2 ^ (m - i) = n / 2 ^ (m - 1 - i) / 2 := by
   rw [Nat.div_div_eq_div_mul, <- Nat.pow_succ]; congr 2; omega
  have hidx : m - (i + 1) = m - 1 - i := by omega
  have hW : W ((i : Int) + 1) = (i : Int) + 1 := W_id (by omega) (by omega)
  have hbit := Nat.mod_two_eq_zero_or_one (n / 2 ^ (m - 1 - i))
  rcases hbit with hbit | hbit
  ·rw [hbit, if_neg (by simp), hW]
   refine hs _ ?_
   rw [hidx, hhalf]; congr 2; omega
  ·rw [hbit, if_pos (by simp), yaw (zyy _ _), yal, z7 (by decide), z7 (by decide), hW]
   refine (zy6 (zyy _ _) (Nat.mod_lt b (by decide : 0 < PP)) φ (by omega) (fun z => z0m φ k b n z m ((i : Int) + 1) 2305843009213690799)).trans ?_
   refine hs _ ?_
   rw [<- yay b, y5r, hidx, hhalf]; congr 2; omega
 ·intro k v hv
  rw [z0m, if_neg (by simp), hv]
  rw [Nat.sub_self, Nat.pow_zero, Nat.div_one]
 ·rw [Nat.sub_zero, Nat.div_eq_of_lt h1, y6u]; rfl
def y7e (x : Int) : Bool := decide (2 <= x) && decide (x < 2305843009213690799) && (pw x.toNat QQ == 1)
theorem zrc (a : Nat) : (((a : Nat) : Int) == 1) = (a == 1) := by
 rw [Bool.eq_iff_iff, beq_iff_eq, beq_iff_eq]; omega
theorem zmf (φ : Nat) (hφ : 100 < φ) (x : Int) : zdh φ x = some (y7e x, ()) := by
 unfold zdh y7e z0q
 cases h : decide (2 <= x) && decide (x < 2305843009213690799) with
 | false => rw [if_neg (by simp), Option.bind_some]; simp only [Bool.false_and]
 | true =>
  simp only [Bool.and_eq_true, decide_eq_true_eq] at h
  have := zr5 φ hφ x.toNat QQ (by decide) (by decide)
  rw [show ((x.toNat : Nat) : Int) = x by omega, show ((QQ : Nat) : Int) = 1152921504606845399 by decide] at this
  rw [if_pos rfl, this, Option.bind_some, Bool.true_and, Bool.true_and]
  show some ((((pw x.toNat QQ : Nat) : Int) == 1), ()) = _
  rw [zrc]
end Px
end
section
namespace Px
open Go
set_option linter.unusedVariables false
set_option linter.unusedSimpArgs false
theorem gz_t {α : Type} {z : α} {p : Prop} [Decidable p] {x : Option α} (h : p) : z0q z p x = x := if_pos h
theorem gz_f {α : Type} {z : α} {p : Prop} [Decidable p] {x : Option α} (h : ¬ p) : z0q z p x = some z := if_neg h
def zc9 (p : z6r) : Bool := bet p.kind 1 5 && bet p.railway 0 15 && (bif p.kind == 3 then bet p.other 0 15 && (p.other != p.railway) else p.other == (-1))
def zcd (n : Int) (e : Edge) : Bool := bet e.a 0 (n - 1) && bet e.b 0 (n - 1) && (e.a != e.b) && bet e.railway 0 15 && bet e.minutes 1 100000 && bet e.km 0 10000
def z8i (x : zh) : Int := bif decide (512 < x.places.length) || decide (2048 < x.edges.length) then 2 else bif x.places.all zc9 && x.edges.all (zcd x.places.length) then 0 else 1
theorem zit (φ : Nat) (p : z6r) : z8m φ p = some (zc9 p, ()) := by
 have hb : (((decide (p.kind < 1) || decide (5 < p.kind)) || decide (p.railway < 0)) || decide (16 <= p.railway)) = !(bet p.kind 1 5 && bet p.railway 0 15) := by
  rw [Bool.eq_iff_iff]; simp [bet]; omega
 unfold z8m zc9
 rw [hb]
 cases bet p.kind 1 5 && bet p.railway 0 15 with
 | false => rfl
 | true =>
  rw [if_neg (by simp)]
  by_cases h : p.kind = 3
  ·have : (decide (0 <= p.other) && decide (p.other < 16)) = bet p.other 0 15 := by rw [Bool.eq_iff_iff]; simp [bet]; omega
   rw [if_neg (by simp [h]), this]; simp [h]
  ·have h2 : (p.kind == 3) = false := by simpa using h
   rw [if_pos (by simp [h]), h2]; rfl
theorem zye (n : Int) (e : Edge) : ((((((decide ((min2 (min2 (min2 (e.a) (e.b)) (e.railway)) (e.km)) < 0) || decide (n <= (max2 (e.a) (e.b)))) || (e.a == e.b)) || decide (16 <= e.railway)) || decide (e.minutes < 1)) || decide (100000 < e.minutes)) || decide (10000 < e.km)) = !zcd n e := by
 have hm : ∀ x y z : Int, z <= max2 x y ↔ z <= x \/ z <= y := by intro x y z; unfold max2; split <;> omega
 have hok : zcd n e = true ↔ ((((((0 <= e.a /\ e.a <= n - 1) /\ 0 <= e.b /\ e.b <= n - 1) /\ ¬ e.a = e.b) /\ 0 <= e.railway /\ e.railway <= 15) /\ 1 <= e.minutes /\ e.minutes <= 100000) /\ 0 <= e.km /\ e.km <= 10000) := by
  simp only [zcd, Bool.and_eq_true, zs3, bne_iff_ne, ne_eq]
 rw [Bool.eq_iff_iff, Bool.not_eq_true', <- Bool.not_eq_true, hok]
 simp only [Bool.or_eq_true, decide_eq_true_eq, zsl, hm, beq_iff_eq]
 omega
theorem y1d (x : zh) : (decide (512 < (x.places.length : Int)) || decide (2048 < (x.edges.length : Int))) = (decide (512 < x.places.length) || decide (2048 < x.edges.length)) := by
 congr 1 <;> (apply decide_eq_decide.2; omega)
theorem z87 (φ : Nat) (hφ : 5000 < φ) (x : zh) : z62 φ x = some (z8i x, ()) := by
 unfold z62 z8i
 rw [y1d]
 cases h : decide (512 < x.places.length) || decide (2048 < x.edges.length) with
 | true => rfl
 | false =>
  simp only [Bool.or_eq_false_iff, decide_eq_false_iff_not, Nat.not_lt] at h
  rw [if_neg (by simp), zg6 (fun n i => z2x φ n (x.places.length : Int) x.places (x.places.length : Int) i x) (z1p φ φ (x.places.length : Int) x.edges (x.edges.length : Int) 0) (some (1, ())) x.places (fun t => !zc9 t) ?_ ?_ φ (by omega)]
  ·rw [zg6 (fun n i => z1p φ n (x.places.length : Int) x.edges (x.edges.length : Int) i) (some (0, ())) (some (1, ())) x.edges (fun t => !zcd x.places.length t) ?_ ?_ φ (by omega)]
   ·simp only [List.any_eq_not_all_not, Bool.not_not]
    cases x.places.all zc9 <;> cases x.edges.all (zcd x.places.length) <;> rfl
   ·intro n i hi
    rw [z1p, if_pos (by simp; omega), z7 ⟨by omega, by omega⟩, zye, W_id (by omega) (by omega)]
    cases zcd x.places.length (gt x.edges i) <;> rfl
   ·intro n; rw [z1p, if_neg (by simp)]
  ·intro n i hi
   rw [z2x, if_pos (by simp; omega), z7 ⟨by omega, by omega⟩, zit, Option.bind_some, W_id (by omega) (by omega)]
   cases zc9 (gt x.places i) <;> rfl
  ·intro n; rw [z2x, if_neg (by simp)]
theorem zcq {x : zh} (h : z8i x = 0) : x.places.length <= 512 /\ x.edges.length <= 2048 /\ (∀ p ∈ x.places, zc9 p = true) /\ ∀ e ∈ x.edges, zcd x.places.length e = true := by
 unfold z8i at h
 cases h1 : decide (512 < x.places.length) || decide (2048 < x.edges.length) with
 | true => rw [h1] at h; cases h
 | false =>
  rw [h1] at h
  cases h2 : x.places.all zc9 && x.edges.all (zcd x.places.length) with
  | false => rw [h2] at h; cases h
  | true =>
   simp only [Bool.or_eq_false_iff, decide_eq_false_iff_not, Nat.not_lt] at h1
   simp only [Bool.and_eq_true, List.all_eq_true] at h2
   exact ⟨h1.1, h1.2, h2⟩
def zww : Int -> List Int -> Bool
 | _, [] => true
 | p, h :: t => decide (p < h) && decide (h <= 745654) && zww h t
def zm3 (s : Span) : Bool := decide (0 <= s.from_) && decide (s.from_ <= s.to) && decide (s.to <= 1440)
def zry (c : z7h) : Bool := ((List.range 7).all fun i => zm3 (c.open_ i)) && zww (-1) c.holidays
theorem y9r (φ : Nat) (c : z7h) : ∀ (n i : Nat) (p : Int), -1 <= p -> (i : Int) <= p + 1 -> p <= 745654 -> i <= c.holidays.length -> 745656 <= (n : Int) + p -> z21 φ n p c.holidays (c.holidays.length : Int) i = some (bif zww p (c.holidays.drop i) then 0 else 1, ()) := by
 intro n
 induction n with
 | zero => intro i p _ _ _ _ _; omega
 | succ n ih =>
  intro i p hp hip hp2 hi hn
  by_cases h : i = c.holidays.length
  ·rw [h, z21, if_neg (by simp), List.drop_length]; rfl
  ·rw [z21, if_pos (by simp; omega), z7 ⟨by omega, by omega⟩, zzg _ _ (by omega)]
   by_cases hb : gt c.holidays i <= p \/ 745654 < gt c.holidays i
   ·have : (decide (p < gt c.holidays i) && decide (gt c.holidays i <= 745654)) = false := by simp; omega
    rw [if_pos (by simpa using hb)]
    simp [zww, this]
   ·have h2 : (decide (p < gt c.holidays i) && decide (gt c.holidays i <= 745654)) = true := by simp; omega
    rw [if_neg (by simpa using hb), W_id (by omega) (by omega)]
    have := ih (i + 1) (gt c.holidays i) (by omega) (by omega) (by omega) (by omega) (by omega)
    rw [show ((i + 1 : Nat) : Int) = (i : Int) + 1 by omega] at this
    rw [this]
    simp [zww, h2]
theorem zmh (s : Span) : ((decide (s.from_ < 0) || decide (s.to < s.from_)) || decide (1440 < s.to)) = !zm3 s := by
 rw [Bool.eq_iff_iff]; simp [zm3]
 try omega
theorem zgg (φ : Nat) (hφ : 800000 < φ) (c : z7h) : z7l φ c = some (bif zry c then 0 else 1, ()) := by
 unfold z7l
 refine z0e (fun n i (_ : Unit) => z2i φ n c.open_ i c) 7 (fun i _ => ((List.range i).all fun j => zm3 (c.open_ j)) = true) (fun o => o = some (bif zry c then 0 else 1, ())) ?_ ?_ φ () (by simp) (by omega)
 ·intro n i _ hi h hs
  rw [z2i, if_pos (by simp; omega), z7 ⟨by omega, by omega⟩, Int.toNat_natCast, zmh, W_id (by omega) (by omega)]
  cases ho : zm3 (c.open_ i) with
  | true =>
   rw [if_neg (by simp)]
   exact hs () (by rw [ze9, h, ho]; rfl)
  | false =>
   have : zry c = false := by
    unfold zry
    have : ((List.range 7).all fun j => zm3 (c.open_ j)) = false := by
     rw [List.all_eq_false]; exact ⟨i, by simp; omega, by simp [ho]⟩
    rw [this]; rfl
   rw [if_pos (by simp), this]; rfl
 ·intro n _ h
  rw [z2i, if_neg (by simp)]
  unfold zry
  rw [h, Bool.true_and]
  have := y9r φ c φ 0 (-1) (by omega) (by omega) (by omega) (by omega) (by omega)
  simpa using this
theorem zh1 {α ρ : Type} [Inhabited α] (L : Nat -> Bool -> Int -> Option ρ) (k : Bool -> Option ρ) (l : List α) (p : α -> Bool)
  (step : ∀ (n i : Nat) (s : Bool), i < l.length -> L (n + 1) s i = L n (s || p (gt l i)) ((i : Int) + 1)) (done : ∀ n s, L (n + 1) s l.length = k s) (n : Nat) (s : Bool) (hn : l.length < n) : L n s 0 = k (s || l.any p) := by
 refine z0e (fun n i t => L n t i) l.length (fun i t => t = (s || (l.take i).any p)) (fun o => o = k (s || l.any p)) ?_ ?_ n s (by simp) hn
 ·intro n i t hi ht hs
  rw [step n i t hi]
  exact hs _ (by rw [zg2 _ _ _ hi, ht, Bool.or_assoc])
 ·intro n t ht
  rw [List.take_length] at ht
  rw [done, ht]
def zf5 (n : Int) (r : z27) : Bool := (((!bet r.place 0 (n - 1)) || decide (r.low < (-1000))) || decide (r.high < r.low)) || decide (1000 < r.high)
def zgo (x : zh) (s : zbp) : Bool := (!bet s.place 0 ((x.places.length : Int) - 1)) || ((gt x.places s.place).kind != 4)
def zs1 (r : z3j) : Bool := !zry r.calendar || !y7e r.key
def zgn (x : Pool) : Bool :=
 ((((((x.railways.length : Int) == 0) || x.readers.any (zf5 x.network.places.length)) || x.shippers.any (zgo x.network)) || x.fleet.wagons.any (fun w => decide ((x.network.places.length : Int) <= w.home))) ||
 x.network.places.any (fun p => decide ((x.railways.length : Int) <= p.railway) || decide ((x.railways.length : Int) <= p.other))) || x.network.edges.any (fun e => decide ((x.railways.length : Int) <= e.railway)) || x.railways.any zs1
def zgv (x : Pool) : Bool := (decide (256 < (x.readers.length : Int)) || decide (256 < (x.shippers.length : Int))) || decide (16 < (x.railways.length : Int))
def z03 (x : Pool) : Int := if z8i x.network ≠ 0 then z8i x.network else if z67 x.fleet ≠ 0 then z67 x.fleet else bif zgv x then 2 else bif zgn x then 1 else 0
theorem z65 (φ : Nat) (hφ : 800000 < φ) (x : Pool) : z3b φ x = some (z03 x, ()) := by
 unfold z3b z03
 rw [z87 _ (by omega), Option.bind_some]
 by_cases hn : z8i x.network = 0
 case neg => rw [if_pos (by simp [hn]), if_pos hn]
 rw [if_neg (by simp [hn]), if_neg (fun e : z8i x.network ≠ 0 => e hn), zlh _ (by omega), Option.bind_some]
 by_cases hf : z67 x.fleet = 0
 case neg => rw [if_pos (by simp [hf]), if_pos hf]
 rw [if_neg (by simp [hf]), if_neg (fun e : z67 x.fleet ≠ 0 => e hf)]
 cases hb : zgv x with
 | true =>
  have e : (((decide (256 < (x.readers.length : Int)) || decide (256 < (x.shippers.length : Int))) || decide (16 < (x.railways.length : Int)))) = zgv x := rfl
  rw [e, hb]; rfl
 | false =>
  have hb' : ¬ (((decide (256 < (x.readers.length : Int)) || decide (256 < (x.shippers.length : Int))) || decide (16 < (x.railways.length : Int))) = true) := by
   rw [show (((decide (256 < (x.readers.length : Int)) || decide (256 < (x.shippers.length : Int))) || decide (16 < (x.railways.length : Int)))) = zgv x from rfl, hb]; simp
  rw [if_neg hb']
  simp only [Bool.or_eq_true, decide_eq_true_eq, not_or] at hb'
  obtain ⟨n1, n2, _, _⟩ := zcq hn
  obtain ⟨f1, f2, _⟩ := z94 hf
  have hp : W ((x.network.places.length : Int) - 1) = (x.network.places.length : Int) - 1 := W_id (by omega) (by omega)
  have a1 := zh1 (fun n s i => z1r φ n x.network.places (x.railways.length : Int) s x.readers (x.readers.length : Int) i x) (fun s => z19 φ φ x.network.places (x.railways.length : Int) s x.shippers (x.shippers.length : Int) 0 x) x.readers (zf5 x.network.places.length) (fun n i s hi => by
   rw [z1r, if_pos (by simp; omega), z7 ⟨by omega, by omega⟩, hp, W_id (by omega) (by omega)]
   unfold zf5
   cases s with
   | true => rw [gz_f (by simp)]; rfl
   | false => rw [gz_t rfl]; rfl) (fun n s => by rw [z1r, if_neg (by simp)]) φ ((x.railways.length : Int) == 0) (by omega)
  refine a1.trans ?_
  have a2 := fun s0 => zh1 (fun n s i => z19 φ n x.network.places (x.railways.length : Int) s x.shippers (x.shippers.length : Int) i x) (fun s => z15 φ φ x.network.places (x.railways.length : Int) s x.fleet.wagons (x.fleet.wagons.length : Int) 0 x) x.shippers (zgo x.network) (fun n i s hi => by
   rw [z19, if_pos (by simp; omega), z7 ⟨by omega, by omega⟩, hp, W_id (by omega) (by omega)]
   unfold zgo
   cases s with
   | true => rw [gz_f (by simp), Option.bind_some, z7 (by simp)]; rfl
   | false =>
    rw [gz_t rfl, z2w, Option.bind_some]
    cases hbt : bet (gt x.shippers i).place 0 ((x.network.places.length : Int) - 1) with
    | true => rw [z7 (fun _ => by have := zzt hbt; omega)]; rfl
    | false => rw [z7 (by simp)]; rfl) (fun n s => by rw [z19, if_neg (by simp)]) φ s0 (by omega)
  refine (a2 _).trans ?_
  have a3 := fun s0 => zh1 (fun n s i => z15 φ n x.network.places (x.railways.length : Int) s x.fleet.wagons (x.fleet.wagons.length : Int) i x) (fun s => z17 φ φ (x.railways.length : Int) s x.network.places (x.network.places.length : Int) 0 x) x.fleet.wagons (fun w => decide ((x.network.places.length : Int) <= w.home)) (fun n i s hi => by
   rw [z15, if_pos (by simp; omega), z7 ⟨by omega, by omega⟩, W_id (by omega) (by omega)]) (fun n s => by rw [z15, if_neg (by simp)]) φ s0 (by omega)
  refine (a3 _).trans ?_
  have a4 := fun s0 => zh1 (fun n s i => z17 φ n (x.railways.length : Int) s x.network.places (x.network.places.length : Int) i x) (fun s => z18 φ φ (x.railways.length : Int) s x.network.edges (x.network.edges.length : Int) 0 x) x.network.places (fun p => decide ((x.railways.length : Int) <= p.railway) || decide ((x.railways.length : Int) <= p.other)) (fun n i s hi => by
   rw [z17, if_pos (by simp; omega), z7 ⟨by omega, by omega⟩, W_id (by omega) (by omega), Bool.or_assoc]) (fun n s => by rw [z17, if_neg (by simp)]) φ s0 (by omega)
  refine (a4 _).trans ?_
  have a5 := fun s0 => zh1 (fun n s i => z18 φ n (x.railways.length : Int) s x.network.edges (x.network.edges.length : Int) i x) (fun s => z16 φ φ s x.railways (x.railways.length : Int) 0) x.network.edges (fun e => decide ((x.railways.length : Int) <= e.railway)) (fun n i s hi => by
   rw [z18, if_pos (by simp; omega), z7 ⟨by omega, by omega⟩, W_id (by omega) (by omega)]) (fun n s => by rw [z18, if_neg (by simp)]) φ s0 (by omega)
  refine (a5 _).trans ?_
  have a6 := fun s0 => zh1 (fun n s i => z16 φ n s x.railways (x.railways.length : Int) i) (fun s => if s = true then some (1, ()) else some (0, ())) x.railways zs1 (fun n i s hi => by
   rw [z16, if_pos (by simp; omega), z7 ⟨by omega, by omega⟩, W_id (by omega) (by omega)]
   unfold zs1
   cases s with
   | true => rw [gz_f (by simp), Option.bind_some, gz_f (by simp)]; rfl
   | false =>
    rw [gz_t rfl, zgg _ hφ, Option.bind_some]
    cases zry (gt x.railways i).calendar with
    | false => rw [gz_f (by simp)]; rfl
    | true => rw [gz_t (by simp), zmf _ (by omega)]; rfl) (fun n s => by rw [z16, if_neg (by simp)]) φ s0 (by omega)
  refine (a6 _).trans ?_
  show (if zgn x = true then some ((1 : Int), ()) else some (0, ())) = _
  cases zgn x <;> rfl
theorem z3s {p : Pool} (h : z03 p = 0) : z8i p.network = 0 /\ z67 p.fleet = 0 /\ p.readers.length <= 256 /\ p.shippers.length <= 256 /\ p.railways.length <= 16 /\ zgn p = false := by
 unfold z03 at h
 by_cases hn : z8i p.network = 0
 case neg => rw [if_pos hn] at h; exact absurd h hn
 rw [if_neg (fun e : z8i p.network ≠ 0 => e hn)] at h
 by_cases hf : z67 p.fleet = 0
 case neg => rw [if_pos hf] at h; exact absurd h hf
 rw [if_neg (fun e : z67 p.fleet ≠ 0 => e hf)] at h
 cases hb : zgv p with
 | true => rw [hb] at h; cases h
 | false =>
  rw [hb] at h
  cases hd : zgn p with
  | true => rw [hd] at h; cases h
  | false =>
   simp only [zgv, Bool.or_eq_false_iff, decide_eq_false_iff_not] at hb
   exact ⟨hn, hf, by omega, by omega, by omega, rfl⟩
theorem zhf {p : Pool} (h : z03 p = 0) : (∀ r ∈ p.readers, 0 <= r.place /\ r.place < (p.network.places.length : Int) /\ -1000 <= r.low /\ r.low <= r.high /\ r.high <= 1000) /\
  (∀ w ∈ p.fleet.wagons, 0 <= w.home /\ w.home < (p.network.places.length : Int)) /\ (∀ e ∈ p.network.edges, e.railway < (p.railways.length : Int)) /\ 0 < p.railways.length := by
 obtain ⟨hn, hf, h1, h2, h3, hb⟩ := z3s h
 simp only [zgn, Bool.or_eq_false_iff] at hb
 obtain ⟨⟨⟨⟨⟨⟨b0, b1⟩, b2⟩, b3⟩, b4⟩, b5⟩, b6⟩ := hb
 obtain ⟨_, _, _, _, _, hw, _, _⟩ := z94 hf
 refine ⟨fun r hr => ?_, fun w hw' => ?_, fun e he => ?_, ?_⟩
 ·have := List.any_eq_false.1 b1 r hr
  simp only [zf5, Bool.not_eq_true, Bool.or_eq_false_iff, Bool.not_eq_false', decide_eq_false_iff_not] at this
  obtain ⟨⟨⟨c1, c2⟩, c3⟩, c4⟩ := this
  have := zzt c1
  omega
 ·have := List.any_eq_false.1 b3 w hw'
  have h3 := hw w hw'
  simp only [zew, Bool.and_eq_true] at h3
  have := zzt h3.1.1.2
  simp at *
  omega
 ·have := List.any_eq_false.1 b5 e he
  simp at this; omega
 ·simp at b0
  exact List.length_pos_iff.2 b0
end Px
end
section
namespace Px
open Go
set_option linter.unusedVariables false
set_option linter.unusedSimpArgs false
theorem y5q {n b : Nat} (h : n <= 100000) (hb : b <= 1000) : fits n b := by
 unfold fits
 have : n * b <= 100000 * 1000 := Nat.mul_le_mul h hb
 omega
abbrev Ln := List ((Nat -> Int) × Int)
abbrev keyP (a b : Int) : Nat -> Int := upd (upd (fun _ => (default : Int)) 0 a) 1 b
abbrev lget (m : Ln) (a b : Int) : Option Int := @mget _ _ ⟨beqA 2⟩ m (keyP a b)
abbrev lset (m : Ln) (a b i : Int) : Ln := @mset _ _ ⟨beqA 2⟩ m (keyP a b) i
theorem y3r (f g : Nat -> Int) : beqA 2 f g = (f 0 == g 0 && f 1 == g 1) := by
 simp [beqA, List.range_succ]
theorem y7n (a b : Int) : keyP a b 0 = a := rfl
theorem y7v (a b : Int) : keyP a b 1 = b := rfl
theorem zjm (m : Ln) (a b i c d : Int) : lget (lset m a b i) c d = if c = a /\ d = b then some i else lget m c d := by
 induction m with
 | nil =>
  show (bif beqA 2 (keyP c d) (keyP a b) then some i else none) = _
  rw [y3r]
  simp only [y7n, y7v]
  by_cases h : c = a /\ d = b
  ·rw [if_pos h]; simp [h]
  ·rw [if_neg h]
   have : (c == a && d == b) = false := by rw [<- Bool.not_eq_true]; simpa using h
   rw [this]; rfl
 | cons p m ih =>
  obtain ⟨k, v⟩ := p
  show lget (bif beqA 2 (keyP a b) k then (keyP a b, i) :: m else (k, v) :: lset m a b i) c d = _
  have e1 : lget ((k, v) :: m) c d = bif beqA 2 (keyP c d) k then some v else lget m c d := rfl
  cases h1 : beqA 2 (keyP a b) k with
  | true =>
   rw [y3r] at h1
   simp only [y7n, y7v, Bool.and_eq_true, beq_iff_eq] at h1
   show (bif beqA 2 (keyP c d) (keyP a b) then some i else lget m c d) = _
   rw [e1, y3r, y3r]
   simp only [y7n, y7v]
   by_cases h : c = a /\ d = b
   ·rw [if_pos h]; simp [h]
   ·rw [if_neg h]
    have h2 : (c == a && d == b) = false := by rw [<- Bool.not_eq_true]; simpa using h
    have h3 : (c == k 0 && d == k 1) = false := by rw [<- h1.1, <- h1.2]; exact h2
    rw [h2, h3]; rfl
  | false =>
   show (bif beqA 2 (keyP c d) k then some v else lget (lset m a b i) c d) = _
   rw [ih, e1]
   cases h2 : beqA 2 (keyP c d) k with
   | false => rfl
   | true =>
    by_cases h : c = a /\ d = b
    ·obtain ⟨rfl, rfl⟩ := h
     rw [h1] at h2; cases h2
    ·show some v = _
     rw [if_neg h]; rfl
theorem y1k {b : Bool} (h : ¬ (!b) = true) : b = true := by cases b <;> simp_all
def ent1 (es : List Edge) (i a b : Int) (s : List (List Int) × Ln) : List (List Int) × Ln :=
 (if (!(lget s.2 a b).isSome) = true then z02 s.1 a (gt s.1 a ++ [b]) else s.1,
  if (!(lget s.2 a b).isSome || decide ((gt es i).minutes < (gt es ((lget s.2 a b).getD default)).minutes)) = true then lset s.2 a b i else s.2)
def entE (es : List Edge) (i : Int) (s : List (List Int) × Ln) : List (List Int) × Ln := ent1 es i (gt es i).b (gt es i).a (ent1 es i (gt es i).a (gt es i).b s)
structure GI (es : List Edge) (P k : Nat) (s : List (List Int) × Ln) : Prop where
 len : s.1.length = P
 near : ∀ a b : Int, 0 <= a -> a < (P : Int) -> (b ∈ gt s.1 a ↔ (lget s.2 a b).isSome = true)
 line : ∀ a b i : Int, lget s.2 a b = some i -> 0 <= i /\ i < (k : Int) /\ (((gt es i).a = a /\ (gt es i).b = b) \/ ((gt es i).a = b /\ (gt es i).b = a))
 size : ∀ a : Int, 0 <= a -> a < (P : Int) -> (gt s.1 a).length <= 2 * k
structure HI (es : List Edge) (P k : Nat) (s : List (List Int) × Ln) : Prop extends GI es P k s where
 sym : ∀ a b : Int, lget s.2 a b = lget s.2 b a
theorem y3s (es : List Edge) (P : Nat) : HI es P 0 (List.replicate P (default : List Int), []) where
 len := by simp
 near := fun a b h0 h1 => by
  rw [z1h _ _ _ h0 (by omega)]
  show b ∈ ([] : List Int) ↔ _
  simp [lget, mget]
 line := fun a b i h => by simp [lget, mget] at h
 size := fun a h0 h1 => by rw [z1h _ _ _ h0 (by omega)]; simp; rfl
 sym := fun a b => rfl
theorem y6n {es : List Edge} {P k : Nat} {s : List (List Int) × Ln} (h : GI es P k s) {a b : Int} (ha : 0 <= a) (ha' : a < (P : Int)) (he : ((gt es (k : Int)).a = a /\ (gt es (k : Int)).b = b) \/ ((gt es (k : Int)).a = b /\ (gt es (k : Int)).b = a)) :
  (ent1 es k a b s).1.length = P /\ (∀ c d : Int, 0 <= c -> c < (P : Int) -> (d ∈ gt (ent1 es k a b s).1 c ↔ (lget (ent1 es k a b s).2 c d).isSome = true)) /\
  (∀ c d i : Int, lget (ent1 es k a b s).2 c d = some i -> 0 <= i /\ i < ((k + 1 : Nat) : Int) /\ (((gt es i).a = c /\ (gt es i).b = d) \/ ((gt es i).a = d /\ (gt es i).b = c))) /\
  (∀ c : Int, 0 <= c -> c < (P : Int) -> (gt (ent1 es k a b s).1 c).length <= (gt s.1 c).length + 1) /\
  (∀ c d : Int, ¬ (c = a /\ d = b) -> lget (ent1 es k a b s).2 c d = lget s.2 c d) /\
  lget (ent1 es k a b s).2 a b = (if (!(lget s.2 a b).isSome || decide ((gt es (k : Int)).minutes < (gt es ((lget s.2 a b).getD default)).minutes)) = true then some (k : Int) else lget s.2 a b) := by
 have hl2 : ∀ c d : Int, lget (ent1 es k a b s).2 c d = if (c = a /\ d = b) then (if (!(lget s.2 a b).isSome || decide ((gt es (k : Int)).minutes < (gt es ((lget s.2 a b).getD default)).minutes)) = true then some (k : Int) else lget s.2 a b) else lget s.2 c d := by
  intro c d
  unfold ent1
  simp only []
  split
  ·rw [zjm]
  ·split
   ·rename_i q; rw [q.1, q.2]
   ·rfl
 have hsm : (lget (ent1 es k a b s).2 a b).isSome = true := by
  rw [hl2, if_pos ⟨rfl, rfl⟩]
  split
  ·rfl
  ·rename_i q
   simp only [Bool.or_eq_true, not_or] at q
   exact y1k q.1
 refine ⟨?_, ?_, ?_, ?_, fun c d hcd => by rw [hl2, if_neg hcd], by rw [hl2, if_pos ⟨rfl, rfl⟩]⟩
 ·unfold ent1
  simp only []
  split
  ·rw [z0p]; exact h.len
  ·exact h.len
 ·intro c d hc hc'
  by_cases hcd : c = a /\ d = b
  ·obtain ⟨rfl, rfl⟩ := hcd
   rw [hsm]
   refine ⟨fun _ => rfl, fun _ => ?_⟩
   unfold ent1
   simp only []
   split
   ·rw [z0f _ _ _ _ hc (by rw [h.len]; exact hc') hc, if_pos rfl]; simp
   ·rename_i q
    exact (h.near c d hc hc').2 (y1k q)
  ·rw [hl2, if_neg hcd, <- h.near c d hc hc']
   unfold ent1
   simp only []
   split
   ·rw [z0f _ _ _ _ ha (by rw [h.len]; exact ha') hc]
    by_cases e : c = a
    ·subst e
     rw [if_pos rfl]
     simp only [List.mem_append, List.mem_singleton]
     exact ⟨fun q => q.resolve_right (fun e => hcd ⟨rfl, e⟩), .inl⟩
    ·rw [if_neg e]
   ·exact Iff.rfl
 ·intro c d i hi
  rw [hl2] at hi
  split at hi
  ·rename_i q
   obtain ⟨rfl, rfl⟩ := q
   split at hi
   ·have := Option.some.inj hi
    subst this
    exact ⟨by omega, by omega, he⟩
   ·obtain ⟨h1, h2, h3⟩ := h.line _ _ _ hi
    exact ⟨h1, by omega, h3⟩
  ·obtain ⟨h1, h2, h3⟩ := h.line _ _ _ hi
   exact ⟨h1, by omega, h3⟩
 ·intro c hc hc'
  unfold ent1
  simp only []
  split
  ·rw [z0f _ _ _ _ ha (by rw [h.len]; exact ha') hc]
   split
   ·rename_i e; subst e; simp
   ·omega
  ·omega
theorem y8f {es : List Edge} {P k : Nat} {s : List (List Int) × Ln} (h : HI es P k s) (ha : 0 <= (gt es (k : Int)).a) (ha' : (gt es (k : Int)).a < (P : Int)) (hb : 0 <= (gt es (k : Int)).b) (hb' : (gt es (k : Int)).b < (P : Int)) (hne : (gt es (k : Int)).a ≠ (gt es (k : Int)).b) :
  HI es P (k + 1) (entE es k s) := by
 obtain ⟨a1, a2, a3, a4, a5, a6⟩ := y6n h.toGI ha ha' (.inl ⟨rfl, rfl⟩)
 unfold entE
 generalize hs1 : ent1 es k (gt es (k : Int)).a (gt es (k : Int)).b s = s1 at *
 generalize (gt es (k : Int)).a = a at *
 generalize (gt es (k : Int)).b = b at *
 -- the second end, by the same law: only the zc4 on the numbers has moved
 have hl2 : ∀ c d : Int, lget (ent1 es k b a s1).2 c d = if (c = b /\ d = a) then (if (!(lget s1.2 b a).isSome || decide ((gt es (k : Int)).minutes < (gt es ((lget s1.2 b a).getD default)).minutes)) = true then some (k : Int) else lget s1.2 b a) else lget s1.2 c d := by
  intro c d
  unfold ent1
  simp only []
  split
  ·rw [zjm]
  ·split
   ·rename_i q; rw [q.1, q.2]
   ·rfl
 have hba : lget s1.2 b a = lget s.2 a b := by rw [a5 b a (fun q => hne q.2), h.sym]
 have hsm : (lget (ent1 es k b a s1).2 b a).isSome = true := by
  rw [hl2, if_pos ⟨rfl, rfl⟩]
  split
  ·rfl
  ·rename_i q
   simp only [Bool.or_eq_true, not_or] at q
   exact y1k q.1
 have hlab : lget (ent1 es k b a s1).2 a b = lget s1.2 a b := by rw [hl2, if_neg (fun q => hne q.1)]
 have hlba : lget (ent1 es k b a s1).2 b a = lget s1.2 a b := by
  rw [hl2, if_pos ⟨rfl, rfl⟩, hba, a6]
 have hab : ((gt es (k : Int)).a = a /\ (gt es (k : Int)).b = b) \/ ((gt es (k : Int)).a = b /\ (gt es (k : Int)).b = a) -> True := fun _ => trivial
 refine ⟨⟨?_, ?_, ?_, ?_⟩, ?_⟩
 ·unfold ent1
  simp only []
  split
  ·rw [z0p]; exact a1
  ·exact a1
 ·intro c d hc hc'
  by_cases hcd : c = b /\ d = a
  ·obtain ⟨rfl, rfl⟩ := hcd
   rw [hsm]
   refine ⟨fun _ => rfl, fun _ => ?_⟩
   unfold ent1
   simp only []
   split
   ·rw [z0f _ _ _ _ hc (by rw [a1]; exact hc') hc, if_pos rfl]; simp
   ·rename_i q
    exact (a2 c d hc hc').2 (y1k q)
  ·rw [hl2, if_neg hcd, <- a2 c d hc hc']
   unfold ent1
   simp only []
   split
   ·rw [z0f _ _ _ _ hb (by rw [a1]; exact hb') hc]
    by_cases e : c = b
    ·subst e
     rw [if_pos rfl]
     simp only [List.mem_append, List.mem_singleton]
     exact ⟨fun q => q.resolve_right (fun e => hcd ⟨rfl, e⟩), .inl⟩
    ·rw [if_neg e]
   ·exact Iff.rfl
 ·intro c d i hi
  by_cases hcd : c = b /\ d = a
  ·obtain ⟨rfl, rfl⟩ := hcd
   rw [hlba] at hi
   obtain ⟨h1, h2, h3⟩ := a3 _ _ _ hi
   exact ⟨h1, h2, h3.elim .inr .inl⟩
  ·rw [hl2, if_neg hcd] at hi
   exact a3 _ _ _ hi
 ·intro c hc hc'
  have h1 := a4 c hc hc'
  have h0 := h.size c hc hc'
  have h2 : (gt (ent1 es k b a s1).1 c).length <= (gt s1.1 c).length + 1 := by
   unfold ent1
   simp only []
   split
   ·rw [z0f _ _ _ _ hb (by rw [a1]; exact hb') hc]
    split
    ·rename_i e; subst e; simp
    ·omega
   ·omega
  omega
 ·intro c d
  by_cases h1 : c = b /\ d = a
  ·obtain ⟨rfl, rfl⟩ := h1
   rw [hlba, hlab]
  ·by_cases h2 : c = a /\ d = b
   ·obtain ⟨rfl, rfl⟩ := h2
    rw [hlab, hlba]
   ·rw [hl2, if_neg h1, hl2, if_neg (fun q => h2 ⟨q.2, q.1⟩), a5 c d h2, a5 d c (fun q => h1 ⟨q.2, q.1⟩), h.sym]
def zht (es : List Edge) (P : Nat) : Nat -> List (List Int) × Ln
 | 0 => (List.replicate P default, [])
 | k + 1 => entE es k (zht es P k)
structure zjo (x : zh) : Prop where
 places : x.places.length <= 512
 edges : x.edges.length <= 2048
 edge : ∀ i : Int, 0 <= i -> i < (x.edges.length : Int) -> zcd x.places.length (gt x.edges i) = true
theorem y0q {x : zh} (h : z8i x = 0) : zjo x := by
 obtain ⟨h1, h2, _, h4⟩ := zcq h
 exact ⟨h1, h2, fun i h0 hi => h4 _ (z0g h0 hi)⟩
theorem zjo.ends {x : zh} (h : zjo x) {i : Int} (h0 : 0 <= i) (hi : i < (x.edges.length : Int)) : 0 <= (gt x.edges i).a /\ (gt x.edges i).a < (x.places.length : Int) /\ 0 <= (gt x.edges i).b /\ (gt x.edges i).b < (x.places.length : Int) /\
  (gt x.edges i).a ≠ (gt x.edges i).b /\ 0 <= (gt x.edges i).railway /\ (gt x.edges i).railway <= 15 /\ 1 <= (gt x.edges i).minutes /\ (gt x.edges i).minutes <= 100000 /\ 0 <= (gt x.edges i).km /\ (gt x.edges i).km <= 10000 := by
 have := h.edge i h0 hi
 simp only [zcd, Bool.and_eq_true, zs3, bne_iff_ne, ne_eq] at this
 obtain ⟨⟨⟨⟨⟨q1, q2⟩, q3⟩, q4⟩, q5⟩, q6⟩ := this
 exact ⟨q1.1, by omega, q2.1, by omega, q3, q4.1, q4.2, q5.1, q5.2, q6.1, q6.2⟩
theorem zdg {x : zh} (h : zjo x) : ∀ k, k <= x.edges.length -> HI x.edges x.places.length k (zht x.edges x.places.length k)
 | 0, _ => y3s _ _
 | k + 1, hk => by
  obtain ⟨a1, a2, a3, a4, a5, _⟩ := h.ends (i := (k : Int)) (by omega) (by omega)
  exact y8f (zdg h k (by omega)) a1 a2 a3 a4 a5
structure Gr (P : Nat) (near : List (List Int)) (wt : Int -> Int -> Int) : Prop where
 len : near.length = P
 small : P <= 512
 size : ∀ a : Int, 0 <= a -> a < (P : Int) -> (gt near a).length <= 5000
 rng : ∀ a b : Int, 0 <= a -> a < (P : Int) -> b ∈ gt near a -> 0 <= b /\ b < (P : Int)
 sym : ∀ a b : Int, 0 <= a -> a < (P : Int) -> b ∈ gt near a -> a ∈ gt near b /\ wt b a = wt a b
 wt : ∀ a b : Int, 0 <= a -> a < (P : Int) -> b ∈ gt near a -> 1 <= wt a b /\ wt a b <= 100000
def z9w (x : zh) : Ln := (zht x.edges x.places.length x.edges.length).2
def wtN (x : zh) (a b : Int) : Int := (gt x.edges ((lget (z9w x) a b).getD default)).minutes
def zg8 (x : zh) : List (List Int) := (zht x.edges x.places.length x.edges.length).1
def z3w (x : zh) : List (List Int) := (zg8 x).map fun l => zdf (fun a b => decide (a < b)) l
theorem y0j {α β : Type} [Inhabited α] [Inhabited β] (f : α -> β) (l : List α) {i : Int} (h0 : 0 <= i) (h : i < (l.length : Int)) : gt (l.map f) i = f (gt l i) := by
 obtain ⟨n, rfl⟩ : ∃ n : Nat, i = (n : Int) := ⟨i.toNat, by omega⟩
 rw [z20 (by simp; omega), z20 (by omega)]
 simp
theorem zmn {x : zh} (h : zjo x) {a b : Int} (ha : 0 <= a) (ha' : a < (x.places.length : Int)) (hb : b ∈ gt (z3w x) a) : ∃ i, lget (z9w x) a b = some i /\ 0 <= i /\ i < (x.edges.length : Int) /\ (((gt x.edges i).a = a /\ (gt x.edges i).b = b) \/ ((gt x.edges i).a = b /\ (gt x.edges i).b = a)) := by
 have H := zdg h x.edges.length (Nat.le_refl _)
 unfold z3w at hb
 rw [y0j _ _ ha (by show a < ((zg8 x).length : Int); rw [show (zg8 x).length = _ from H.len]; exact ha')] at hb
 have hb := (z1o _ _).mem_iff.1 hb
 have := (H.near a b ha ha').1 hb
 obtain ⟨i, hi⟩ := Option.isSome_iff_exists.1 this
 obtain ⟨h1, h2, h3⟩ := H.line _ _ _ hi
 exact ⟨i, hi, h1, h2, h3⟩
theorem grN {x : zh} (h : zjo x) : Gr x.places.length (z3w x) (wtN x) := by
 have H := zdg h x.edges.length (Nat.le_refl _)
 have hlen : (z3w x).length = x.places.length := by unfold z3w; rw [List.length_map]; exact H.len
 have hl0 : (zg8 x).length = x.places.length := H.len
 have hmem : ∀ a b : Int, 0 <= a -> a < (x.places.length : Int) -> (b ∈ gt (z3w x) a ↔ (lget (z9w x) a b).isSome = true) := by
  intro a b ha ha'
  unfold z3w
  rw [y0j _ _ ha (by rw [hl0]; exact ha')]
  exact ((z1o _ _).mem_iff).trans (H.near a b ha ha')
 refine ⟨hlen, h.places, ?_, ?_, ?_, ?_⟩
 ·intro a ha ha'
  unfold z3w
  rw [y0j _ _ ha (by rw [hl0]; exact ha'), (z1o _ _).length_eq]
  have := H.size a ha ha'
  have := h.edges
  show (gt (zht x.edges x.places.length x.edges.length).1 a).length <= _
  omega
 ·intro a b ha ha' hb
  obtain ⟨i, _, h1, h2, h3⟩ := zmn h ha ha' hb
  obtain ⟨e1, e2, e3, e4, _⟩ := h.ends h1 h2
  rcases h3 with ⟨rfl, rfl⟩ | ⟨rfl, rfl⟩
  ·exact ⟨e3, e4⟩
  ·exact ⟨e1, e2⟩
 ·intro a b ha ha' hb
  obtain ⟨i, hi, h1, h2, h3⟩ := zmn h ha ha' hb
  obtain ⟨e1, e2, e3, e4, _⟩ := h.ends h1 h2
  have hbr : 0 <= b /\ b < (x.places.length : Int) := by
   rcases h3 with ⟨rfl, rfl⟩ | ⟨rfl, rfl⟩
   ·exact ⟨e3, e4⟩
   ·exact ⟨e1, e2⟩
  have hs : lget (z9w x) b a = lget (z9w x) a b := H.sym b a
  refine ⟨(hmem b a hbr.1 hbr.2).2 (by rw [hs, hi]; rfl), ?_⟩
  unfold wtN
  rw [hs]
 ·intro a b ha ha' hb
  obtain ⟨i, hi, h1, h2, _⟩ := zmn h ha ha' hb
  obtain ⟨_, _, _, _, _, _, _, e1, e2, _⟩ := h.ends h1 h2
  unfold wtN
  rw [hi]
  exact ⟨e1, e2⟩
structure DI (P : Nat) (near : List (List Int)) (wt : Int -> Int -> Int) (s : Int) (k : Nat) (t : List Int) (d : List Bool) : Prop where
 lt : t.length = P
 ld : d.length = P
 src : gt t s = 0
 bd : ∀ i : Int, 0 <= i -> i < (P : Int) -> gt t i = -1 \/ (0 <= gt t i /\ gt t i <= 100000 * k)
 don : ∀ i : Int, 0 <= i -> i < (P : Int) -> gt d i = true -> 0 <= gt t i
 pre : ∀ a : Int, 0 <= a -> a < (P : Int) -> a ≠ s -> 0 <= gt t a -> ∃ q, 0 <= q /\ q < (P : Int) /\ gt d q = true /\ q ∈ gt near a /\ gt t a = gt t q + wt q a
 mon : ∀ q i : Int, 0 <= q -> q < (P : Int) -> 0 <= i -> i < (P : Int) -> gt d q = true -> gt d i = false -> 0 <= gt t i -> gt t q <= gt t i
 nbr : ∀ q i : Int, 0 <= q -> q < (P : Int) -> gt d q = true -> i ∈ gt near q -> 0 <= gt t i /\ gt t i <= gt t q + wt q i
 cnt : d.count true = k
structure RndI (P : Nat) (near : List (List Int)) (wt : Int -> Int -> Int) (s p : Int) (k : Nat) (t0 : List Int) (d : List Bool) (seen : List Int) (t : List Int) : Prop where
 lt : t.length = P
 own : gt t p = gt t0 p
 val : ∀ i : Int, 0 <= i -> i < (P : Int) -> gt t i = gt t0 i \/ (i ∈ seen /\ gt t i = gt t0 p + wt p i /\ (gt t0 i < 0 \/ gt t0 p + wt p i < gt t0 i))
 got : ∀ i ∈ seen, 0 <= i -> 0 <= gt t i /\ gt t i <= gt t p + wt p i
end Px
end
section
namespace Px
open Go
set_option linter.unusedVariables false
set_option linter.unusedSimpArgs false
section
variable {P : Nat} {near : List (List Int)} {wt : Int -> Int -> Int} {s : Int}
theorem zvw {α : Type} [Inhabited α] (l : List α) {i : Int} (h0 : 0 <= i) (h : i < (l.length : Int)) : z02 l i (gt l i) = l := by
 obtain ⟨n, rfl⟩ : ∃ n : Nat, i = (n : Int) := ⟨i.toNat, by omega⟩
 rw [z20 (by omega)]
 simp [z02]
theorem zyu {p : Int} {k : Nat} {t0 : List Int} {d : List Bool} (h : DI P near wt s k t0 d) : RndI P near wt s p k t0 d [] t0 :=
 ⟨h.lt, rfl, fun i _ _ => .inl rfl, fun i hi => by cases hi⟩
theorem y2u (hG : Gr P near wt) {p : Int} (hp : 0 <= p) (hp' : p < (P : Int)) {k : Nat} {t0 : List Int} {d : List Bool} (hp0 : 0 <= gt t0 p) {seen t : List Int} (h : RndI P near wt s p k t0 d seen t) {q : Int} (hq : q ∈ gt near p) :
  RndI P near wt s p k t0 d (seen ++ [q]) (if (decide (gt t q < 0) || decide (gt t p + wt p q < gt t q)) = true then z02 t q (gt t p + wt p q) else t) := by
 obtain ⟨q0, q1⟩ := hG.rng p q hp hp' hq
 obtain ⟨w0, w1⟩ := hG.wt p q hp hp' hq
 have hown := h.own
 by_cases c : gt t q < 0 \/ gt t p + wt p q < gt t q
 ·rw [if_pos (by simpa using c)]
  have hqp : q ≠ p := fun e => by subst e; omega
  refine ⟨by rw [z0p]; exact h.lt, ?_, fun i h0 h1 => ?_, fun i hi hneg => ?_⟩
  ·rw [z0f _ _ _ _ q0 (by rw [h.lt]; exact q1) hp, if_neg (fun e => hqp e.symm)]; exact hown
  ·rw [z0f _ _ _ _ q0 (by rw [h.lt]; exact q1) h0]
   by_cases e : i = q
   ·subst e
    rw [if_pos rfl]
    refine .inr ⟨by simp, by rw [hown], ?_⟩
    rcases h.val i h0 h1 with h2 | ⟨_, h2, _⟩
    ·rw [h2, hown] at c; exact c
    ·rw [h2, hown] at c; exfalso; omega
   ·rw [if_neg e]
    rcases h.val i h0 h1 with h2 | ⟨h2, h3, h4⟩
    ·exact .inl h2
    ·exact .inr ⟨List.mem_append_left _ h2, h3, h4⟩
  ·by_cases e : i = q
   ·subst e
    rw [z0f _ _ _ _ q0 (by rw [h.lt]; exact q1) q0, if_pos rfl, z0f _ _ _ _ q0 (by rw [h.lt]; exact q1) hp, if_neg (fun e => hqp e.symm)]
    omega
   ·have hi : i ∈ seen := by
     rcases List.mem_append.1 hi with hi | hi
     ·exact hi
     ·exact absurd (List.mem_singleton.1 hi) e
    rw [z0f _ _ _ _ q0 (by rw [h.lt]; exact q1) hneg, if_neg e, z0f _ _ _ _ q0 (by rw [h.lt]; exact q1) hp, if_neg (fun e => hqp e.symm)]
    exact h.got i hi hneg
 ·rw [if_neg (by simpa using c)]
  refine ⟨h.lt, hown, fun i h0 h1 => ?_, fun i hi hneg => ?_⟩
  ·rcases h.val i h0 h1 with h2 | ⟨h2, h3, h4⟩
   ·exact .inl h2
   ·exact .inr ⟨List.mem_append_left _ h2, h3, h4⟩
  ·rcases List.mem_append.1 hi with hi | hi
   ·exact h.got i hi hneg
   ·rw [List.mem_singleton.1 hi]; omega
theorem zrm {d : List Bool} {p : Int} (hp : 0 <= p) (hp' : p < (d.length : Int)) (h : gt d p = false) : (z02 d p true).count true = d.count true + 1 := by
 obtain ⟨n, rfl⟩ : ∃ n : Nat, p = (n : Int) := ⟨p.toNat, by omega⟩
 have hn : n < d.length := by omega
 rw [z20 hn] at h
 unfold z02
 rw [Int.toNat_natCast, List.count_set hn, h]
 simp
theorem y2j (hG : Gr P near wt) {p : Int} (hp : 0 <= p) (hp' : p < (P : Int)) {k : Nat} {t0 : List Int} {d : List Bool} (h : DI P near wt s k t0 d) (hs : 0 <= s) (hs' : s < (P : Int)) (hp0 : 0 <= gt t0 p) (hd : gt d p = false)
  (hmin : ∀ i : Int, 0 <= i -> i < (P : Int) -> 0 <= gt t0 i -> gt d i = false -> gt t0 p <= gt t0 i) {t : List Int} (hr : RndI P near wt s p k t0 d (gt near p) t) : DI P near wt s (k + 1) t (z02 d p true) := by
 have hds : ∀ i : Int, 0 <= i -> gt (z02 d p true) i = if i = p then true else gt d i := fun i hi => z0f _ _ _ _ hp (by rw [h.ld]; exact hp') hi
 have hw : ∀ i, i ∈ gt near p -> 1 <= wt p i /\ wt p i <= 100000 := fun i hi => hG.wt p i hp hp' hi
 -- what is done stays
 have hdone : ∀ i : Int, 0 <= i -> i < (P : Int) -> gt d i = true -> gt t i = gt t0 i := by
  intro i h0 h1 hdi
  rcases hr.val i h0 h1 with h2 | ⟨h2, h3, h4⟩
  ·exact h2
  ·have := hw i h2
   have := h.don i h0 h1 hdi
   have := h.mon i p h0 h1 hp hp' hdi hd hp0
   omega
 have hbdp := (h.bd p hp hp').resolve_left (by omega)
 refine ⟨hr.lt, by rw [z0p]; exact h.ld, ?_, fun i h0 h1 => ?_, fun i h0 h1 hdi => ?_, fun a h0 h1 has hta => ?_, fun q i q0 q1 h0 h1 hdq hdi hti => ?_, fun q i q0 q1 hdq hin => ?_, ?_⟩
 ·rcases hr.val s hs hs' with h2 | ⟨h2, h3, h4⟩
  ·rw [h2, h.src]
  ·have := hw s h2
   have := h.src
   omega
 ·rcases hr.val i h0 h1 with h2 | ⟨h2, h3, h4⟩
  ·rw [h2]
   rcases h.bd i h0 h1 with h5 | h5
   ·exact .inl h5
   ·right; omega
  ·have := hw i h2
   right; omega
 ·rw [hds i h0] at hdi
  by_cases e : i = p
  ·subst e; rw [hr.own]; exact hp0
  ·rw [if_neg e] at hdi
   rw [hdone i h0 h1 hdi]; exact h.don i h0 h1 hdi
 ·rcases hr.val a h0 h1 with h2 | ⟨h2, h3, h4⟩
  ·rw [h2] at hta ⊢
   obtain ⟨q, q0, q1, hdq, hqn, he⟩ := h.pre a h0 h1 has hta
   refine ⟨q, q0, q1, ?_, hqn, by rw [hdone q q0 q1 hdq]; exact he⟩
   rw [hds q q0]; split
   ·rfl
   ·exact hdq
  ·obtain ⟨hsy, hwt⟩ := hG.sym p a hp hp' h2
   exact ⟨p, hp, hp', by rw [hds p hp, if_pos rfl], hsy, by rw [hr.own, h3]⟩
 ·rw [hds q q0] at hdq
  rw [hds i h0] at hdi
  have hip : i ≠ p := fun e => by rw [if_pos e] at hdi; cases hdi
  rw [if_neg hip] at hdi
  have hge : gt t0 p <= gt t i := by
   rcases hr.val i h0 h1 with h2 | ⟨h2, h3, h4⟩
   ·rw [h2] at hti ⊢; exact hmin i h0 h1 hti hdi
   ·have := hw i h2; omega
  by_cases e : q = p
  ·subst e; rw [hr.own]; exact hge
  ·rw [if_neg e] at hdq
   have := h.mon q p q0 q1 hp hp' hdq hd hp0
   rw [hdone q q0 q1 hdq]; omega
 ·rw [hds q q0] at hdq
  by_cases e : q = p
  ·subst e; exact hr.got i hin (hG.rng q i hp hp' hin).1
  ·rw [if_neg e] at hdq
   obtain ⟨i0, i1⟩ := hG.rng q i q0 q1 hin
   have := h.nbr q i q0 q1 hdq hin
   rw [hdone q q0 q1 hdq]
   rcases hr.val i i0 i1 with h2 | ⟨h2, h3, h4⟩
   ·rw [h2]; exact this
   ·have := hw i h2; omega
 ·rw [zrm hp (by rw [h.ld]; exact hp') hd, h.cnt]
structure DF (P : Nat) (near : List (List Int)) (wt : Int -> Int -> Int) (s : Int) (t : List Int) : Prop where
 lt : t.length = P
 src : gt t s = 0
 bd : ∀ i : Int, 0 <= i -> i < (P : Int) -> gt t i = -1 \/ (0 <= gt t i /\ gt t i <= 51200000)
 pre : ∀ a : Int, 0 <= a -> a < (P : Int) -> a ≠ s -> 0 <= gt t a -> ∃ q, 0 <= q /\ q < (P : Int) /\ q ∈ gt near a /\ 0 <= gt t q /\ gt t a = gt t q + wt q a
 nbr : ∀ q i : Int, 0 <= q -> q < (P : Int) -> 0 <= gt t q -> i ∈ gt near q -> 0 <= gt t i /\ gt t i <= gt t q + wt q i
theorem yc9 (hG : Gr P near wt) {k : Nat} {t : List Int} {d : List Bool} (h : DI P near wt s k t d) (hall : ∀ i : Int, 0 <= i -> i < (P : Int) -> 0 <= gt t i -> gt d i = true) : DF P near wt s t := by
 have hk : k <= P := by rw [<- h.cnt, <- h.ld]; exact List.count_le_length
 have := hG.small
 refine ⟨h.lt, h.src, fun i h0 h1 => ?_, fun a h0 h1 ha hta => ?_, fun q i q0 q1 hq hi => h.nbr q i q0 q1 (hall q q0 q1 hq) hi⟩
 ·rcases h.bd i h0 h1 with h2 | h2
  ·exact .inl h2
  ·right; omega
 ·obtain ⟨q, q0, q1, hdq, hqn, he⟩ := h.pre a h0 h1 ha hta
  exact ⟨q, q0, q1, hqn, h.don q q0 q1 hdq, he⟩
theorem y3c (hs : 0 <= s) (hs' : s < (P : Int)) (t : List Int) (ht : t.length = P) (hall : ∀ i : Int, 0 <= i -> i < (P : Int) -> gt t i = if i = s then 0 else -1) : DI P near wt s 0 t (List.replicate P (default : Bool)) := by
 have hd : ∀ i : Int, 0 <= i -> i < (P : Int) -> gt (List.replicate P (default : Bool)) i = false := fun i h0 h1 => by rw [z1h _ _ _ h0 (by omega)]; rfl
 refine ⟨ht, by simp, by rw [hall s hs hs', if_pos rfl], fun i h0 h1 => ?_, fun i h0 h1 h => ?_, fun a h0 h1 ha hta => ?_, fun q i q0 q1 h0 h1 hdq => ?_, fun q i q0 q1 hdq => ?_, ?_⟩
 ·rw [hall i h0 h1]; split <;> omega
 ·rw [hd i h0 h1] at h; cases h
 ·rw [hall a h0 h1, if_neg ha] at hta; omega
 ·rw [hd q q0 q1] at hdq; cases hdq
 ·rw [hd q q0 q1] at hdq; cases hdq
 ·simp [List.count_replicate]
end
section walk
variable {ρ : Type} {P : Nat} {near : List (List Int)} {wt : Int -> Int -> Int} {s : Int}
theorem ybj (hP : P <= 512) (A : Nat -> Int -> Int -> Option ρ) (fin : Int -> Option ρ) (t : List Int) (d : List Bool) (ht : t.length = P) (hd : d.length = P)
  (stp : ∀ n p i, A (n + 1) p i = (if (decide ((i : Int) < (P : Int))) = true then (ck ((0 : Int) <= i /\ i < (t.length : Int)) (ck (((decide ((0 : Int) <= (gt t i))) = true) -> (0 : Int) <= i /\ i < (d.length : Int)) (ck ((((decide ((0 : Int) <= (gt t i))) && (!(gt d i))) = true /\ (decide ((p : Int) < 0)) = false) -> (0 : Int) <= i /\ i < (t.length : Int)) (ck ((((decide ((0 : Int) <= (gt t i))) && (!(gt d i))) = true /\ (decide ((p : Int) < 0)) = false) -> (0 : Int) <= p /\ p < (t.length : Int)) (if (((decide ((0 : Int) <= (gt t i))) && (!(gt d i))) && ((decide ((p : Int) < 0)) || (decide (((gt t i) : Int) < (gt t p))))) = true then (A n i (W (i + 1))) else (A n p (W (i + 1)))))))) else fin p)) (n : Nat) (hn : P < n) :
  ∃ p, A n (-1) 0 = fin p /\ ((p = -1 /\ ∀ i : Int, 0 <= i -> i < (P : Int) -> 0 <= gt t i -> gt d i = true) \/ (0 <= p /\ p < (P : Int) /\ 0 <= gt t p /\ gt d p = false /\ ∀ i : Int, 0 <= i -> i < (P : Int) -> 0 <= gt t i -> gt d i = false -> gt t p <= gt t i)) := by
 refine z0e (fun n i (p : Int) => A n p i) P (fun i p => (p = -1 /\ ∀ j : Int, 0 <= j -> j < (i : Int) -> 0 <= gt t j -> gt d j = true) \/ (0 <= p /\ p < (i : Int) /\ 0 <= gt t p /\ gt d p = false /\ ∀ j : Int, 0 <= j -> j < (i : Int) -> 0 <= gt t j -> gt d j = false -> gt t p <= gt t j))
  (fun o => ∃ p, o = fin p /\ ((p = -1 /\ ∀ i : Int, 0 <= i -> i < (P : Int) -> 0 <= gt t i -> gt d i = true) \/ (0 <= p /\ p < (P : Int) /\ 0 <= gt t p /\ gt d p = false /\ ∀ i : Int, 0 <= i -> i < (P : Int) -> 0 <= gt t i -> gt d i = false -> gt t p <= gt t i))) ?_ ?_ n (-1) (.inl ⟨rfl, fun j h0 h1 => by omega⟩) hn
 ·intro n i p hi hI hs
  rw [stp, if_pos (by simp; omega), z7 ⟨by omega, by omega⟩, z7 (fun _ => ⟨by omega, by omega⟩), z7 (fun _ => ⟨by omega, by omega⟩), W_id (by omega) (by omega)]
  have hpr : (decide ((p : Int) < 0)) = false -> (0 : Int) <= p /\ p < (t.length : Int) := by
   intro h
   simp only [decide_eq_false_iff_not] at h
   rcases hI with ⟨rfl, _⟩ | ⟨h1, h2, _⟩
   ·omega
   ·exact ⟨h1, by omega⟩
  rw [z7 (fun h => hpr h.2)]
  have split_j : ∀ j : Int, j < ((i + 1 : Nat) : Int) -> j < (i : Int) \/ j = (i : Int) := fun j h => by omega
  by_cases c : (0 <= gt t (i : Int) /\ gt d (i : Int) = false) /\ (p < 0 \/ gt t (i : Int) < gt t p)
  ·rw [if_pos (by simpa using c)]
   refine hs _ (.inr ⟨by omega, by omega, c.1.1, c.1.2, fun j h0 h1 htj hdj => ?_⟩)
   rcases split_j j h1 with h2 | rfl
   ·rcases hI with ⟨_, h3⟩ | ⟨q0, _, _, _, h3⟩
    ·have := h3 j h0 h2 htj; rw [hdj] at this; cases this
    ·have := h3 j h0 h2 htj hdj
     have := c.2.resolve_left (by omega)
     omega
   ·exact Int.le_refl _
  ·rw [if_neg (by simpa using c)]
   refine hs p ?_
   rcases hI with ⟨rfl, h3⟩ | ⟨q0, q1, q2, q3, h3⟩
   ·refine .inl ⟨rfl, fun j h0 h1 htj => ?_⟩
    rcases split_j j h1 with h2 | rfl
    ·exact h3 j h0 h2 htj
    ·cases hdi : gt d (i : Int) with
     | true => rfl
     | false => exact absurd ⟨⟨htj, hdi⟩, .inl (by omega)⟩ c
   ·refine .inr ⟨q0, by omega, q2, q3, fun j h0 h1 htj hdj => ?_⟩
    rcases split_j j h1 with h2 | rfl
    ·exact h3 j h0 h2 htj hdj
    ·rcases Int.lt_or_le (gt t (i : Int)) (gt t p) with h4 | h4
     ·exact absurd ⟨⟨htj, hdj⟩, .inr h4⟩ c
     ·exact h4
 ·intro n p hI
  rw [stp, if_neg (by simp)]
  exact ⟨p, rfl, hI⟩
theorem ybo (hG : Gr P near wt) {p : Int} (hp : 0 <= p) (hp' : p < (P : Int)) {k : Nat} (hk : k <= 512) {t0 : List Int} {d : List Bool} (hD : DI P near wt s k t0 d) (hp0 : 0 <= gt t0 p) (B : Nat -> Int -> List Int -> Option ρ) (K : List Int -> Option ρ) (nb : List Int) (hnb : nb = gt near p) (E : Nat) (lg : Int -> Int) (mins : Int -> Int)
  (hlg : ∀ q ∈ nb, 0 <= lg q /\ lg q < (E : Int) /\ mins (lg q) = wt p q)
  (stp : ∀ n i t, B (n + 1) i t = (if (decide ((i : Int) < (nb.length : Int))) = true then (ck ((0 : Int) <= i /\ i < (nb.length : Int)) (ck ((0 : Int) <= p /\ p < (t.length : Int)) (ck ((0 : Int) <= lg (gt nb i) /\ lg (gt nb i) < (E : Int)) (ck ((0 : Int) <= (gt nb i) /\ (gt nb i) < (t.length : Int)) (ck (((decide (((gt t (gt nb i)) : Int) < 0)) = false) -> (0 : Int) <= (gt nb i) /\ (gt nb i) < (t.length : Int)) (if ((decide (((gt t (gt nb i)) : Int) < 0)) || (decide (((W ((gt t p) + mins (lg (gt nb i)))) : Int) < (gt t (gt nb i))))) = true then (ck ((0 : Int) <= (gt nb i) /\ (gt nb i) < (t.length : Int)) (B n (W (i + 1)) (z02 t (gt nb i) (W ((gt t p) + mins (lg (gt nb i))))))) else (B n (W (i + 1)) t))))))) else K t)) (n : Nat) (hn : nb.length < n) :
  ∃ t, B n 0 t0 = K t /\ RndI P near wt s p k t0 d nb t := by
 have hsz : nb.length <= 5000 := by rw [hnb]; exact hG.size p hp hp'
 have hbp := (hD.bd p hp hp').resolve_left (by omega)
 refine z0e (fun n i t => B n i t) nb.length (fun i t => RndI P near wt s p k t0 d (nb.take i) t) (fun o => ∃ t, o = K t /\ RndI P near wt s p k t0 d nb t) ?_ ?_ n t0 (zyu hD) hn
 ·intro n i t hi hI hs
  have hm : gt nb (i : Int) ∈ gt near p := by rw [<- hnb]; exact z0g (by omega) (by omega)
  obtain ⟨q0, q1⟩ := hG.rng p _ hp hp' hm
  obtain ⟨w0, w1⟩ := hG.wt p _ hp hp' hm
  obtain ⟨l0, l1, l2⟩ := hlg (gt nb (i : Int)) (by rw [hnb]; rw [hnb] at hm; exact hm)
  have hlt := hI.lt
  have hst := y2u hG hp hp' hp0 hI hm
  rw [<- z0v nb i hi] at hst
  have hr := hs _ hst
  have hown := hI.own
  rw [stp, if_pos (by simp; omega), z7 ⟨by omega, by omega⟩, z7 ⟨by omega, by omega⟩, z7 ⟨l0, l1⟩, z7 ⟨by omega, by omega⟩, z7 (fun _ => ⟨by omega, by omega⟩), l2, W_id (x := gt t p + _) (by omega) (by omega), W_id (by omega) (by omega)]
  generalize gt nb (i : Int) = q at *
  by_cases c : (decide (gt t q < 0) || decide (gt t p + wt p q < gt t q)) = true
  ·rw [if_pos c] at hr ⊢
   rw [z7 ⟨by omega, by omega⟩]
   exact hr
  ·rw [if_neg c] at hr ⊢
   exact hr
 ·intro n t hI
  rw [stp, if_neg (by simp)]
  rw [List.take_length] at hI
  exact ⟨t, rfl, hI⟩
theorem y0x (hG : Gr P near wt) (hs : 0 <= s) (hs' : s < (P : Int)) (M : Nat -> List Int -> List Bool -> Option ρ) (fin : List Int -> Option ρ) (φ : Nat)
  (rnd : ∀ n k t d, k <= 512 -> DI P near wt s k t d -> (∃ t', DF P near wt s t' /\ M (n + 1) t d = fin t') \/ (∃ t' p, 0 <= p /\ p < (P : Int) /\ DI P near wt s (k + 1) t' (z02 d p true) /\ M (n + 1) t d = M n t' (z02 d p true))) :
  ∀ n k t d, DI P near wt s k t d -> P < n + k -> ∃ t', DF P near wt s t' /\ M n t d = fin t' := by
 intro n
 induction n with
 | zero =>
  intro k t d h hn
  have hk : k <= P := by rw [<- h.cnt, <- h.ld]; exact List.count_le_length
  omega
 | succ n ih =>
  intro k t d h hn
  have hk : k <= P := by rw [<- h.cnt, <- h.ld]; exact List.count_le_length
  have := hG.small
  rcases rnd n k t d (by omega) h with h1 | ⟨t', p, _, _, h2, h3⟩
  ·exact h1
  ·rw [h3]
   exact ih (k + 1) t' _ h2 (by omega)
end walk
end Px
end
section
namespace Px
open Go
set_option linter.unusedVariables false
set_option linter.unusedSimpArgs false
section zo
variable (φ : Nat) (K : List Edge -> Int -> Int -> Int -> Int -> zh -> zh -> List (List Int) -> Ln -> Option (Int × Int × Unit)) (x : zh) (a0 b0 : Int)
theorem z6t {i : Nat} (hi : i < x.edges.length) {P : Nat} {near : List (List Int)} {line : Ln} {a b : Int} (hl : near.length = P) (ha : 0 <= a) (ha' : a < (P : Int)) (hsz : (gt near a).length <= 10000) (hx : x.edges.length <= 2048) (hold : ∀ o, lget line a b = some o -> 0 <= o /\ o < (x.edges.length : Int)) :
  (if (!(lget line a b).isSome) = true then (ck ((0 : Int) <= a /\ a < (near.length : Int)) (ck ((0 : Int) <= a /\ a < (near.length : Int)) (ck ((a : Int) = a) (ck (fits ((gt near a).length + ([b]).length) 8) (ck ((0 : Int) <= a /\ a < (near.length : Int)) (ck ((a : Int) = a) (z2o φ K i ((lget line a b).getD default) ((lget line a b).isSome) x.edges (x.edges.length : Int) i a0 b0 x (keyP a b) x (z02 near a (gt near a ++ [b])) line))))))) else (z2o φ K i ((lget line a b).getD default) ((lget line a b).isSome) x.edges (x.edges.length : Int) i a0 b0 x (keyP a b) x near line)) =
  K x.edges (x.edges.length : Int) ((i : Int) + 1) a0 b0 x x (ent1 x.edges i a b (near, line)).1 (ent1 x.edges i a b (near, line)).2 := by
 have hW : W ((i : Int) + 1) = (i : Int) + 1 := W_id (by omega) (by omega)
 unfold z2o ent1
 simp only []
 cases h : lget line a b with
 | none =>
  simp only [Option.isSome_none, Bool.not_false, if_true, Option.getD_none, Bool.true_or]
  rw [z7 ⟨ha, by omega⟩, z7 ⟨ha, by omega⟩, z7 trivial, z7 (y5q (by simp; omega) (by omega)), z7 ⟨ha, by omega⟩, z7 trivial, z7 (by simp), z7 (by simp), hW]
 | some o =>
  have ho := hold o h
  simp only [Option.isSome_some, Bool.not_true, Bool.false_eq_true, if_false, Option.getD_some, Bool.false_or]
  rw [z7 (fun _ => ⟨by omega, by omega⟩), z7 (fun _ => ho), hW]
  by_cases c : decide ((gt x.edges (i : Int)).minutes < (gt x.edges o).minutes) = true
  ·rw [if_pos c, if_pos c]
  ·rw [if_neg c, if_neg c]
theorem zc2 {i : Nat} (hi : i < x.edges.length) {P : Nat} {near : List (List Int)} {line : Ln} {a b : Int} (hl : near.length = P) (ha : 0 <= a) (ha' : a < (P : Int)) (hsz : (gt near a).length <= 10000) (hx : x.edges.length <= 2048) (hold : ∀ o, lget line a b = some o -> 0 <= o /\ o < (x.edges.length : Int)) :
  (if (!(lget line a b).isSome) = true then (ck ((0 : Int) <= a /\ a < (near.length : Int)) (ck ((0 : Int) <= a /\ a < (near.length : Int)) (ck ((a : Int) = a) (ck (fits ((gt near a).length + ([b]).length) 8) (ck ((0 : Int) <= a /\ a < (near.length : Int)) (ck ((a : Int) = a) (z2l φ K i ((lget line a b).getD default) ((lget line a b).isSome) x.edges (x.edges.length : Int) i a0 b0 x (keyP a b) x (z02 near a (gt near a ++ [b])) line))))))) else (z2l φ K i ((lget line a b).getD default) ((lget line a b).isSome) x.edges (x.edges.length : Int) i a0 b0 x (keyP a b) x near line)) =
  K x.edges (x.edges.length : Int) ((i : Int) + 1) a0 b0 x x (ent1 x.edges i a b (near, line)).1 (ent1 x.edges i a b (near, line)).2 := z6t φ K x a0 b0 hi hl ha ha' hsz hx hold
theorem z6u (hx : zjo x) {i : Nat} (hi : i < x.edges.length) {near near1 : List (List Int)} {line : Ln} (old : Int) (sm : Bool) (hl : near1.length = x.places.length) (ho : sm = true -> 0 <= old /\ old < (x.edges.length : Int))
  (hsz : (gt near1 (gt x.edges (i : Int)).b).length <= 10000) (hline : ∀ a b o, lget line a b = some o -> 0 <= o /\ o < (x.edges.length : Int)) (line1 : Ln) (h1 : line1 = if (!sm || decide ((gt x.edges (i : Int)).minutes < (gt x.edges old).minutes)) = true then lset line (gt x.edges (i : Int)).a (gt x.edges (i : Int)).b i else line) :
  z2j φ K i old sm i x.edges (x.edges.length : Int) i a0 b0 x (keyP (gt x.edges (i : Int)).a (gt x.edges (i : Int)).b) (gt x.edges (i : Int)) x near1 line =
  K x.edges (x.edges.length : Int) ((i : Int) + 1) a0 b0 x x (ent1 x.edges i (gt x.edges (i : Int)).b (gt x.edges (i : Int)).a (near1, line1)).1 (ent1 x.edges i (gt x.edges (i : Int)).b (gt x.edges (i : Int)).a (near1, line1)).2 := by
 obtain ⟨e1, e2, e3, e4, e5, _⟩ := hx.ends (i := (i : Int)) (by omega) (by omega)
 unfold z2j
 rw [z7 (fun _ => ⟨by omega, by omega⟩), z7 (fun h => ho (by simpa using h))]
 by_cases c : (!sm || decide ((gt x.edges (i : Int)).minutes < (gt x.edges old).minutes)) = true
 ·rw [if_pos c] at h1 ⊢
  subst h1
  refine z6t φ K x a0 b0 hi hl e3 e4 hsz hx.edges fun o h => ?_
  rw [zjm, if_neg (fun q => e5 q.1.symm)] at h
  exact hline _ _ o h
 ·rw [if_neg c] at h1 ⊢
  subst h1
  exact zc2 φ K x a0 b0 hi hl e3 e4 hsz hx.edges fun o h => hline _ _ o h
end zo
section zo
variable (φ : Nat) (x : zh) (a0 b0 : Int)
theorem ze2 (hx : zjo x) (n : Nat) {i : Nat} (hi : i < x.edges.length) {s : List (List Int) × Ln} (h : HI x.edges x.places.length i s) :
  zq φ (n + 1) x.edges (x.edges.length : Int) i a0 b0 x x s.1 s.2 = zq φ n x.edges (x.edges.length : Int) ((i : Int) + 1) a0 b0 x x (entE x.edges i s).1 (entE x.edges i s).2 := by
 obtain ⟨e1, e2, e3, e4, e5, _⟩ := hx.ends (i := (i : Int)) (by omega) (by omega)
 have hE := hx.edges
 have hline : ∀ a b o, lget s.2 a b = some o -> 0 <= o /\ o < (x.edges.length : Int) := fun a b o ho => by
  obtain ⟨h1, h2, _⟩ := h.line _ _ _ ho
  exact ⟨h1, by omega⟩
 have hsa := h.size _ e1 e2
 have hsb := h.size _ e3 e4
 have hlen := h.len
 rw [zq, if_pos (by simp; omega), z7 ⟨by omega, by omega⟩]
 unfold entE
 generalize hs1 : ent1 x.edges i (gt x.edges (i : Int)).a (gt x.edges (i : Int)).b s = s1
 have hs1' := hs1
 unfold ent1 at hs1'
 cases hg : lget s.2 (gt x.edges (i : Int)).a (gt x.edges (i : Int)).b with
 | none =>
  have hg' : @mget (Nat -> Int) Int ⟨beqA 2⟩ s.2 (upd (upd (fun _ => (default : Int)) 0 (gt x.edges (i : Int)).a) 1 (gt x.edges (i : Int)).b) = none := hg
  rw [hg] at hs1'
  simp only [Option.isSome_none, Bool.not_false, if_true, Option.getD_none, Bool.true_or] at hs1'
  rw [hg']
  simp only [Option.isSome_none, Bool.not_false, if_true, Option.getD_none]
  rw [z7 ⟨e1, by omega⟩, z7 ⟨e1, by omega⟩, z7 trivial, z7 (y5q (by simp; omega) (by omega)), z7 ⟨e1, by omega⟩, z7 trivial, <- hs1']
  refine z6u φ (zq φ n) x a0 b0 hx hi (near := s.1) _ _ (by rw [z0p]; exact hlen) (fun h => by cases h) ?_ hline _ (by simp)
  rw [z0f _ _ _ _ e1 (by omega) e3, if_neg (fun q => e5 q.symm)]
  omega
 | some o =>
  have hg' : @mget (Nat -> Int) Int ⟨beqA 2⟩ s.2 (upd (upd (fun _ => (default : Int)) 0 (gt x.edges (i : Int)).a) 1 (gt x.edges (i : Int)).b) = some o := hg
  rw [hg] at hs1'
  simp only [Option.isSome_some, Bool.not_true, Bool.false_eq_true, if_false, Option.getD_some, Bool.false_or] at hs1'
  rw [hg']
  simp only [Option.isSome_some, Bool.not_true, Bool.false_eq_true, if_false, Option.getD_some]
  rw [<- hs1']
  exact z6u φ (zq φ n) x a0 b0 hx hi (near := s.1) _ _ hlen (fun _ => hline _ _ _ hg) (by omega) hline _ (by simp)
theorem ze6 (hx : zjo x) (hφ : 5000 < φ) (line : Ln) : z14 φ φ ((zg8 x).length : Int) 0 a0 b0 (zg8 x) x line = (ck (z0l (x.places.length : Int) 8) (ck (z0l (((List.replicate ((x.places.length : Int) : Int).toNat (default : Int)).length : Int)) 1) (z01 φ φ a0 (((List.replicate ((x.places.length : Int) : Int).toNat (default : Int)).length : Int)) 0 b0 x (List.replicate ((x.places.length : Int) : Int).toNat (default : Int)) ((List.replicate (((List.replicate ((x.places.length : Int) : Int).toNat (default : Int)).length : Int) : Int).toNat (default : Bool))) (z3w x) line))) := by
 have hl0 : (zg8 x).length = x.places.length := (zdg hx x.edges.length (Nat.le_refl _)).len
 have hP := hx.places
 have hE := hx.edges
 obtain ⟨n0, hn0⟩ : ∃ n0, n0 = x.places.length := ⟨_, rfl⟩
 rw [<- hn0] at hl0 hP
 rw [hl0]
 have hfin : ∀ o : List (List Int), o.length = n0 -> (∀ w : Nat, w < n0 -> gt o (w : Int) = zdf (fun a b => decide (a < b)) (gt (zg8 x) (w : Int))) -> o = z3w x := by
  intro o ho hw
  unfold z3w
  refine List.ext_getElem (by simp [ho, hl0]) fun i h1 h2 => ?_
  have := hw i (by omega)
  rw [z20 h1, z20 (by omega)] at this
  simpa using this
 refine z0e (fun n i o => z14 φ n (n0 : Int) i a0 b0 o x line) n0 (fun i o => o.length = n0 /\ ∀ w : Nat, w < n0 -> gt o (w : Int) = if w < i then zdf (fun a b => decide (a < b)) (gt (zg8 x) (w : Int)) else gt (zg8 x) (w : Int)) (fun o => o = (ck (z0l (x.places.length : Int) 8) (ck (z0l (((List.replicate ((x.places.length : Int) : Int).toNat (default : Int)).length : Int)) 1) (z01 φ φ a0 (((List.replicate ((x.places.length : Int) : Int).toNat (default : Int)).length : Int)) 0 b0 x (List.replicate ((x.places.length : Int) : Int).toNat (default : Int)) ((List.replicate (((List.replicate ((x.places.length : Int) : Int).toNat (default : Int)).length : Int) : Int).toNat (default : Bool))) (z3w x) line)))) ?_ ?_ φ (zg8 x) ⟨hl0, fun w hw => by rw [if_neg (by omega)]⟩ (by omega)
 ·intro n i o hi ⟨ho1, ho2⟩ hs
  have hsz := (zdg hx x.edges.length (Nat.le_refl _)).size (i : Int) (by omega) (by omega)
  have hsz : (gt (zg8 x) (i : Int)).length <= 2 * x.edges.length := hsz
  have hso : znm (gt (zg8 x) (i : Int)) = some (zdf (fun a b => decide (a < b)) (gt (zg8 x) (i : Int))) := by
   unfold znm zj2; rw [if_pos (by omega)]
  rw [z14, if_pos (by simp; omega), z7 ⟨by omega, by omega⟩, z7 ⟨by omega, by omega⟩, z7 rfl, ho2 i hi, if_neg (by omega), hso, Option.bind_some, W_id (by omega) (by omega)]
  refine hs _ ⟨by rw [z0p]; exact ho1, fun w hw => ?_⟩
  rw [z0f _ _ _ _ (by omega) (by omega) (by omega)]
  by_cases e : w = i
  ·subst e; rw [if_pos rfl, if_pos (by omega)]
  ·rw [if_neg (by omega), ho2 w hw]
   by_cases h2 : w < i
   ·rw [if_pos h2, if_pos (by omega)]
   ·rw [if_neg h2, if_neg (by omega)]
 ·intro n o ⟨ho1, ho2⟩
  have := hfin o ho1 fun w hw => by rw [ho2 w hw, if_pos hw]
  subst this
  rw [z14, if_neg (by simp)]
theorem z7t (hx : zjo x) (hφ : 5000 < φ) : zq φ φ x.edges (x.edges.length : Int) 0 a0 b0 x x (List.replicate ((x.places.length : Int)).toNat (default : List Int)) [] = (ck (z0l (x.places.length : Int) 8) (ck (z0l (((List.replicate ((x.places.length : Int) : Int).toNat (default : Int)).length : Int)) 1) (z01 φ φ a0 (((List.replicate ((x.places.length : Int) : Int).toNat (default : Int)).length : Int)) 0 b0 x (List.replicate ((x.places.length : Int) : Int).toNat (default : Int)) ((List.replicate (((List.replicate ((x.places.length : Int) : Int).toNat (default : Int)).length : Int) : Int).toNat (default : Bool))) (z3w x) (z9w x)))) := by
 have hE := hx.edges
 have h0 : (List.replicate ((x.places.length : Int)).toNat (default : List Int), ([] : Ln)) = zht x.edges x.places.length 0 := by simp [zht]
 refine z0e (fun n i (s : List (List Int) × Ln) => zq φ n x.edges (x.edges.length : Int) i a0 b0 x x s.1 s.2) x.edges.length (fun i s => s = zht x.edges x.places.length i) (fun o => o = (ck (z0l (x.places.length : Int) 8) (ck (z0l (((List.replicate ((x.places.length : Int) : Int).toNat (default : Int)).length : Int)) 1) (z01 φ φ a0 (((List.replicate ((x.places.length : Int) : Int).toNat (default : Int)).length : Int)) 0 b0 x (List.replicate ((x.places.length : Int) : Int).toNat (default : Int)) ((List.replicate (((List.replicate ((x.places.length : Int) : Int).toNat (default : Int)).length : Int) : Int).toNat (default : Bool))) (z3w x) (z9w x))))) ?_ ?_ φ (List.replicate ((x.places.length : Int)).toNat (default : List Int), []) h0 (by omega)
 ·intro n i s hi hs hk
  subst hs
  rw [ze2 φ x a0 b0 hx n hi (zdg hx i (by omega))]
  exact hk _ rfl
 ·intro n s hs
  subst hs
  rw [zq, if_neg (by simp)]
  exact ze6 φ x a0 b0 hx hφ (z9w x)
end zo
section network_Route
variable (φ : Nat) (K : List Edge -> Int -> Int -> Int -> Int -> zh -> zh -> List (List Int) -> Ln -> Option ((List Int) × Int × Unit)) (x : zh) (a0 b0 : Int)
end network_Route
section network_Route
variable (φ : Nat) (x : zh) (a0 b0 : Int)
end network_Route
section network_Shares
end network_Shares
section network_Shares
end network_Shares
end Px
end
section
namespace Px
open Go
set_option linter.unusedVariables false
set_option linter.unusedSimpArgs false
section zo
variable (φ : Nat) (x : zh) (a0 b0 : Int)
theorem z7p (hx : zjo x) (hφ : 800000 < φ) (hs : 0 <= a0) (hs' : a0 < (x.places.length : Int)) : ∃ t, DF x.places.length (z3w x) (wtN x) a0 t /\
  z01 φ φ a0 (((List.replicate ((x.places.length : Int) : Int).toNat (default : Int)).length : Int)) 0 b0 x (List.replicate ((x.places.length : Int) : Int).toNat (default : Int)) ((List.replicate (((List.replicate ((x.places.length : Int) : Int).toNat (default : Int)).length : Int) : Int).toNat (default : Bool)))  (z3w x) (z9w x) = (ck ((0 : Int) <= b0 /\ b0 < (t.length : Int)) (if (decide (((gt t b0) : Int) < 0)) = true then (some (0, 80, ())) else (some ((gt t b0), 0, ())))) := by
 have hG := grN hx
 have hP := hx.places
 have hrep : (List.replicate ((x.places.length : Int) : Int).toNat (default : Int)).length = x.places.length := by simp
 rw [hrep]
 have e1 : ((x.places.length : Int)).toNat = x.places.length := by simp
 rw [e1]
 -- the search
 have search : ∀ t : List Int, t.length = x.places.length -> (∀ i : Int, 0 <= i -> i < (x.places.length : Int) -> gt t i = if i = a0 then 0 else -1) ->
   ∃ t', DF x.places.length (z3w x) (wtN x) a0 t' /\ zu φ φ b0 x t (List.replicate x.places.length (default : Bool))  (z3w x) (z9w x) = (ck ((0 : Int) <= b0 /\ b0 < (t'.length : Int)) (if (decide (((gt t' b0) : Int) < 0)) = true then (some (0, 80, ())) else (some ((gt t' b0), 0, ())))) := by
  intro t ht hall
  refine y0x hG hs hs' (fun n t d => zu φ n b0 x t d  (z3w x) (z9w x)) (fun t' => (ck ((0 : Int) <= b0 /\ b0 < (t'.length : Int)) (if (decide (((gt t' b0) : Int) < 0)) = true then (some (0, 80, ())) else (some ((gt t' b0), 0, ()))))) φ ?_ φ 0 t _ (y3c hs hs' t ht hall) (by omega)
  intro n k t d hk hD
  obtain ⟨p, hp1, hp2⟩ := ybj hP (fun m p i => z0r φ (zu φ n) m p (x.places.length : Int) i b0 x t d  (z3w x) (z9w x))
   (fun p => (if (decide ((p : Int) < 0)) = true then (ck ((0 : Int) <= b0 /\ b0 < (t.length : Int)) (if (decide (((gt t b0) : Int) < 0)) = true then (some (0, 80, ())) else (some ((gt t b0), 0, ())))) else (ck ((0 : Int) <= p /\ p < (d.length : Int)) (ck ((0 : Int) <= p /\ p < ((z3w x).length : Int)) (ck ((0 : Int) <= p /\ p < ((z3w x).length : Int)) (ck ((p : Int) = p) (z0s φ (zu φ n) φ p ((gt (z3w x) p).length : Int) 0 b0 x t (z02 d p true) (gt (z3w x) p)  (z3w x) p (z9w x))))))))
   t d hD.lt hD.ld (fun m p i => by rw [z0r]) φ (by omega)
  have hM : zu φ (n + 1) b0 x t d  (z3w x) (z9w x) = z0r φ (zu φ n) φ (-1) (x.places.length : Int) 0 b0 x t d  (z3w x) (z9w x) := by
   rw [zu, hD.lt]
  simp only [] at hp1
  simp only [hM]
  rw [hp1]
  rcases hp2 with ⟨rfl, hall⟩ | ⟨p0, p1, p2, p3, p4⟩
  ·left
   refine ⟨t, yc9 hG hD hall, ?_⟩
   rw [if_pos (by decide)]
  ·right
   rw [if_neg (by simp; omega), z7 ⟨p0, by rw [hD.ld]; exact p1⟩, z7 ⟨p0, by rw [hG.len]; exact p1⟩, z7 ⟨p0, by rw [hG.len]; exact p1⟩, z7 trivial]
   obtain ⟨t', h1, h2⟩ := ybo hG p0 p1 hk hD p2 (fun m i t => z0s φ (zu φ n) m p ((gt (z3w x) p).length : Int) i b0 x t (z02 d p true) (gt (z3w x) p)  (z3w x) p (z9w x))
    (fun t => zu φ n b0 x t (z02 d p true)  (z02 (z3w x) p (gt (z3w x) p)) (z9w x)) (gt (z3w x) p) rfl x.edges.length (fun q => (lget (z9w x) p q).getD default) (fun i => (gt x.edges i).minutes)
    (fun q hq => by
     obtain ⟨i, hi, i0, i1, _⟩ := zmn hx p0 p1 hq
     rw [hi]
     exact ⟨i0, i1, by unfold wtN; rw [hi]⟩) (fun m i t => by rw [z0s]) φ (by have := hG.size p p0 p1; omega)
   refine ⟨t', p, p0, p1, y2j hG p0 p1 hD hs hs' p2 p3 p4 h2, ?_⟩
   rw [zvw _ p0 (by rw [hG.len]; exact p1)] at h1
   exact h1
 -- all times are unknown at first
 refine z0e (fun n i t => z01 φ n a0 (x.places.length : Int) i b0 x t (List.replicate x.places.length (default : Bool))  (z3w x) (z9w x)) x.places.length (fun i t => t.length = x.places.length /\ ∀ j : Int, 0 <= j -> j < (i : Int) -> gt t j = -1) (fun o => ∃ t, DF x.places.length (z3w x) (wtN x) a0 t /\ o = (ck ((0 : Int) <= b0 /\ b0 < (t.length : Int)) (if (decide (((gt t b0) : Int) < 0)) = true then (some (0, 80, ())) else (some ((gt t b0), 0, ()))))) ?_ ?_ φ (List.replicate x.places.length (default : Int)) ⟨by simp, fun j h0 h1 => by omega⟩ (by omega)
 ·intro n i t hi ⟨h1, h2⟩ hs
  rw [z01, if_pos (by simp; omega), z7 ⟨by omega, by omega⟩, W_id (by omega) (by omega)]
  refine hs _ ⟨by rw [z0p]; exact h1, fun j j0 j1 => ?_⟩
  rw [z0f _ _ _ _ (by omega) (by omega) j0]
  by_cases e : j = (i : Int)
  ·rw [if_pos e]
  ·rw [if_neg e]; exact h2 j j0 (by omega)
 ·intro n t ⟨h1, h2⟩
  rw [z01, if_neg (by simp), z7 ⟨hs, by omega⟩]
  obtain ⟨t', h3, h4⟩ := search (z02 t a0 0) (by rw [z0p]; exact h1) (fun i i0 i1 => by
   rw [z0f _ _ _ _ hs (by omega) i0]
   split
   ·rfl
   ·exact h2 i i0 i1)
  exact ⟨t', h3, h4⟩
end zo
section network_Route
variable (φ : Nat) (x : zh) (a0 b0 : Int)
end network_Route
theorem zfh {n b : Nat} (h : n <= 100000000) (hb : b <= 1000) : fits n b := by
 unfold fits
 have : n * b <= 100000000 * 1000 := Nat.mul_le_mul h hb
 omega
theorem zlv (φ : Nat) (hφ : 800000 < φ) (x : zh) (a b : Int) : ∃ t e, zo φ x a b = some (t, e, ()) /\ 0 <= t /\ t <= 51200000 := by
 unfold zo
 rw [z87 _ (by omega), Option.bind_some]
 by_cases hn : z8i x = 0
 case neg =>
  rw [if_pos (by simpa using hn), if_pos (by simpa using hn)]
  exact ⟨0, _, rfl, by omega, by omega⟩
 have hx := y0q hn
 have hP := hx.places
 rw [if_neg (by simp [hn])]
 obtain ⟨m, rfl⟩ : ∃ m, φ = m + 3 := ⟨φ - 3, by omega⟩
 have g0 : gt [a, b] 0 = a := rfl
 have g1 : gt [a, b] 1 = b := rfl
 have L : ((([a, b] : List Int).length : Nat) : Int) = 2 := rfl
 have step : ∀ n i, z0a (m + 3) (n + 1) 2 i a b x [a, b] x [] = (if (decide ((i : Int) < 2)) = true then (ck ((0 : Int) <= i /\ i < (2 : Int)) (if ((decide (((gt [a, b] i) : Int) < 0)) || (decide (((x.places.length : Int) : Int) <= (gt [a, b] i)))) = true then (some (0, 1, ())) else (z0a (m + 3) n 2 (W (i + 1)) a b x [a, b] x []))) else (ck (z0l (x.places.length : Int) 24) (zq (m + 3) (m + 3) x.edges (x.edges.length : Int) 0 a b x x (List.replicate ((x.places.length : Int) : Int).toNat (default : (List Int))) ([] : List ((Nat -> Int) × Int))))) := fun n i => by rw [z0a]; rfl
 rw [L, show m + 3 = (m + 2) + 1 from rfl, step, if_pos (by decide), z7 (by decide), g0]
 by_cases ha : 0 <= a /\ a < (x.places.length : Int)
 case neg =>
  rw [if_pos (by simp; omega)]
  exact ⟨0, 1, rfl, by omega, by omega⟩
 rw [if_neg (by simp; omega), show W (0 + 1) = 1 by rfl, show m + 2 = (m + 1) + 1 from rfl, step, if_pos (by decide), z7 (by decide), g1]
 by_cases hb : 0 <= b /\ b < (x.places.length : Int)
 case neg =>
  rw [if_pos (by simp; omega)]
  exact ⟨0, 1, rfl, by omega, by omega⟩
 rw [if_neg (by simp; omega), show W (1 + 1) = 2 by rfl, step, if_neg (by decide), z7 (mk_t _ _ (by omega) (by omega) (by omega)), z7t (m + 3) x a b hx (by omega), z7 (mk_t _ _ (by omega) (by omega) (by omega)), z7 (mk_t _ _ (by omega) (by simp; omega) (by omega))]
 obtain ⟨t, h1, h2⟩ := z7p (m + 3) x a b hx (by omega) ha.1 ha.2
 rw [h2, z7 ⟨hb.1, by rw [h1.lt]; exact hb.2⟩]
 rcases h1.bd b hb.1 hb.2 with h3 | ⟨h3, h4⟩
 ·rw [if_pos (by simp; omega)]
  exact ⟨0, 80, rfl, by omega, by omega⟩
 ·rw [if_neg (by simp; omega)]
  exact ⟨_, 0, rfl, h3, h4⟩
end Px
end
section
namespace Px
set_option linter.unusedVariables false
namespace BF
section
variable {β : Type} (si sj : β -> Nat) (sw : β -> Int)
abbrev X := Nat -> Option Int
def ltO (a : Int) : Option Int -> Bool
 | none => true
 | some b => decide (a < b)
def imp (x : X) (b : β) : Bool := match x (si b) with
 | none => false
 | some a => ltO (a + sw b) (x (sj b))
def rlx (x : X) (b : β) : X := match x (si b) with
 | none => x
 | some a => if ltO (a + sw b) (x (sj b)) = true then fun v => if v = sj b then some (a + sw b) else x v else x
def rnd (L : List β) (x : X) : X := L.foldl (rlx si sj sw) x
def rnds (L : List β) (x : X) : Nat -> X
 | 0 => x
 | n + 1 => rnd si sj sw L (rnds L x n)
inductive Wk (x0 : X) (L : List β) : Nat -> Nat -> Int -> Prop where
 | nil {v : Nat} {c : Int} : x0 v = some c -> Wk x0 L 0 v c
 | step {m : Nat} {c : Int} {b : β} : Wk x0 L m (si b) c -> b ∈ L -> Wk x0 L (m + 1) (sj b) (c + sw b)
def le (o : Option Int) (c : Int) : Prop := ∃ a, o = some a /\ a <= c
variable {si sj sw}
theorem rlx_not {x : X} {b : β} (h : imp si sj sw x b = false) : rlx si sj sw x b = x := by
 unfold imp at h; unfold rlx
 cases hx : x (si b) with
 | none => rfl
 | some a => rw [hx] at h; simp only at h ⊢; rw [if_neg (by rw [h]; simp)]
theorem rlx_imp {x : X} {b : β} (h : imp si sj sw x b = true) : ∃ a, x (si b) = some a /\ ltO (a + sw b) (x (sj b)) = true /\ rlx si sj sw x b = fun v => if v = sj b then some (a + sw b) else x v := by
 unfold imp at h; unfold rlx
 cases hx : x (si b) with
 | none => rw [hx] at h; cases h
 | some a => rw [hx] at h; simp only at h ⊢; exact ⟨a, rfl, h, by rw [if_pos h]⟩
theorem rlx_mono {x : X} {b : β} {v : Nat} {c : Int} (h : le (x v) c) : le (rlx si sj sw x b v) c := by
 cases hi : imp si sj sw x b with
 | false => rw [rlx_not hi]; exact h
 | true =>
  obtain ⟨a, ha, hl, e⟩ := rlx_imp hi
  rw [e]
  simp only
  split
  ·rename_i hv; subst hv
   obtain ⟨d, hd, hc⟩ := h
   rw [hd] at hl
   simp only [ltO, decide_eq_true_eq] at hl
   exact ⟨_, rfl, by omega⟩
  ·exact h
theorem rlx_new {x : X} {b : β} {c : Int} (h : le (x (si b)) c) : le (rlx si sj sw x b (sj b)) (c + sw b) := by
 obtain ⟨a, ha, hc⟩ := h
 cases hi : imp si sj sw x b with
 | false =>
  rw [rlx_not hi]
  unfold imp at hi
  rw [ha] at hi
  simp only at hi
  cases hx : x (sj b) with
  | none => rw [hx] at hi; cases hi
  | some d => rw [hx] at hi; simp only [ltO, decide_eq_false_iff_not] at hi; exact ⟨d, rfl, by omega⟩
 | true =>
  obtain ⟨a', ha', hl, e⟩ := rlx_imp hi
  rw [ha] at ha'; cases ha'
  rw [e]
  exact ⟨_, if_pos rfl, by omega⟩
theorem rnd_mono {v : Nat} {c : Int} : ∀ (L : List β) (x : X), le (x v) c -> le (rnd si sj sw L x v) c
 | [], x, h => h
 | b :: L, x, h => rnd_mono L _ (rlx_mono h)
theorem rnd_new {c : Int} : ∀ (L : List β) (x : X) (b : β), b ∈ L -> le (x (si b)) c -> le (rnd si sj sw L x (sj b)) (c + sw b)
 | b' :: L, x, b, hb, h => by
  rcases List.mem_cons.1 hb with rfl | hb
  ·exact rnd_mono L _ (rlx_new h)
  ·exact rnd_new L _ b hb (rlx_mono h)
theorem rnds_mono (L : List β) {x : X} {v : Nat} {c : Int} (h : le (x v) c) : ∀ n, le (rnds si sj sw L x n v) c
 | 0 => h
 | n + 1 => rnd_mono L _ (rnds_mono L h n)
theorem rnds_low {L : List β} {x0 : X} : ∀ (k m v : Nat) (c : Int), Wk si sj sw x0 L m v c -> m <= k -> le (rnds si sj sw L x0 k v) c
 | k, 0, v, c, h, hm => by cases h with | nil h => exact rnds_mono L ⟨c, h, Int.le_refl _⟩ k
 | k + 1, m + 1, v, c, h, hm => by
  cases h with
  | step h hb => exact rnd_new L _ _ hb (rnds_low k m _ _ h (by omega))
def Inv (si sj : β -> Nat) (sw : β -> Int) (x0 : X) (L : List β) (x : X) : Prop := ∀ v a, x v = some a -> ∃ m, Wk si sj sw x0 L m v a
theorem Inv.rlx {x0 x : X} {L : List β} {b : β} (h : Inv si sj sw x0 L x) (hb : b ∈ L) : Inv si sj sw x0 L (rlx si sj sw x b) := by
 cases hi : imp si sj sw x b with
 | false => rw [rlx_not hi]; exact h
 | true =>
  obtain ⟨a, ha, hl, e⟩ := rlx_imp hi
  intro v d hv
  rw [e] at hv
  simp only at hv
  split at hv
  ·rename_i hj; subst hj
   cases hv
   obtain ⟨m, hm⟩ := h _ _ ha
   exact ⟨_, .step hm hb⟩
  ·exact h v d hv
theorem Inv.rnd {x0 : X} {L : List β} : ∀ (M : List β) (x : X), (∀ b ∈ M, b ∈ L) -> Inv si sj sw x0 L x -> Inv si sj sw x0 L (rnd si sj sw M x)
 | [], x, _, h => h
 | b :: M, x, hM, h => Inv.rnd M _ (fun b hb => hM b (List.mem_cons_of_mem _ hb)) (h.rlx (hM b (List.mem_cons_self ..)))
theorem Inv.rnds {x0 : X} {L : List β} : ∀ n, Inv si sj sw x0 L (rnds si sj sw L x0 n)
 | 0 => fun v a h => ⟨0, .nil h⟩
 | n + 1 => Inv.rnd L _ (fun _ h => h) (Inv.rnds n)
theorem least {Q : Nat -> Prop} : ∀ n, Q n -> ∃ m, Q m /\ ∀ k, Q k -> m <= k := by
 intro n
 induction n using Nat.strongRecOn with
 | _ n ih =>
  intro h
  by_cases hk : ∃ k, k < n /\ Q k
  ·obtain ⟨k, hk, hq⟩ := hk; exact ih k hk hq
  ·exact ⟨n, h, fun k hq => Nat.le_of_not_lt fun hl => hk ⟨k, hl, hq⟩⟩
structure Feas (si sj : β -> Nat) (sw : β -> Int) (x0 : X) (L : List β) (n : Nat) : Prop where
 ex : ∃ (p : Nat -> Int) (C : Int), (∀ b ∈ L, p (sj b) <= p (si b) + sw b) /\ ∀ v c, x0 v = some c -> p v - c <= C
 j : ∀ b ∈ L, sj b < n
 z : ∀ v c, x0 v = some c -> v < n
theorem Wk.lt {x0 : X} {L : List β} {n : Nat} (F : Feas si sj sw x0 L n) {m v : Nat} {c : Int} (h : Wk si sj sw x0 L m v c) : v < n := by
 cases h with
 | nil h => exact F.z _ _ h
 | step h hb => exact F.j _ hb
theorem Wk.low {x0 : X} {L : List β} {p : Nat -> Int} {C : Int} (h1 : ∀ b ∈ L, p (sj b) <= p (si b) + sw b) (h2 : ∀ v c, x0 v = some c -> p v - c <= C) : ∀ {m v : Nat} {c : Int}, Wk si sj sw x0 L m v c -> p v - c <= C
 | 0, _, _, .nil h => h2 _ _ h
 | _ + 1, _, _, .step h hb => by have := Wk.low h1 h2 h; have := h1 _ hb; omega
structure Mn (si sj : β -> Nat) (sw : β -> Int) (x0 : X) (L : List β) (v m : Nat) (c : Int) : Prop where
 w : Wk si sj sw x0 L m v c
 lo : ∀ m' c', Wk si sj sw x0 L m' v c' -> c <= c'
 sh : ∀ m', Wk si sj sw x0 L m' v c -> m <= m'
theorem Mn.ex {x0 : X} {L : List β} {n : Nat} (F : Feas si sj sw x0 L n) {m v : Nat} {c : Int} (h : Wk si sj sw x0 L m v c) : ∃ m c, Mn si sj sw x0 L v m c := by
 obtain ⟨p, C, h1, h2⟩ := F.ex
 obtain ⟨k, ⟨m1, c1, hk, hw⟩, hl⟩ := least (Q := fun k => ∃ m c, (C - (p v - c)).toNat = k /\ Wk si sj sw x0 L m v c) _ ⟨m, c, rfl, h⟩
 obtain ⟨m2, hm, hm2⟩ := least (Q := fun m => Wk si sj sw x0 L m v c1) m1 hw
 refine ⟨m2, c1, hm, fun m' c' h' => ?_, hm2⟩
 have := hl _ ⟨m', c', rfl, h'⟩
 have := Wk.low h1 h2 hw
 have := Wk.low h1 h2 h'
 omega
theorem Mn.pred {x0 : X} {L : List β} {v m : Nat} {c : Int} (h : Mn si sj sw x0 L v (m + 1) c) : ∃ u d, Mn si sj sw x0 L u m d := by
 obtain ⟨w, hc, hm⟩ := h
 cases w with
 | @step _ d b hw hb =>
  refine ⟨si b, d, hw, fun m' c' h' => ?_, fun m' h' => ?_⟩
  ·have := hc _ _ (.step h' hb); omega
  ·have := hm _ (.step h' hb); omega
theorem Mn.all {x0 : X} {L : List β} : ∀ {m v : Nat} {c : Int}, Mn si sj sw x0 L v m c -> ∀ k, k <= m -> ∃ u d, Mn si sj sw x0 L u k d
 | 0, v, c, h, k, hk => by
  have : k = 0 := by omega
  subst this
  exact ⟨v, c, h⟩
 | m + 1, v, c, h, k, hk => by
  by_cases e : k = m + 1
  ·subst e; exact ⟨v, c, h⟩
  ·obtain ⟨u, d, h'⟩ := h.pred; exact Mn.all h' k (by omega)
theorem Mn.uniq {x0 : X} {L : List β} {v m m' : Nat} {c c' : Int} (h : Mn si sj sw x0 L v m c) (h' : Mn si sj sw x0 L v m' c') : c = c' /\ m = m' := by
 have e : c = c' := Int.le_antisymm (h.lo _ _ h'.w) (h'.lo _ _ h.w)
 subst e
 exact ⟨rfl, Nat.le_antisymm (h.sh _ h'.w) (h'.sh _ h.w)⟩
theorem holes : ∀ (n M : Nat) (R : Nat -> Nat -> Prop), (∀ k k' u, R k u -> R k' u -> k = k') -> (∀ k, k < M -> ∃ u, u < n /\ R k u) -> M <= n
 | 0, M, R, _, h => by
  cases M with
  | zero => exact Nat.le_refl _
  | succ M => obtain ⟨u, hu, _⟩ := h 0 (by omega); omega
 | n + 1, M, R, hR, h => by
  by_cases hk : ∃ k, k < M /\ R k n
  ·obtain ⟨k0, hk0, hr⟩ := hk
   have := holes n (M - 1) (fun k u => R (if k < k0 then k else k + 1) u) (fun k k' u h1 h2 => by
    have := hR _ _ _ h1 h2
    split at this <;> split at this <;> omega) fun k hk => by
    obtain ⟨u, hu, hru⟩ := h (if k < k0 then k else k + 1) (by split <;> omega)
    refine ⟨u, ?_, hru⟩
    by_cases e : u = n
    ·subst e
     have := hR _ _ _ hru hr
     split at this <;> omega
    ·omega
   omega
  ·have := holes n M R hR fun k hk' => by
    obtain ⟨u, hu, hru⟩ := h k hk'
    exact ⟨u, by
     by_cases e : u = n
     ·subst e; exact (hk ⟨k, hk', hru⟩).elim
     ·omega, hru⟩
   omega
theorem Mn.short {x0 : X} {L : List β} {n : Nat} (F : Feas si sj sw x0 L n) {m v : Nat} {c : Int} (h : Mn si sj sw x0 L v m c) : m < n :=
 holes n (m + 1) (fun k u => ∃ d, Mn si sj sw x0 L u k d) (fun k k' u ⟨_, a⟩ ⟨_, b⟩ => (a.uniq b).2) fun k hk => by
  obtain ⟨u, d, hu⟩ := h.all k (by omega)
  exact ⟨u, hu.w.lt F, d, hu⟩
theorem done {x0 : X} {L : List β} {n : Nat} (F : Feas si sj sw x0 L n) {k : Nat} (hk : n <= k + 1) : ∀ b ∈ L, imp si sj sw (rnds si sj sw L x0 k) b = false := by
 intro b hb
 unfold imp
 cases hx : rnds si sj sw L x0 k (si b) with
 | none => rfl
 | some a =>
  obtain ⟨m, hm⟩ := Inv.rnds k _ _ hx
  obtain ⟨m', d, hd⟩ := Mn.ex F (.step hm hb)
  obtain ⟨e, he, hed⟩ := rnds_low k m' _ _ hd.w (by have := hd.short F; omega)
  have := hd.lo _ _ (.step hm hb)
  rw [he]
  simp only [ltO, decide_eq_false_iff_not]
  omega
def Fix (si sj : β -> Nat) (sw : β -> Int) (L : List β) (x : X) : Prop := ∀ b ∈ L, imp si sj sw x b = false
theorem Fix.le {L : List β} {x : X} (h : Fix si sj sw L x) {b : β} (hb : b ∈ L) {a : Int} (ha : x (si b) = some a) : ∃ d, x (sj b) = some d /\ d <= a + sw b := by
 have := h b hb
 unfold imp at this
 rw [ha] at this
 simp only at this
 cases hx : x (sj b) with
 | none => rw [hx] at this; cases this
 | some d => rw [hx] at this; simp only [ltO, decide_eq_false_iff_not] at this; exact ⟨d, rfl, by omega⟩
end
end BF
end Px
end
section
namespace Px
open Go
set_option linter.unusedVariables false
set_option linter.unusedSimpArgs false
def y1l (e : Edge) (a b : Int) : Prop := (e.a = a /\ e.b = b) \/ (e.a = b /\ e.b = a)
instance (e : Edge) (a b : Int) : Decidable (y1l e a b) := inferInstanceAs (Decidable (_ \/ _))
def ryl (t : List Int) (a b m : Int) : List Int := if 0 <= gt t a /\ (gt t b < 0 \/ gt t a + m < gt t b) then z02 t b (gt t a + m) else t
def rst (t : List Int) (e : Edge) : List Int := ryl (ryl t e.a e.b e.minutes) e.b e.a e.minutes
end Px
end
section
namespace Px
open Go
set_option linter.unusedVariables false
set_option linter.unusedSimpArgs false
def chF (t : List Int) (e : Edge) : Bool := (gt (rst t e) e.a != gt t e.a) || (gt (rst t e) e.b != gt t e.b)
def rnT (es : List Edge) (t : List Int) : Nat -> List Int
 | 0 => t
 | m + 1 => rst (rnT es t m) (gt es (m : Int))
def fl (es : List Edge) (t : List Int) : Nat -> Bool
 | 0 => false
 | m + 1 => fl es t m || chF (rnT es t m) (gt es (m : Int))
end Px
end
section
namespace Px
open Go
set_option linter.unusedVariables false
set_option linter.unusedSimpArgs false
theorem zlk (φ : Nat) (hφ : 800000 < φ) {x : zh} (hn : z8i x = 0) {a b : Int} (ha : 0 <= a /\ a < (x.places.length : Int)) (hb : 0 <= b /\ b < (x.places.length : Int)) :
  ∃ t, DF x.places.length (z3w x) (wtN x) a t /\ zo φ x a b = some (if gt t b < 0 then (0, 80, ()) else (gt t b, 0, ())) := by
 unfold zo
 rw [z87 _ (by omega), Option.bind_some]
 have hx := y0q hn
 have hP := hx.places
 rw [if_neg (by simp [hn])]
 obtain ⟨m, rfl⟩ : ∃ m, φ = m + 3 := ⟨φ - 3, by omega⟩
 have g0 : gt [a, b] 0 = a := rfl
 have g1 : gt [a, b] 1 = b := rfl
 have L : ((([a, b] : List Int).length : Nat) : Int) = 2 := rfl
 rw [L, show m + 3 = (m + 2) + 1 from rfl, z0a, if_pos (by decide), z7 (by rw [L]; decide), g0]
 rw [if_neg (by simp; omega), show W (0 + 1) = 1 by rfl, show m + 2 = (m + 1) + 1 from rfl, z0a, if_pos (by decide), z7 (by rw [L]; decide), g1]
 rw [if_neg (by simp; omega), show W (1 + 1) = 2 by rfl, z0a, if_neg (by decide), z7 (mk_t _ _ (by omega) (by omega) (by omega))]
 have hbuild := z7t (m + 3) x a b hx (by omega)
 obtain ⟨t, h1, h2⟩ := z7p (m + 3) x a b hx (by omega) ha.1 ha.2
 refine ⟨t, h1, ?_⟩
 refine hbuild.trans ?_
 rw [z7 (mk_t _ _ (by omega) (by omega) (by omega)), z7 (mk_t _ _ (by omega) (by simp; omega) (by omega)), h2, z7 ⟨hb.1, by rw [h1.lt]; exact hb.2⟩]
 by_cases h3 : gt t b < 0
 ·rw [if_pos (by simpa using h3), if_pos h3]
 ·rw [if_neg (by simpa using h3), if_neg h3]
  try rfl
end Px
end
section
namespace Px
open Go
set_option linter.unusedVariables false
set_option linter.unusedSimpArgs false
theorem y5i {P : Nat} {near : List (List Int)} {wt : Int -> Int -> Int} (hG : Gr P near wt) {s b : Int} {t u : List Int} (hT : DF P near wt s t) (hU : DF P near wt b u) (hb : 0 <= gt t b) :
  ∀ (n : Nat) (c : Int), 0 <= c -> c < (P : Int) -> 0 <= gt u c -> (gt u c).toNat = n -> 0 <= gt t c /\ gt t c <= gt t b + gt u c := by
 intro n
 induction n using Nat.strongRecOn with
 | _ n ih =>
  intro c c0 c1 hc hn
  by_cases e : c = b
  ·subst e; rw [hU.src]; omega
  ·obtain ⟨q, q0, q1, q2, q3, q4⟩ := hU.pre c c0 c1 e hc
   obtain ⟨s1, s2⟩ := hG.sym c q c0 c1 q2
   have w := (hG.wt q c q0 q1 s1).1
   obtain ⟨i1, i2⟩ := ih (gt u q).toNat (by omega) q q0 q1 q3 rfl
   obtain ⟨n1, n2⟩ := hT.nbr q c q0 q1 i1 s1
   omega
theorem yax {P : Nat} {near : List (List Int)} {wt : Int -> Int -> Int} (hG : Gr P near wt) {s : Int} {t : List Int} (hT : DF P near wt s t) {c : Int} (c0 : 0 <= c) (c1 : c < (P : Int)) (hne : c ≠ s) (hc : 0 <= gt t c) : 1 <= gt t c := by
 obtain ⟨q, q0, q1, q2, q3, q4⟩ := hT.pre c c0 c1 hne hc
 obtain ⟨s1, s2⟩ := hG.sym c q c0 c1 q2
 have w := (hG.wt q c q0 q1 s1).1
 omega
theorem y7m {P : Nat} {near : List (List Int)} {wt : Int -> Int -> Int} (hG : Gr P near wt) {s : Int} {t u : List Int} (hT : DF P near wt s t) (hU : DF P near wt s u) {c : Int} (c0 : 0 <= c) (c1 : c < (P : Int)) : gt t c = gt u c := by
 have t0 := hT.src
 have u0 := hU.src
 have key : ∀ {t u : List Int}, DF P near wt s t -> DF P near wt s u -> 0 <= gt u c -> 0 <= gt t c /\ gt t c <= gt u c := fun {t u} hT hU h => by
  have := y5i hG hT hU (by rw [hT.src]; omega) _ c c0 c1 h rfl
  rw [hT.src] at this
  omega
 rcases hT.bd c c0 c1 with h1 | h1
 ·rcases hU.bd c c0 c1 with h2 | h2
  ·omega
  ·have := key hT hU h2.1; omega
 ·have a := key hU hT h1.1
  have b := key hT hU a.1
  omega
def Dst (φ : Nat) (x : zh) (a b : Int) : Option Int := match zo φ x a b with
 | some (t, e, _) => if e = 0 then some t else none
 | none => none
def okPl (x : zh) (a : Int) : Prop := 0 <= a /\ a < (x.places.length : Int)
section
variable {φ : Nat} (hφ : 800000 < φ) {x : zh} (hn : z8i x = 0)
include hφ hn
theorem zma {a b : Int} (ha : okPl x a) (hb : okPl x b) : ∃ t, DF x.places.length (z3w x) (wtN x) a t /\ Dst φ x a b = if gt t b < 0 then none else some (gt t b) := by
 obtain ⟨t, h1, h2⟩ := zlk φ hφ hn ha hb
 refine ⟨t, h1, ?_⟩
 unfold Dst
 rw [h2]
 by_cases q : gt t b < 0
 ·rw [if_pos q, if_pos q]; rfl
 ·rw [if_neg q, if_neg q]; rfl
theorem znz {a : Int} (ha : okPl x a) : Dst φ x a a = some 0 := by
 obtain ⟨t, h1, h2⟩ := zma hφ hn ha ha
 rw [h2, h1.src, if_neg (by omega)]
theorem zov {a b t : Int} (ha : okPl x a) (hb : okPl x b) (h : Dst φ x a b = some t) : 0 <= t /\ t <= 51200000 := by
 obtain ⟨u, h1, h2⟩ := zma hφ hn ha hb
 rw [h2] at h
 split at h
 ·cases h
 ·cases h
  rcases h1.bd b hb.1 hb.2 with q | q <;> omega
theorem zwv {a b t : Int} (ha : okPl x a) (hb : okPl x b) (hne : a ≠ b) (h : Dst φ x a b = some t) : 1 <= t := by
 obtain ⟨u, h1, h2⟩ := zma hφ hn ha hb
 rw [h2] at h
 split at h
 ·cases h
 ·cases h
  exact yax (grN (y0q hn)) h1 hb.1 hb.2 (fun e => hne e.symm) (by omega)
theorem zjn {a b c p q : Int} (ha : okPl x a) (hb : okPl x b) (hc : okPl x c) (h1 : Dst φ x a b = some p) (h2 : Dst φ x b c = some q) : ∃ r, Dst φ x a c = some r /\ r <= p + q := by
 obtain ⟨t, d1, e1⟩ := zma hφ hn ha hb
 obtain ⟨t', d1', e3⟩ := zma hφ hn ha hc
 obtain ⟨u, d2, e2⟩ := zma hφ hn hb hc
 have hG := grN (y0q hn)
 rw [e1] at h1
 rw [e2] at h2
 split at h1
 ·cases h1
 split at h2
 ·cases h2
 cases h1; cases h2
 have := y5i hG d1 d2 (by omega) _ c hc.1 hc.2 (by omega) rfl
 have e := y7m hG d1' d1 hc.1 hc.2
 rw [e3, e, if_neg (by omega)]
 exact ⟨_, rfl, this.2⟩
theorem zjz {a b : Int} (ha : okPl x a) (hb : okPl x b) : zo φ x a b = some (match Dst φ x a b with | some t => (t, 0, ()) | none => (0, 80, ())) := by
 obtain ⟨t, h1, h2⟩ := zlk φ hφ hn ha hb
 unfold Dst
 rw [h2]
 by_cases q : gt t b < 0
 ·rw [if_pos q]; rfl
 ·rw [if_neg q]; rfl
end
end Px
end
section
namespace Px
open Go
set_option linter.unusedVariables false
set_option linter.unusedSimpArgs false
theorem zkq (φ : Nat) : ∀ (n m N : Nat), m <= N -> N < n + m -> 1 <= m \/ N = 0 -> N <= 5000 -> z3p φ n (m : Int) (List.replicate m (-1) ++ List.replicate (N - m) (default : Int)) = some (List.replicate N (-1), ())
 | 0, m, N, h1, h2, _, _ => by omega
 | n + 1, m, N, h1, h2, h3, h4 => by
  have hlen : (List.replicate m (-1 : Int) ++ List.replicate (N - m) (default : Int)).length = N := by simp; omega
  rw [z3p, hlen]
  by_cases h : m < N
  ·rw [if_pos (by simp; omega), z7 ⟨by omega, by omega, by omega⟩, z7 ⟨by omega, by omega, by omega⟩]
   have e1 : z5q (List.replicate m (-1 : Int) ++ List.replicate (N - m) (default : Int)) ((0 : Int).toNat) ((m : Int).toNat) = List.replicate m (-1) := by
    simp [z5q, List.take_append]
   rw [e1, List.length_replicate]
   have e2 : ((N : Int).toNat - (m : Int).toNat) = N - m := by omega
   have e3 : W ((m : Int) + ((min m (N - m) : Nat) : Int)) = ((m + min m (N - m) : Nat) : Int) := by rw [W_id (by omega) (by omega)]; omega
   rw [e2, e3]
   have e4 : cpy (List.replicate m (-1 : Int) ++ List.replicate (N - m) (default : Int)) ((m : Int).toNat) (N - m) (List.replicate m (-1)) = List.replicate (m + min m (N - m)) (-1) ++ List.replicate (N - (m + min m (N - m))) (default : Int) := by
    unfold cpy
    rw [Int.toNat_natCast, List.length_replicate, List.take_append_of_le_length (by simp), List.take_of_length_le (by simp), List.take_replicate, List.drop_append, List.drop_of_length_le (by simp), List.drop_replicate, List.length_replicate, List.nil_append]
    rw [show min (min m (N - m)) m = min m (N - m) by omega, List.replicate_append_replicate]
    congr 2
    omega
   rw [e4]
   exact zkq φ n (m + min m (N - m)) N (by omega) (by omega) (by omega) h4
  ·rw [if_neg (by simp; omega)]
   have : m = N := by omega
   subst this
   simp
theorem zzf (φ : Nat) (n : Nat) (hn : n <= 5000) (hφ : 5001 < φ) : z3m φ [-1] (n : Int) = some (List.replicate n (-1), ()) := by
 unfold z3m zn1
 rw [if_neg (by simp), show (([-1] : List Int).length : Int) = 1 from rfl, U_id (x := 1) (by omega) (by omega), U_id (x := (n : Int)) (by omega) (by omega), ztn φ 1 n (by omega) (by omega) (by omega) (by omega)]
 simp only [Option.bind_some, Int.one_mul]
 have e1 : (n : Int) / 18446744073709551616 = 0 := by omega
 have e2 : (n : Int) % 18446744073709551616 = n := by omega
 rw [e1, e2, if_neg (by simp; omega), W_id (by omega) (by omega), z7 (mk_t _ _ (by omega) (by omega) (by omega))]
 rw [Int.toNat_natCast]
 have e3 : cpy (List.replicate n (default : Int)) 0 ((List.replicate n (default : Int)).length - 0) [-1] = List.replicate (min 1 n) (-1) ++ List.replicate (n - min 1 n) (default : Int) := by
  cases n with
  | zero => rfl
  | succ n => simp [cpy, show min 1 (n + 1) = 1 by omega]
 rw [e3, List.length_replicate]
 exact zkq φ φ (min 1 n) n (by omega) (by omega) (by omega) hn
structure LS where
 x : List Int
 y : List Int
 z : Int
def stp (b : za) (i : Int) (s : LS) : LS := if gt s.x b.i + b.w < gt s.x b.j then ⟨z02 s.x b.j (gt s.x b.i + b.w), z02 s.y b.j i, i⟩ else s
def rndL (L : List za) : Nat -> LS -> LS
 | 0, s => s
 | m + 1, s => stp (gt L (m : Int)) m (rndL L m s)
def lowR (L : List za) : Nat -> LS -> LS
 | 0, s => s
 | k + 1, s => if (rndL L L.length ⟨s.x, s.y, -1⟩).z < 0 then rndL L L.length ⟨s.x, s.y, -1⟩ else lowR L k (rndL L L.length ⟨s.x, s.y, -1⟩)
def low (n : Nat) (L : List za) : LS := lowR L n ⟨List.replicate n 0, List.replicate n (-1), -1⟩
def okBd (n : Nat) (b : za) : Prop := 0 <= b.i /\ b.i < (n : Int) /\ 0 <= b.j /\ b.j < (n : Int) /\ -1099511627776 <= b.w /\ b.w <= 1099511627776
structure LB (n c : Nat) (s : LS) : Prop where
 lx : s.x.length = n
 ly : s.y.length = n
 bd : ∀ i : Int, 0 <= i -> i < (n : Int) -> -(1099511627776 * (c : Int)) <= gt s.x i /\ gt s.x i <= 0
theorem LB.up {n c d : Nat} {s : LS} (h : LB n c s) (hd : c <= d) : LB n d s := ⟨h.lx, h.ly, fun i h0 h1 => by have := h.bd i h0 h1; omega⟩
theorem LB.stp {n c : Nat} {s : LS} (h : LB n c s) {b : za} (hb : okBd n b) (i : Int) : LB n (c + 1) (stp b i s) := by
 unfold Px.stp
 obtain ⟨a1, a2, a3, a4, a5, a6⟩ := hb
 have hx := h.lx
 have hy := h.ly
 split
 ·rename_i hlt
  refine ⟨by rw [z0p]; exact hx, by rw [z0p]; exact hy, fun k h0 h1 => ?_⟩
  have q1 := h.bd b.i a1 a2
  have q2 := h.bd k h0 h1
  have q3 := h.bd b.j a3 a4
  rw [z0f _ _ _ _ a3 (by rw [hx]; exact a4) h0]
  split <;> omega
 ·exact h.up (by omega)
theorem LB.rnd {n c : Nat} {s : LS} (h : LB n c s) {L : List za} (hL : ∀ b ∈ L, okBd n b) : ∀ m, m <= L.length -> LB n (c + m) (rndL L m s)
 | 0, _ => h
 | m + 1, hm => (LB.rnd h hL m (by omega)).stp (hL _ (z0g (by omega) (by omega))) m
theorem y4e (φ : Nat) (k : List za -> Int -> Int -> Int -> List Int -> List Int -> Option (List Int × List Int × Int × Unit)) (L : List za) (n : Nat) (r : Int) (c : Nat) (s : LS) (hs : LB n c s) (hL : ∀ b ∈ L, okBd n b) (hl : L.length <= 5000) (hc : c + L.length <= 2100000) (hφ : 5001 < φ) :
  z1x φ k φ L s.z n r L (L.length : Int) 0 s.x s.y = if (rndL L L.length s).z < 0 then some ((rndL L L.length s).x, (rndL L L.length s).y, (rndL L L.length s).z, ()) else k L (rndL L L.length s).z n (W (r + 1)) (rndL L L.length s).x (rndL L L.length s).y := by
 refine z0e (fun f i (t : LS) => z1x φ k f L t.z n r L (L.length : Int) i t.x t.y) L.length (fun i t => t = rndL L i s) (fun o => o = _) ?_ ?_ φ s rfl (by omega)
 ·intro f i t hi ht hk
  have hB := hs.rnd hL i (by omega)
  rw [<- ht] at hB
  obtain ⟨a1, a2, a3, a4, a5, a6⟩ := hL _ (z0g (l := L) (i := (i : Int)) (by omega) (by omega))
  have q1 := hB.bd _ a1 a2
  have q2 := hB.bd _ a3 a4
  have hx := hB.lx
  have hy := hB.ly
  have hk' := hk (stp (gt L (i : Int)) i t) (by rw [ht]; rfl)
  rw [z1x, if_pos (by simp; omega), z7 ⟨by omega, by omega⟩, z7 ⟨a1, by rw [hx]; exact a2⟩, z7 ⟨a3, by rw [hx]; exact a4⟩, W_id (x := gt t.x (gt L (i : Int)).i + (gt L (i : Int)).w) (by omega) (by omega)]
  unfold stp at hk'
  by_cases h : gt t.x (gt L (i : Int)).i + (gt L (i : Int)).w < gt t.x (gt L (i : Int)).j
  ·rw [if_pos h] at hk'
   rw [if_pos (by simpa using h), z48, z7 ⟨a3, by rw [hx]; exact a4⟩, z7 ⟨a3, by rw [hy]; exact a4⟩, W_id (x := (i : Int) + 1) (by omega) (by omega)]
   exact hk'
  ·rw [if_neg h] at hk'
   rw [if_neg (by simpa using h), W_id (x := (i : Int) + 1) (by omega) (by omega)]
   exact hk'
 ·intro f t ht
  subst ht
  rw [z1x, if_neg (by simp)]
  by_cases h : (rndL L L.length s).z < 0
  ·rw [if_pos (by simpa using h), if_pos h]; rfl
  ·rw [if_neg (by simpa using h), if_neg h]
theorem zox (φ : Nat) (L : List za) (n : Nat) (hn : n <= 512) (hL : ∀ b ∈ L, okBd n b) (hl : L.length <= 4096) (hφ : 5001 < φ) :
  ∀ (f k : Nat) (s : LS), LB n (k * L.length) s -> k <= n -> n < f + k -> z3g φ f L s.z n (k : Int) s.x s.y = some ((lowR L (n - k) s).x, (lowR L (n - k) s).y, (lowR L (n - k) s).z, ())
 | 0, k, s, _, h1, h2 => by omega
 | f + 1, k, s, hs, h1, h2 => by
  rw [z3g]
  by_cases h : k < n
  ·have hs1 : LB n (k * L.length) ⟨s.x, s.y, -1⟩ := ⟨hs.lx, hs.ly, hs.bd⟩
   have hb := Nat.mul_le_mul (show k + 1 <= 512 by omega) hl
   rw [Nat.add_mul, Nat.one_mul] at hb
   rw [if_pos (by simp; omega)]
   have := y4e φ (z3g φ f) L n (k : Int) _ ⟨s.x, s.y, -1⟩ hs1 hL (by omega) (by omega) hφ
   refine this.trans ?_
   rw [show n - k = (n - (k + 1)) + 1 by omega, lowR, W_id (x := (k : Int) + 1) (by omega) (by omega)]
   have hs2 := hs1.rnd hL L.length (Nat.le_refl _)
   split
   ·rfl
   ·exact zox φ L n hn hL hl hφ f (k + 1) _ (hs2.up (by rw [Nat.add_mul, Nat.one_mul]; omega)) (by omega) (by omega)
  ·rw [if_neg (by simp; omega), show n - k = 0 by omega]; rfl
theorem lb0 (n : Nat) : LB n 0 ⟨List.replicate n 0, List.replicate n (-1), -1⟩ := ⟨by simp, by simp, fun i h0 h1 => by rw [show gt (LS.x ⟨List.replicate n 0, List.replicate n (-1), -1⟩) i = 0 from z1h n 0 i h0 h1]; omega⟩
theorem zpr (φ : Nat) (hφ : 5001 < φ) (L : List za) (n : Nat) (hn : n <= 512) (hL : ∀ b ∈ L, okBd n b) (hl : L.length <= 4096) : z9q φ (n : Int) L = some ((low n L).x, (low n L).y, (low n L).z, ()) := by
 unfold z9q z44 z3t
 rw [z7 (mk_t _ _ (by omega) (by omega) (by omega)), zzf φ n (by omega) hφ, Option.bind_some, Int.toNat_natCast]
 have := zox φ L n hn hL hl hφ φ 0 ⟨List.replicate n 0, List.replicate n (-1), -1⟩ ((lb0 n).up (by omega)) (by omega) (by omega)
 exact this
def zld (n : Int) (b : za) : Bool := (((decide ((min2 b.i b.j) < 0) || decide (n <= max2 b.i b.j)) || decide (b.w < (-1099511627776))) || decide (1099511627776 < b.w))
def chkD (n : Int) (L : List za) : Int := if n < 1 then 1 else if 512 < n \/ 4096 < L.length then 2 else bif L.any (zld n) then 1 else 0
theorem zpf {n : Nat} {b : za} : zld n b = false ↔ okBd n b := by
 unfold zld okBd
 simp only [Bool.or_eq_false_iff, decide_eq_false_iff_not, zsl, y6s]
 have : ¬ ((n : Int) <= max2 b.i b.j) ↔ b.i < n /\ b.j < n := by unfold max2; split <;> omega
 rw [this]
 omega
theorem zge (φ : Nat) (hφ : 5001 < φ) (n : Int) (L : List za) : zaw φ n L = some (chkD n L, ()) := by
 unfold zaw chkD
 by_cases h1 : n < 1
 ·rw [if_pos (by simpa using h1), if_pos h1]
 ·rw [if_neg (by simpa using h1), if_neg h1]
  by_cases h2 : 512 < n \/ 4096 < L.length
  ·rw [if_pos (by simp; omega), if_pos h2]
  ·rw [if_neg (by simp; omega), if_neg h2]
   have := zg6 (fun f i => z4h φ f n L (L.length : Int) i) (some (0, ())) (some (1, ())) L (zld n) (fun f i hi => by
     rw [z4h, if_pos (by simp; omega), z7 ⟨by omega, by omega⟩, W_id (by omega) (by omega)]
     show (if zld n (gt L (i : Int)) = true then _ else _) = _
     cases zld n (gt L (i : Int)) <;> rfl) (fun f => by
     rw [z4h, if_neg (by simp)]) φ (by omega)
   rw [this]; cases L.any (zld n) <;> rfl
theorem y8j {n : Int} {L : List za} (h : chkD n L = 0) : ∃ m : Nat, n = m /\ 1 <= m /\ m <= 512 /\ L.length <= 4096 /\ ∀ b ∈ L, okBd m b := by
 unfold chkD at h
 split at h
 ·cases h
 ·split at h
  ·cases h
  ·refine ⟨n.toNat, by omega, by omega, by omega, by omega, fun b hb => ?_⟩
   cases ha : L.any (zld n) with
   | true => rw [ha] at h; cases h
   | false =>
    rw [<- zpf, show ((n.toNat : Nat) : Int) = n by omega]
    cases hbb : zld n b with
    | false => rfl
    | true => rw [List.any_eq_false] at ha; exact absurd hbb (ha b hb)
theorem zwm {n : Nat} {L : List za} (h1 : 1 <= n) (h2 : n <= 512) (h3 : L.length <= 4096) (h4 : ∀ b ∈ L, okBd n b) : chkD n L = 0 := by
 unfold chkD
 rw [if_neg (by omega), if_neg (by omega)]
 have : L.any (zld n) = false := by
  rw [List.any_eq_false]
  intro b hb h
  rw [zpf.2 (h4 b hb)] at h; cases h
 rw [this]; rfl
theorem y0r (φ : Nat) (hφ : 5001 < φ) (n : Int) (L : List za) : z8w φ n L = some (if chkD n L ≠ 0 then ([], chkD n L, ()) else if 0 <= (low n.toNat L).z then ([], 230, ()) else ((low n.toNat L).x, 0, ())) := by
 unfold z8w
 rw [zge φ hφ, Option.bind_some]
 by_cases h : chkD n L = 0
 ·rw [if_neg (by simpa using h), if_neg (by simpa using h)]
  obtain ⟨m, rfl, h1, h2, h3, h4⟩ := y8j h
  rw [zpr φ hφ L m h2 h4 h3, Option.bind_some, Int.toNat_natCast]
  by_cases hz : 0 <= (low m L).z
  ·rw [if_pos (by simpa using hz), if_pos hz]
  ·rw [if_neg (by simpa using hz), if_neg hz]
 ·rw [if_pos (by simpa using h), if_pos (by simpa using h)]
end Px
end
