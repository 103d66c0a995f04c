/- A part of the proof of conflictKeepIsConsistent_holds. Conditions: none. -/
import Derived.Test.YtghkddgggfodgaaGreatZvae
import Derived.Test.YtghkddgggfodgaaGreatProg
import Derived.Ground.SlsfProg
import Derived.Ground.NamesProg
import Derived.KernelRfl
section
namespace Go.Proofs
open Go.Shelf
def Tryz.sortEv_ren : Go.Shelf.Ren := ⟨fun | 6 => 68 | 15 => 93 | 14 => 92 | 28 => 125 | 29 => 114 | 20 => 117 | 21 => 118 | 22 => 119 | 23 => 120 | 24 => 121 | 25 => 122 | 26 => 123 | 27 => 124 | 46 => 149 | 47 => 150 | 48 => 151 | 49 => 152 | 50 => 153 | 57 => 166 | n => n, fun | 22 => 93 | 24 => 97 | 25 => 147 | 3 => 3 | 39 => 182 | 0 => 0 | 53 => 209 | 55 => 118 | 4 => 4 | 46 => 203 | 45 => 202 | 50 => 100 | 5 => 5 | 9 => 9 | 66 => 230 | 70 => 226 | 76 => 242 | 77 => 243 | n => n, fun | n => n⟩
theorem Tryz.sortEv : Go.Proofs.SlLaysF0.n6 Tryz.prog Tryz.sortEv_ren := {
 mixed := by kernel_rfl
 f6 := ⟨Tryz.f68.name, by decide, Tryz.func68.trans (congrArg some (by kernel_rfl))⟩
 f14 := ⟨Tryz.f92.name, by decide, Tryz.func92.trans (congrArg some (by kernel_rfl))⟩
 f15 := Tryz.func93.trans (congrArg some (by kernel_rfl))
 f20 := ⟨Tryz.f117.name, by decide, Tryz.func117.trans (congrArg some (by kernel_rfl))⟩
 f21 := ⟨Tryz.f118.name, by decide, Tryz.func118.trans (congrArg some (by kernel_rfl))⟩
 f22 := ⟨Tryz.f119.name, by decide, Tryz.func119.trans (congrArg some (by kernel_rfl))⟩
 f23 := ⟨Tryz.f120.name, by decide, Tryz.func120.trans (congrArg some (by kernel_rfl))⟩
 f24 := ⟨Tryz.f121.name, by decide, Tryz.func121.trans (congrArg some (by kernel_rfl))⟩
 f25 := ⟨Tryz.f122.name, by decide, Tryz.func122.trans (congrArg some (by kernel_rfl))⟩
 f26 := ⟨Tryz.f123.name, by decide, Tryz.func123.trans (congrArg some (by kernel_rfl))⟩
 f27 := ⟨Tryz.f124.name, by decide, Tryz.func124.trans (congrArg some (by kernel_rfl))⟩
 f28 := Tryz.func125.trans (congrArg some (by kernel_rfl))
 f29 := Tryz.func114.trans (congrArg some (by kernel_rfl))
 f46 := ⟨Tryz.f149.name, by decide, Tryz.func149.trans (congrArg some (by kernel_rfl))⟩
 f47 := Tryz.func150.trans (congrArg some (by kernel_rfl))
 f48 := Tryz.func151.trans (congrArg some (by kernel_rfl))
 f49 := ⟨Tryz.f152.name, by decide, Tryz.func152.trans (congrArg some (by kernel_rfl))⟩
 f50 := ⟨Tryz.f153.name, by decide, Tryz.func153.trans (congrArg some (by kernel_rfl))⟩
 f57 := ⟨Tryz.f166.name, by decide, Tryz.func166.trans (congrArg some (by kernel_rfl))⟩
 t0 := Tryz.underlying0
 a0 := Tryz.isAgg0
 z0 := Tryz.sizeOf0
 v0 := Tryz.zeroValue0
 t3 := Tryz.underlying3
 a3 := Tryz.isAgg3
 z3 := Tryz.sizeOf3
 v3 := Tryz.zeroValue3
 t4 := Tryz.underlying4
 a4 := Tryz.isAgg4
 z4 := Tryz.sizeOf4
 v4 := Tryz.zeroValue4
 t5 := Tryz.underlying5
 a5 := Tryz.isAgg5
 z5 := Tryz.sizeOf5
 v5 := Tryz.zeroValue5
 t9 := Tryz.underlying9
 a9 := Tryz.isAgg9
 z9 := Tryz.sizeOf9
 v9 := Tryz.zeroValue9
 t22 := Tryz.underlying93
 a22 := Tryz.isAgg93
 z22 := Tryz.sizeOf93
 v22 := Tryz.zeroValue93
 t25 := Tryz.underlying147
 a25 := Tryz.isAgg147
 z25 := Tryz.sizeOf147
 v25 := Tryz.zeroValue147
 t39 := Tryz.underlying182
 a39 := Tryz.isAgg182
 z39 := Tryz.sizeOf182
 v39 := Tryz.zeroValue182
 t45 := Tryz.underlying202
 a45 := Tryz.isAgg202
 z45 := Tryz.sizeOf202
 v45 := Tryz.zeroValue202
 t46 := Tryz.underlying203
 a46 := Tryz.isAgg203
 z46 := Tryz.sizeOf203
 v46 := Tryz.zeroValue203
 t50 := Tryz.underlying100
 a50 := Tryz.isAgg100
 z50 := Tryz.sizeOf100
 v50 := Tryz.zeroValue100
 t53 := Tryz.underlying209
 a53 := Tryz.isAgg209
 z53 := Tryz.sizeOf209
 v53 := Tryz.zeroValue209
 t55 := Tryz.underlying118
 a55 := Tryz.isAgg118
 z55 := Tryz.sizeOf118
 v55 := Tryz.zeroValue118
 t66 := Tryz.underlying230
 a66 := Tryz.isAgg230
 z66 := Tryz.sizeOf230
 v66 := Tryz.zeroValue230
 t70 := Tryz.underlying226
 a70 := Tryz.isAgg226
 z70 := Tryz.sizeOf226
 v70 := Tryz.zeroValue226
 t76 := Tryz.underlying242
 a76 := Tryz.isAgg242
 z76 := Tryz.sizeOf242
 v76 := Tryz.zeroValue242
 t77 := Tryz.underlying243
 a77 := Tryz.isAgg243
 z77 := Tryz.sizeOf243
 v77 := Tryz.zeroValue243 }
def Tryz.lays189_ren : Go.Shelf.Ren := ⟨fun | 189 => 127 | 125 => 93 | 257 => 154 | 128 => 125 | 129 => 114 | 294 => 167 | 295 => 168 | 296 => 169 | 297 => 170 | 298 => 171 | 299 => 172 | 216 => 173 | 300 => 174 | 301 => 175 | 328 => 176 | 329 => 150 | 330 => 151 | 331 => 177 | 332 => 178 | 215 => 58 | 343 => 179 | n => n, fun | 28 => 62 | 3 => 3 | 46 => 182 | 0 => 0 | 51 => 209 | 53 => 118 | 4 => 4 | 183 => 203 | 182 => 202 | 131 => 100 | 5 => 5 | 9 => 9 | 218 => 230 | 222 => 226 | 228 => 242 | 229 => 243 | n => n, fun | n => n⟩
theorem Tryz.lays189 : Go.Proofs.Lays.n189 Tryz.prog Tryz.lays189_ren := {
 mixed := by kernel_rfl
 f125 := Tryz.func93.trans (congrArg some (by kernel_rfl))
 f128 := Tryz.func125.trans (congrArg some (by kernel_rfl))
 f129 := Tryz.func114.trans (congrArg some (by kernel_rfl))
 f189 := Tryz.func127.trans (congrArg some (by kernel_rfl))
 f215 := Tryz.func58.trans (congrArg some (by kernel_rfl))
 f216 := Tryz.func173.trans (congrArg some (by kernel_rfl))
 f257 := Tryz.func154.trans (congrArg some (by kernel_rfl))
 f294 := Tryz.func167.trans (congrArg some (by kernel_rfl))
 f295 := Tryz.func168.trans (congrArg some (by kernel_rfl))
 f296 := Tryz.func169.trans (congrArg some (by kernel_rfl))
 f297 := Tryz.func170.trans (congrArg some (by kernel_rfl))
 f298 := Tryz.func171.trans (congrArg some (by kernel_rfl))
 f299 := Tryz.func172.trans (congrArg some (by kernel_rfl))
 f300 := Tryz.func174.trans (congrArg some (by kernel_rfl))
 f301 := Tryz.func175.trans (congrArg some (by kernel_rfl))
 f328 := Tryz.func176.trans (congrArg some (by kernel_rfl))
 f329 := Tryz.func150.trans (congrArg some (by kernel_rfl))
 f330 := Tryz.func151.trans (congrArg some (by kernel_rfl))
 f331 := Tryz.func177.trans (congrArg some (by kernel_rfl))
 f332 := Tryz.func178.trans (congrArg some (by kernel_rfl))
 f343 := Tryz.func179.trans (congrArg some (by kernel_rfl))
 t0 := Tryz.underlying0
 a0 := Tryz.isAgg0
 z0 := Tryz.sizeOf0
 v0 := Tryz.zeroValue0
 t3 := Tryz.underlying3
 a3 := Tryz.isAgg3
 z3 := Tryz.sizeOf3
 v3 := Tryz.zeroValue3
 t4 := Tryz.underlying4
 a4 := Tryz.isAgg4
 z4 := Tryz.sizeOf4
 v4 := Tryz.zeroValue4
 t5 := Tryz.underlying5
 a5 := Tryz.isAgg5
 z5 := Tryz.sizeOf5
 v5 := Tryz.zeroValue5
 t9 := Tryz.underlying9
 a9 := Tryz.isAgg9
 z9 := Tryz.sizeOf9
 v9 := Tryz.zeroValue9
 t28 := Tryz.underlying62
 a28 := Tryz.isAgg62
 z28 := Tryz.sizeOf62
 v28 := Tryz.zeroValue62
 t46 := Tryz.underlying182
 a46 := Tryz.isAgg182
 z46 := Tryz.sizeOf182
 v46 := Tryz.zeroValue182
 t51 := Tryz.underlying209
 a51 := Tryz.isAgg209
 z51 := Tryz.sizeOf209
 v51 := Tryz.zeroValue209
 t53 := Tryz.underlying118
 a53 := Tryz.isAgg118
 z53 := Tryz.sizeOf118
 v53 := Tryz.zeroValue118
 t131 := Tryz.underlying100
 a131 := Tryz.isAgg100
 z131 := Tryz.sizeOf100
 v131 := Tryz.zeroValue100
 t182 := Tryz.underlying202
 a182 := Tryz.isAgg202
 z182 := Tryz.sizeOf202
 v182 := Tryz.zeroValue202
 t183 := Tryz.underlying203
 a183 := Tryz.isAgg203
 z183 := Tryz.sizeOf203
 v183 := Tryz.zeroValue203
 t218 := Tryz.underlying230
 a218 := Tryz.isAgg230
 z218 := Tryz.sizeOf230
 v218 := Tryz.zeroValue230
 t222 := Tryz.underlying226
 a222 := Tryz.isAgg226
 z222 := Tryz.sizeOf226
 v222 := Tryz.zeroValue226
 t228 := Tryz.underlying242
 a228 := Tryz.isAgg242
 z228 := Tryz.sizeOf242
 v228 := Tryz.zeroValue242
 t229 := Tryz.underlying243
 a229 := Tryz.isAgg243
 z229 := Tryz.sizeOf243
 v229 := Tryz.zeroValue243 }
end Go.Proofs
end
section
namespace Px
open Go
set_option linter.unusedVariables false
set_option linter.unusedSimpArgs false
theorem zyv {σ ρ : Type} (L : Nat -> Int -> σ -> Option ρ) (len : Nat) (Inv : Nat -> σ -> Prop) (G : Option ρ -> Prop)
  (step : ∀ n i s, i < len -> Inv i s -> (∀ s', Inv (i + 1) s' -> G (L n ((i : Int) + 1) s')) -> G (L (n + 1) i s))
  (done : ∀ n s, Inv len s -> G (L (n + 1) len s)) : ∀ n i s, i <= len -> Inv i s -> len - i < n -> G (L n i s) := by
 intro n
 induction n with
 | zero => intro i s _ _ h; omega
 | succ n ih =>
  intro i s hi hI hn
  by_cases h : i = len
  ·subst h; exact done n s hI
  ·refine step n i s (by omega) hI fun s' hs' => ?_
   have := ih (i + 1) s' (by omega) hs' (by omega)
   simpa using this
theorem zp {σ ρ : Type} (L : Nat -> Int -> σ -> Option ρ) (len : Nat) (Inv : Nat -> σ -> Prop) (G : Option ρ -> Prop)
  (step : ∀ n i s, i < len -> Inv i s -> (∀ s', Inv (i + 1) s' -> G (L n ((i : Int) + 1) s')) -> G (L (n + 1) i s))
  (done : ∀ n s, Inv len s -> G (L (n + 1) len s)) (n : Nat) (s : σ) (h : Inv 0 s) (hn : len < n) : G (L n 0 s) := by
 simpa using zyv L len Inv G step done n 0 s (Nat.zero_le _) h (by omega)
theorem zsi (x : Int) : W x = if x % 18446744073709551616 >= 9223372036854775808 then x % 18446744073709551616 - 18446744073709551616 else x % 18446744073709551616 := by
 simp [W, IntKind.wrap, IntKind.bits, IntKind.signed]
theorem y05 (x : Int) : U x = x % 18446744073709551616 := by
 simp [U, IntKind.wrap, IntKind.bits, IntKind.signed]
theorem W_id {x : Int} (h : -9223372036854775808 <= x) (h' : x <= 9223372036854775807) : W x = x := by
 rw [zsi]; split <;> omega
theorem U_id {x : Int} (h : 0 <= x) (h' : x <= 18446744073709551615) : U x = x := by
 rw [y05]; omega
theorem zp1 {α : Type} [Inhabited α] (ok : α -> Bool) (l : List α) (i : Nat) (h : i < l.length) : (l.take (i + 1)).all ok = ((l.take i).all ok && ok (gt l (i : Int))) := by
 rw [List.take_succ_eq_append_getElem h, List.all_append]
 simp [gt, h]
theorem zh9 {α : Type} [Inhabited α] (ok : α -> Bool) (l : List α) (i : Nat) (h : i < l.length) : (l.take (i + 1)).any ok = ((l.take i).any ok || ok (gt l (i : Int))) := by
 rw [List.take_succ_eq_append_getElem h, List.any_append]
 simp [gt, h]
theorem z07 {α : Type} [Inhabited α] (l : List α) (i : Nat) (h : i < l.length) : l.take (i + 1) = l.take i ++ [gt l (i : Int)] := by
 rw [List.take_succ_eq_append_getElem h]
 simp [gt, h]
theorem z1d {α : Type} [Inhabited α] {l : List α} {i : Int} (h0 : 0 <= i) (h : i < (l.length : Int)) : gt l i ∈ l := by
 have hlt : i.toNat < l.length := by omega
 simp [gt, hlt]
theorem z1g {α : Type} [Inhabited α] {l : List α} {i : Nat} (h : i < l.length) : gt l (i : Int) = l[i] := by
 simp [gt, h]
theorem y2l {α : Type} [Inhabited α] (l : List α) (i : Nat) (h : i < l.length) : l.drop i = gt l (i : Int) :: l.drop (i + 1) := by
 rw [z1g h, List.getElem_cons_drop]
theorem zgw {α : Type} [Inhabited α] {l : List α} {x : α} (h : x ∈ l) : ∃ i : Nat, i < l.length /\ gt l (i : Int) = x := by
 obtain ⟨i, hi, e⟩ := List.getElem_of_mem h
 exact ⟨i, hi, by rw [z1g hi, e]⟩
theorem z0q {α : Type} [Inhabited α] (l : List α) (i j : Int) (x : α) (hi : 0 <= i) (h : i < (l.length : Int)) (hj : 0 <= j) : gt (zz l i x) j = if j = i then x else gt l j := by
 unfold gt zz
 by_cases e : j = i
 ·subst e
  have : j.toNat < l.length := by omega
  simp [List.getD, List.getElem?_set, this]
 ·have : i.toNat ≠ j.toNat := by omega
  simp [List.getD, List.getElem?_set, this, e]
theorem z3l {α : Type} [Inhabited α] (n : Nat) (x : α) (j : Int) (hj : 0 <= j) (h : j < n) : gt (List.replicate n x) j = x := by
 have : j.toNat < n := by omega
 simp [gt, List.getD, List.getElem?_replicate, this]
theorem zju {α ρ : Type} [Inhabited α] (L : Nat -> Int -> Int -> Option ρ) (k : Int -> Option ρ) (l : List α) (ok : α -> Bool)
  (step : ∀ (n i : Nat) (s : Int), i < l.length -> L (n + 1) i s = L n ((i : Int) + 1) (bif ok (gt l i) then s else 1)) (done : ∀ n s, L (n + 1) l.length s = k s) :
  ∀ n s, l.length < n -> L n 0 s = k (bif l.all ok then s else 1) := by
 intro n s hn
 refine zyv L l.length (fun i t => t = bif (l.take i).all ok then s else 1) (fun o => o = k (bif l.all ok then s else 1)) ?_ ?_ n 0 s (Nat.zero_le _) (by simp) (by omega)
 ·intro n i t hi ht hs
  rw [step n i t hi]
  refine hs _ ?_
  rw [zp1 ok l i hi, ht]
  cases (l.take i).all ok <;> cases ok (gt l (i : Int)) <;> simp
 ·intro n t ht
  rw [done, ht, List.take_length]
theorem y38 {α ρ : Type} [Inhabited α] (L : Nat -> Int -> Option ρ) (k : Option ρ) (l : List α) (p : α -> Bool) (g : α -> Option ρ)
  (step : ∀ n i : Nat, i < l.length -> L (n + 1) i = bif p (gt l i) then g (gt l i) else L n ((i : Int) + 1)) (done : ∀ n, L (n + 1) l.length = k) :
  ∀ n, l.length < n -> L n 0 = match l.find? p with | some x => g x | none => k := by
 intro n hn
 refine zp (fun n i (_ : Unit) => L n i) l.length (fun i _ => ∀ x ∈ l.take i, p x = false) (fun o => o = match l.find? p with | some x => g x | none => k) ?_ ?_ n () (by simp) hn
 ·intro n i _ hi hI hs
  simp only [step n i hi]
  cases e : p (gt l (i : Int)) with
  | false =>
   refine hs () ?_
   rw [z07 l i hi]
   intro x hx
   rcases List.mem_append.1 hx with h | h
   ·exact hI x h
   ·simp at h; rw [h]; exact e
  | true =>
   have : l.find? p = some (gt l (i : Int)) := by
    have h1 : l = l.take i ++ (gt l (i : Int) :: l.drop (i + 1)) := by
     rw [z1g hi, List.getElem_cons_drop, List.take_append_drop]
    generalize gt l (i : Int) = y at *
    rw [h1, List.find?_append, List.find?_eq_none.2 (fun x hx => by simp [hI x hx])]
    simp [List.find?_cons, e]
   rw [this]; rfl
 ·intro n _ hI
  simp only [done]
  rw [List.take_length] at hI
  rw [List.find?_eq_none.2 (fun x hx => by simp [hI x hx])]
theorem y5w {α ρ : Type} (l : List α) (p : α -> Bool) (r k : ρ) : (match l.find? p with | some _ => r | none => k) = bif l.any p then r else k := by
 induction l with
 | nil => rfl
 | cons x l ih =>
  rw [List.find?_cons, List.any_cons]
  cases p x
  ·simpa using ih
  ·rfl
theorem zjs {α ρ : Type} [Inhabited α] (L : Nat -> Int -> Option ρ) (k r : Option ρ) (l : List α) (p : α -> Bool)
  (step : ∀ n i : Nat, i < l.length -> L (n + 1) i = bif p (gt l i) then r else L n ((i : Int) + 1)) (done : ∀ n, L (n + 1) l.length = k)
  (n : Nat) (hn : l.length < n) : L n 0 = bif l.any p then r else k := by
 rw [y38 L k l p (fun _ => r) step done n hn, y5w]
def bet (a b c : Int) : Bool := decide (b <= a) && decide (a <= c)
theorem ztt {a b c : Int} : bet a b c = true ↔ b <= a /\ a <= c := by simp [bet]
theorem y2o {a b c : Int} (h : bet a b c = true) : b <= a /\ a <= c := ztt.1 h
theorem mk_t (n : Int) (b : Nat) (h0 : 0 <= n) (h : n <= 100000) (hb : b <= 1000000) : z4o n b := by
 refine ⟨h0, ?_, by omega⟩
 have : (b : Int) * n <= 1000000 * 100000 := Int.mul_le_mul (by omega) h h0 (by omega)
 omega
theorem y1g {x y z : Int} : min2 x y < z ↔ x < z \/ y < z := by unfold min2; split <;> omega
theorem ybf {x y z : Int} : z < max2 x y ↔ z < x \/ z < y := by unfold max2; split <;> omega
end Px
end
section
namespace Px
open Go
set_option linter.unusedVariables false
set_option linter.unusedSimpArgs false
theorem zu8 {a b : Int} : cmpI a b < 0 ↔ a < b := by unfold cmpI; (repeat' split) <;> omega
theorem ztx {a b : Int} : cmpI a b = 0 ↔ a = b := by unfold cmpI; (repeat' split) <;> omega
theorem ybo {a b c d e : Int} : or5 a b c d e < 0 ↔ a < 0 \/ (a = 0 /\ (b < 0 \/ (b = 0 /\ (c < 0 \/ (c = 0 /\ (d < 0 \/ (d = 0 /\ e < 0))))))) := by
 unfold or5
 by_cases h1 : a = 0
 ·by_cases h2 : b = 0
  ·by_cases h3 : c = 0
   ·by_cases h4 : d = 0
    ·simp [h1, h2, h3, h4]
    ·simp [h1, h2, h3, h4]
   ·simp [h1, h2, h3]
  ·simp [h1, h2]
 ·simp [h1]
theorem zb5 {a b : z6} : cfEv a b < 0 ↔ a.visit.early < b.visit.early \/ (a.visit.early = b.visit.early /\ (a.visit.ref.railway < b.visit.ref.railway \/ (a.visit.ref.railway = b.visit.ref.railway /\ (a.visit.ref.no < b.visit.ref.no \/ (a.visit.ref.no = b.visit.ref.no /\
  (ordB a.second < ordB b.second \/ (ordB a.second = ordB b.second /\ a.report < b.report))))))) := by
 unfold cfEv
 rw [ybo, zu8, zu8, zu8, ztx, ztx, ztx]
 have e1 : ∀ x y : Int, (x - y < 0) = (x < y) := fun x y => propext ⟨fun h => by omega, fun h => by omega⟩
 have e2 : ∀ x y : Int, (x - y = 0) = (x = y) := fun x y => propext ⟨fun h => by omega, fun h => by omega⟩
 rw [e1, e1, e2]
theorem y5l : Sort.SWO (Proofs.ltOf fun a b : {y : z6 // okEv y = true} => cfEv a.1 b.1) where
 irrefl := fun x => by
  simp only [Proofs.ltOf, decide_eq_false_iff_not]
  rw [zb5]
  omega
 trans := fun x y z h1 h2 => by
  simp only [Proofs.ltOf, decide_eq_true_eq] at *
  rw [zb5] at *
  omega
 ntrans := fun x y z h1 h2 => by
  simp only [Proofs.ltOf, decide_eq_false_iff_not] at *
  rw [zb5] at *
  omega
theorem zeu (φ : Nat) (a b : Int) : z3p φ a b = some (cmpI a b, ()) := by
 unfold z3p cmpI
 simp only [bne_self_eq_false, Bool.false_eq_true, if_false, decide_eq_true_eq]
 split
 ·rfl
 ·split <;> rfl
theorem y46 (φ : Nat) (b : Bool) : z9s φ b = some (ordB b, ()) := by
 unfold z9s ordB
 split <;> rfl
theorem yee (φ : Nat) (h : 6 <= φ) (a b c d e : Int) : zlw φ [a, b, c, d, e] = some (or5 a b c d e, ()) := by
 obtain ⟨n, rfl⟩ : ∃ n, φ = n + 6 := ⟨φ - 6, by omega⟩
 unfold zlw or5
 simp only [z88, List.length_cons, List.length_nil]
 have w : ∀ x : Int, 0 <= x -> x < 100 -> W (x + 1) = x + 1 := fun x h1 h2 => W_id (by omega) (by omega)
 have g0 : gt [a, b, c, d, e] 0 = a := rfl
 have g1 : gt [a, b, c, d, e] 1 = b := rfl
 have g2 : gt [a, b, c, d, e] 2 = c := rfl
 have g3 : gt [a, b, c, d, e] 3 = d := rfl
 have g4 : gt [a, b, c, d, e] 4 = e := rfl
 rw [w 0 (by omega) (by omega), show (0 : Int) + 1 = 1 by rfl, w 1 (by omega) (by omega), show (1 : Int) + 1 = 2 by rfl, w 2 (by omega) (by omega), show (2 : Int) + 1 = 3 by rfl, w 3 (by omega) (by omega), show (3 : Int) + 1 = 4 by rfl, w 4 (by omega) (by omega), show (4 : Int) + 1 = 5 by rfl, g0, g1, g2, g3, g4]
 simp [ck]
 repeat' (split; try rfl)
 all_goals simp_all
theorem zs6 (φ : Nat) (h : 6 <= φ) (a b : z6) (ha : okEv a = true) (hb : okEv b = true) : z82 φ a b = some (cfEv a b, ()) := by
 simp only [okEv, decide_eq_true_eq] at ha hb
 unfold z82 cfEv
 simp only [zeu, y46, Option.bind_some]
 have w1 : W (ordB a.second - ordB b.second) = ordB a.second - ordB b.second := by
  have : ∀ x : Bool, 0 <= ordB x /\ ordB x <= 1 := fun x => by cases x <;> decide
  have h1 := this a.second
  have h2 := this b.second
  exact W_id (by omega) (by omega)
 rw [w1, W_id (by omega) (by omega), yee φ h]
 rfl
theorem zty (a b : z6) (ha : okEv a = true) (hb : okEv b = true) : z82 10 a b = some (cfEv a b, ()) := zs6 10 (by omega) a b ha hb
end Px
end
section
set_option linter.unusedVariables false
set_option linter.unusedSimpArgs false
set_option maxHeartbeats 4000000
set_option maxRecDepth 100000
namespace Px
open Go Go.RowKit Go.Proofs
def z9a (φ : Nat) : H TV (RTup TT [.val 0]) := .x
def zc5 (P : Program) (φ : Nat) : Env TV := ⟨P, lk [], lk [], lk []⟩
theorem zp7 (φ : Nat) (a) : (z8v φ).F a = fnX TV (zc5 Tryz.prog φ) φ Tryz.f37 [0, 0] [.val 0] (z9a φ) a := by kernel_rfl
theorem zo9 (φ : Nat) : fnO TV (zc5 Tryz.prog φ) φ Tryz.f37 [.val 0] (z9a φ) := by
 unfold fnO
 show obl _ _ _ _ _ _ _
 unfold z9a
 repeat' (first | exact trivial | (refine ⟨?_, ?_⟩) | (intro _) | kernel_rfl)
theorem zg9 (φ : Nat) : z12 TV Tryz.prog 37 (z8v φ) :=
 z1a (N := zc5 Tryz.prog φ) (zy trivial trivial trivial) (z9a φ) Tryz.func37 (by kernel_rfl) (zp7 φ) (zo9 φ)
def zsl : Msp TV := ⟨3, 0, [], zns⟩
theorem y0e : zzm TV Tryz.prog 127 zsl := fun l l' sv h => zrr (ρ := Tryz.lays189_ren) Tryz.lays189 h
def z93 (φ : Nat) : H TV (RTup TT [.val 0]) := .x
def zcs (P : Program) (φ : Nat) : Env TV := ⟨P, lk [], lk [], lk []⟩
theorem zpe (φ : Nat) (a) : (zby φ).F a = fnX TV (zcs Tryz.prog φ) φ Tryz.f70 [2] [.val 0] (z93 φ) a := by kernel_rfl
theorem zno (φ : Nat) : fnO TV (zcs Tryz.prog φ) φ Tryz.f70 [.val 0] (z93 φ) := by
 unfold fnO
 show obl _ _ _ _ _ _ _
 unfold z93
 repeat' (first | exact trivial | (refine ⟨?_, ?_⟩) | (intro _) | kernel_rfl)
theorem zok (φ : Nat) : z12 TV Tryz.prog 70 (zby φ) :=
 z1a (N := zcs Tryz.prog φ) (zy trivial trivial trivial) (z93 φ) Tryz.func70 (by kernel_rfl) (zpe φ) (zno φ)
def zjx (φ : Nat) : H TV (RTup TT [.val 0]) := (.seq .x (.seq .x (.seq (.seq .x (.body (.loop ⟨[(18, [(3, .val 0), (6, .val 5), (7, .val 0), (8, .val 0)])], []⟩ (fun n z => z88 φ n z.1 z.2.1 z.2.2.1 z.2.2.2.1) (fun zk6 => .x)))) .x)))
def zpb (P : Program) (φ : Nat) : Env TV := ⟨P, lk [], lk [], lk []⟩
theorem y5y (φ : Nat) (a) : (zjo φ).F a = fnX TV (zpb Tryz.prog φ) φ Tryz.f36 [5] [.val 0] (zjx φ) a := by kernel_rfl
theorem y4z (φ : Nat) : fnO TV (zpb Tryz.prog φ) φ Tryz.f36 [.val 0] (zjx φ) := by
 unfold fnO
 show obl _ _ _ _ _ _ _
 unfold zjx
 repeat' (first | exact trivial | (refine ⟨?_, ?_⟩) | (intro _) | kernel_rfl)
theorem zwh (φ : Nat) : z12 TV Tryz.prog 36 (zjo φ) :=
 z1a (N := zpb Tryz.prog φ) (zy trivial trivial trivial) (zjx φ) Tryz.func36 (by kernel_rfl) (y5y φ) (y4z φ)
def z5p (φ : Nat) : H TV (RTup TT [.val 0]) := .x
def z8d (P : Program) (φ : Nat) : Env TV := ⟨P, lk [(37, z8v φ), (70, zby φ), (36, zjo φ)], lk [], lk []⟩
theorem zj5 (φ : Nat) (a) : (zcx φ).F a = fnX TV (z8d Tryz.prog φ) φ Tryz.f69 [4, 4] [.val 0] (z5p φ) a := by kernel_rfl
theorem zja (φ : Nat) : fnO TV (z8d Tryz.prog φ) φ Tryz.f69 [.val 0] (z5p φ) := by
 unfold fnO
 show obl _ _ _ _ _ _ _
 unfold z5p
 repeat' (first | exact trivial | (refine ⟨?_, ?_⟩) | (intro _) | kernel_rfl)
theorem zj9 (φ : Nat) : z12 TV Tryz.prog 69 (zcx φ) :=
 z1a (N := z8d Tryz.prog φ) (zy ⟨zg9 φ, zok φ, zwh φ, trivial⟩ trivial trivial) (z5p φ) Tryz.func69 (by kernel_rfl) (zj5 φ) (zja φ)
def zwn : Msp TV := ⟨97, 4, [69], sortEv⟩
theorem y3m : zzm TV Tryz.prog 68 zwn :=
 y0n (V := TV) (c := 4) (ρ := Tryz.sortEv_ren) Tryz.sortEv Tryz.isAgg97 (by rw [show TV.sz 4 = 11 by kernel_rfl]; exact Tryz.sizeOf97) (by kernel_rfl) (by kernel_rfl) ⟨Tryz.f69, Tryz.func69, by kernel_rfl, by kernel_rfl⟩ y5l fun a b ha hb =>
  (zj9 10 (a, b, ()) (cfEv a b, ()) (zty a b ha hb)).mono fun x news ⟨B, hB, h1, h2⟩ => by
   cases B with
   | nil => exact ⟨h1, h2⟩
   | cons y B => cases hB
def z90 (φ : Nat) : H TV (RTup TT [.val 6]) := (.seq .x (.seq .x (.seq (.body (.loop ⟨[(26, [(0, .val 6), (1, .val 6), (2, .val 6), (7, .val 6)])], []⟩ (fun n z => z7x φ n z.1 z.2.1 z.2.2.1 z.2.2.2.1) (fun zk8 => (.seq .x (.seq (.body (.seq (.join ⟨[(26, [(0, .val 6), (1, .val 6), (2, .val 6), (7, .val 6)])], []⟩ (fun z => z9y φ (fun a0 a1 a2 a3 => zk8 (a0, a1, a2, a3, ())) z.1 z.2.1 z.2.2.1 z.2.2.2.1) (.seq .x .x)) .x)) .x))))) .x)))
def zbs (P : Program) (φ : Nat) : Env TV := ⟨P, lk [], lk [], lk []⟩
theorem znr (φ : Nat) (a) : (zbr φ).F a = fnX TV (zbs Tryz.prog φ) φ Tryz.f130 [6, 6, 6] [.val 6] (z90 φ) a := by kernel_rfl
theorem zot (φ : Nat) : fnO TV (zbs Tryz.prog φ) φ Tryz.f130 [.val 6] (z90 φ) := by
 unfold fnO
 show obl _ _ _ _ _ _ _
 unfold z90
 repeat' (first | exact trivial | (refine ⟨?_, ?_⟩) | (intro _) | kernel_rfl)
theorem zp2 (φ : Nat) : z12 TV Tryz.prog 130 (zbr φ) :=
 z1a (N := zbs Tryz.prog φ) (zy trivial trivial trivial) (z90 φ) Tryz.func130 (by kernel_rfl) (znr φ) (zot φ)
def zch (φ : Nat) : H TV (RTup TT [.val 6]) := (.seq .x (.seq .x (.seq (.seq .x (.body (.loop ⟨[(22, [(0, .val 6), (1, .val 6), (5, .val 6)])], []⟩ (fun n z => zam φ n z.1 z.2.1 z.2.2.1) (fun zk6 => (.seq .x (.seq (.body (.seq (.join ⟨[(22, [(0, .val 6), (1, .val 6), (5, .val 6)])], []⟩ (fun z => zcg φ (fun a0 a1 a2 => zk6 (a0, a1, a2, ())) z.1 z.2.1 z.2.2.1) (.seq .x .x)) .x)) .x)))))) .x)))
def zfs (P : Program) (φ : Nat) : Env TV := ⟨P, lk [(130, zbr φ)], lk [], lk []⟩
theorem zu1 (φ : Nat) (a) : (zfw φ).F a = fnX TV (zfs Tryz.prog φ) φ Tryz.f97 [6, 6] [.val 6] (zch φ) a := by kernel_rfl
theorem zu5 (φ : Nat) : fnO TV (zfs Tryz.prog φ) φ Tryz.f97 [.val 6] (zch φ) := by
 unfold fnO
 show obl _ _ _ _ _ _ _
 unfold zch
 repeat' (first | exact trivial | (refine ⟨?_, ?_⟩) | (intro _) | kernel_rfl)
theorem zt6 (φ : Nat) : z12 TV Tryz.prog 97 (zfw φ) :=
 z1a (N := zfs Tryz.prog φ) (zy ⟨zp2 φ, trivial⟩ trivial trivial) (zch φ) Tryz.func97 (by kernel_rfl) (zu1 φ) (zu5 φ)
def z80 (φ : Nat) : H TV (RTup TT [.val 6, .val 0]) := .x
def zbe (P : Program) (φ : Nat) : Env TV := ⟨P, lk [(97, zfw φ)], lk [], lk []⟩
theorem zme (φ : Nat) (a) : (zbc φ).F a = fnX TV (zbe Tryz.prog φ) φ Tryz.f76 [6] [.val 6, .val 0] (z80 φ) a := by kernel_rfl
theorem zmp (φ : Nat) : fnO TV (zbe Tryz.prog φ) φ Tryz.f76 [.val 6, .val 0] (z80 φ) := by
 unfold fnO
 show obl _ _ _ _ _ _ _
 unfold z80
 repeat' (first | exact trivial | (refine ⟨?_, ?_⟩) | (intro _) | kernel_rfl)
theorem zmf (φ : Nat) : z12 TV Tryz.prog 76 (zbc φ) :=
 z1a (N := zbe Tryz.prog φ) (zy ⟨zt6 φ, trivial⟩ trivial trivial) (z80 φ) Tryz.func76 (by kernel_rfl) (zme φ) (zmp φ)
def z6f (φ : Nat) : H TV (RTup TT [.val 30]) := (.seq .x (.seq .x (.seq .x (.seq .x (.seq .x (.seq .x (.seq .x (.seq .x (.seq (.seq .x (.body (.loop ⟨[(50, [(0, .ptr 0 0), (1, .ptr 1 0), (2, .val 0)])], [.box 36 [.own 2, .own 3, .own 4, .own 5, .own 6, .own 7, .own 8, .own 9, .own 10], .box 36 [.own 11, .own 12, .own 13, .own 14, .own 15, .own 16, .own 17, .own 18, .own 19], .row 138 7, .row 112 9, .row 155 12, .row 140 14, .row 172 16, .row 176 18, .row 99 21, .row 136 23, .row 120 28, .row 138 7, .row 112 9, .row 155 12, .row 140 14, .row 172 16, .row 176 18, .row 99 21, .row 136 23, .row 120 28]⟩ (fun n z => z7p φ n z.1 z.2.1 z.2.2.1 z.2.2.2.1 z.2.2.2.2.1 z.2.2.2.2.2.1 z.2.2.2.2.2.2.1 z.2.2.2.2.2.2.2.1 z.2.2.2.2.2.2.2.2.1 z.2.2.2.2.2.2.2.2.2.1 z.2.2.2.2.2.2.2.2.2.2.1 z.2.2.2.2.2.2.2.2.2.2.2.1 z.2.2.2.2.2.2.2.2.2.2.2.2.1 z.2.2.2.2.2.2.2.2.2.2.2.2.2.1 z.2.2.2.2.2.2.2.2.2.2.2.2.2.2.1 z.2.2.2.2.2.2.2.2.2.2.2.2.2.2.2.1 z.2.2.2.2.2.2.2.2.2.2.2.2.2.2.2.2.1 z.2.2.2.2.2.2.2.2.2.2.2.2.2.2.2.2.2.1 z.2.2.2.2.2.2.2.2.2.2.2.2.2.2.2.2.2.2.1) (fun zk20 => .x)))) .x)))))))))
def z9d (P : Program) (φ : Nat) : Env TV := ⟨P, lk [(76, zbc φ)], lk [], lk []⟩
theorem zlb (φ : Nat) (a) : (z9h φ).F a = fnX TV (z9d Tryz.prog φ) φ Tryz.f47 [] [.val 30] (z6f φ) a := by kernel_rfl
theorem zlt (φ : Nat) : fnO TV (z9d Tryz.prog φ) φ Tryz.f47 [.val 30] (z6f φ) := by
 unfold fnO
 show obl _ _ _ _ _ _ _
 unfold z6f
 repeat' (first | exact trivial | (refine ⟨?_, ?_⟩) | (intro _) | kernel_rfl)
theorem zk1 (φ : Nat) : z12 TV Tryz.prog 47 (z9h φ) :=
 z1a (N := z9d Tryz.prog φ) (zy ⟨zmf φ, trivial⟩ trivial trivial) (z6f φ) Tryz.func47 (by kernel_rfl) (zlb φ) (zlt φ)
def z63 (φ : Nat) : H TV (RTup TT [.val 30]) := .x
def z9e (P : Program) (φ : Nat) : Env TV := ⟨P, lk [(47, z9h φ)], lk [], lk []⟩
theorem zl0 (φ : Nat) (a) : (z9t φ).F a = fnX TV (z9e Tryz.prog φ) φ Tryz.f27 [] [.val 30] (z63 φ) a := by kernel_rfl
theorem zl7 (φ : Nat) : fnO TV (z9e Tryz.prog φ) φ Tryz.f27 [.val 30] (z63 φ) := by
 unfold fnO
 show obl _ _ _ _ _ _ _
 unfold z63
 repeat' (first | exact trivial | (refine ⟨?_, ?_⟩) | (intro _) | kernel_rfl)
theorem zly (φ : Nat) : z12 TV Tryz.prog 27 (z9t φ) :=
 z1a (N := z9e Tryz.prog φ) (zy ⟨zk1 φ, trivial⟩ trivial trivial) (z63 φ) Tryz.func27 (by kernel_rfl) (zl0 φ) (zl7 φ)
def z7z (φ : Nat) : H TV (RTup TT [.val 35]) := .x
def zb1 (P : Program) (φ : Nat) : Env TV := ⟨P, lk [], lk [], lk []⟩
theorem zmt (φ : Nat) (a) : (zbg φ).F a = fnX TV (zb1 Tryz.prog φ) φ Tryz.f28 [0, 0, 0, 0, 0] [.val 35] (z7z φ) a := by kernel_rfl
theorem zmg (φ : Nat) : fnO TV (zb1 Tryz.prog φ) φ Tryz.f28 [.val 35] (z7z φ) := by
 unfold fnO
 show obl _ _ _ _ _ _ _
 unfold z7z
 repeat' (first | exact trivial | (refine ⟨?_, ?_⟩) | (intro _) | kernel_rfl)
theorem zmm (φ : Nat) : z12 TV Tryz.prog 28 (zbg φ) :=
 z1a (N := zb1 Tryz.prog φ) (zy trivial trivial trivial) (z7z φ) Tryz.func28 (by kernel_rfl) (zmt φ) (zmg φ)
def z6u (φ : Nat) : H TV (RTup TT [.val 2]) := .x
def z9j (P : Program) (φ : Nat) : Env TV := ⟨P, lk [], lk [], lk []⟩
theorem zl2 (φ : Nat) (a) : (za4 φ).F a = fnX TV (z9j Tryz.prog φ) φ Tryz.f87 [7] [.val 2] (z6u φ) a := by kernel_rfl
theorem zk0 (φ : Nat) : fnO TV (z9j Tryz.prog φ) φ Tryz.f87 [.val 2] (z6u φ) := by
 unfold fnO
 show obl _ _ _ _ _ _ _
 unfold z6u
 repeat' (first | exact trivial | (refine ⟨?_, ?_⟩) | (intro _) | kernel_rfl)
theorem zk2 (φ : Nat) : z12 TV Tryz.prog 87 (za4 φ) :=
 z1a (N := z9j Tryz.prog φ) (zy trivial trivial trivial) (z6u φ) Tryz.func87 (by kernel_rfl) (zl2 φ) (zk0 φ)
def z6j (φ : Nat) : H TV (RTup TT [.val 0]) := (.seq .x (.seq .x (.seq .x (.seq (.seq .x (.body (.loop ⟨[(84, [(1, .ptr 0 0), (3, .val 0), (20, .val 8), (21, .val 0), (22, .val 0)])], [.box 25 [.val 11]]⟩ (fun n z => z2x φ n z.1 z.2.1 z.2.2.1 z.2.2.2.1 z.2.2.2.2.1) (fun zk7 => .x)))) (.seq (.seq .x (.body (.loop ⟨[(84, [(3, .val 0), (31, .val 10), (32, .val 0), (33, .val 0)])], []⟩ (fun n z => z1j φ n z.1 z.2.1 z.2.2.1 z.2.2.2.1) (fun zk13 => .x)))) .x)))))
def zaa (P : Program) (φ : Nat) : Env TV := ⟨P, lk [(87, za4 φ)], lk [], lk []⟩
theorem zkq (φ : Nat) (a) : (z6b φ).F a = fnX TV (zaa Tryz.prog φ) φ Tryz.f61 [11] [.val 0] (z6j φ) a := by kernel_rfl
theorem zky (φ : Nat) : fnO TV (zaa Tryz.prog φ) φ Tryz.f61 [.val 0] (z6j φ) := by
 unfold fnO
 show obl _ _ _ _ _ _ _
 unfold z6j
 repeat' (first | exact trivial | (refine ⟨?_, ?_⟩) | (intro _) | kernel_rfl)
theorem ze3 (φ : Nat) : z12 TV Tryz.prog 61 (z6b φ) :=
 z1a (N := zaa Tryz.prog φ) (zy ⟨zk2 φ, trivial⟩ trivial trivial) (z6j φ) Tryz.func61 (by kernel_rfl) (zkq φ) (zky φ)
def z6w (φ : Nat) : H TV (RTup TT [.val 2]) := .x
def z9f (P : Program) (φ : Nat) : Env TV := ⟨P, lk [], lk [], lk []⟩
theorem zlk (φ : Nat) (a) : (z67 φ).F a = fnX TV (z9f Tryz.prog φ) φ Tryz.f63 [0, 0, 0] [.val 2] (z6w φ) a := by kernel_rfl
theorem zl5 (φ : Nat) : fnO TV (z9f Tryz.prog φ) φ Tryz.f63 [.val 2] (z6w φ) := by
 unfold fnO
 show obl _ _ _ _ _ _ _
 unfold z6w
 repeat' (first | exact trivial | (refine ⟨?_, ?_⟩) | (intro _) | kernel_rfl)
theorem ze1 (φ : Nat) : z12 TV Tryz.prog 63 (z67 φ) :=
 z1a (N := z9f Tryz.prog φ) (zy trivial trivial trivial) (z6w φ) Tryz.func63 (by kernel_rfl) (zlk φ) (zl5 φ)
def z8z (φ : Nat) : H TV (RTup TT [.val 0]) := (.seq .x (.seq .x (.seq .x (.seq .x (.seq (.seq .x (.body (.loop ⟨[(206, [(1, .ptr 0 0), (3, .ptr 1 0), (4, .func 88 [.ptr 1 0]), (41, .val 13), (42, .val 0), (43, .val 0)])], [.box 31 [.val 20], .box 40 [.val 0]]⟩ (fun n z => z37 φ n z.1 z.2.1 z.2.2.1 z.2.2.2.1 z.2.2.2.2.1) (fun zk7 => (.seq .x (.seq .x (.seq (.body (.seq .x (.seq (.seq .x (.body (.loop ⟨[(206, [(1, .ptr 0 0), (3, .ptr 1 0), (4, .func 88 [.ptr 1 0]), (6, .ptr 2 0), (41, .val 13), (42, .val 0), (43, .val 0), (55, .own 3), (56, .val 0), (57, .val 0)])], [.box 31 [.val 20], .box 40 [.val 0], .box 155 [.val 12], .row 3 0]⟩ (fun n z => z1y φ (fun a0 a1 a2 a3 a4 => zk7 (a0, a1, a2, a3, a4, ())) n z.1 z.2.1 z.2.2.1 z.2.2.2.1 z.2.2.2.2.1 z.2.2.2.2.2.1 z.2.2.2.2.2.2.1 z.2.2.2.2.2.2.2.1 z.2.2.2.2.2.2.2.2.1) (fun zk17 => .x)))) .x))) .x))))))) (.seq (.seq .x (.body (.loop ⟨[(206, [(1, .ptr 0 0), (3, .ptr 1 0), (4, .func 88 [.ptr 1 0]), (83, .val 15), (84, .val 0), (85, .val 0)])], [.box 31 [.val 20], .box 40 [.val 0]]⟩ (fun n z => z0b φ n z.1 z.2.1 z.2.2.1 z.2.2.2.1 z.2.2.2.2.1) (fun zk27 => .x)))) (.seq (.seq .x (.body (.loop ⟨[(206, [(1, .ptr 0 0), (3, .ptr 1 0), (4, .func 88 [.ptr 1 0]), (120, .val 17), (121, .val 0), (122, .val 0)])], [.box 31 [.val 20], .box 40 [.val 0]]⟩ (fun n z => z0n φ n z.1 z.2.1 z.2.2.1 z.2.2.2.1 z.2.2.2.2.1) (fun zk40 => .x)))) (.seq .x (.seq (.seq .x (.body (.loop ⟨[(206, [(3, .ptr 0 0), (4, .func 88 [.ptr 0 0]), (13, .ptr 1 0), (158, .val 19), (159, .val 0), (160, .val 0)])], [.box 40 [.val 0], .box 174 [.val 36]]⟩ (fun n z => zq φ n z.1 z.2.1 z.2.2.1 z.2.2.2.1 z.2.2.2.2.1) (fun zk49 => .x)))) .x)))))))))
def zc4 (P : Program) (φ : Nat) : Env TV := ⟨P, lk [(63, z67 φ)], lk [], lk []⟩
theorem zos (φ : Nat) (a) : (zc8 φ).F a = fnX TV (zc4 Tryz.prog φ) φ Tryz.f62 [20] [.val 0] (z8z φ) a := by kernel_rfl
theorem zou (φ : Nat) : fnO TV (zc4 Tryz.prog φ) φ Tryz.f62 [.val 0] (z8z φ) := by
 unfold fnO
 show obl _ _ _ _ _ _ _
 unfold z8z
 repeat' (first | exact trivial | (refine ⟨?_, ?_⟩) | (intro _) | kernel_rfl)
theorem zps (φ : Nat) : z12 TV Tryz.prog 62 (zc8 φ) :=
 z1a (N := zc4 Tryz.prog φ) (zy ⟨ze1 φ, trivial⟩ trivial trivial) (z8z φ) Tryz.func62 (by kernel_rfl) (zos φ) (zou φ)
def z5n (φ : Nat) : H TV (RTup TT [.val 0]) := (.seq .x (.seq (.seq .x (.body (.loop ⟨[(45, [(1, .ptr 0 0), (9, .val 26), (10, .val 0)])], [.box 117 [.val 27]]⟩ (fun n z => z2i φ n z.1 z.2.1 z.2.2.1) (fun zk5 => .x)))) (.seq .x (.seq (.seq .x (.body (.loop ⟨[(45, [(5, .val 0), (30, .val 5), (31, .val 0), (32, .val 0)])], []⟩ (fun n z => z21 φ n z.1 z.2.1 z.2.2.1 z.2.2.2.1) (fun zk10 => .x)))) .x))))
def z8k (P : Program) (φ : Nat) : Env TV := ⟨P, lk [], lk [], lk []⟩
theorem zj7 (φ : Nat) (a) : (z8f φ).F a = fnX TV (z8k Tryz.prog φ) φ Tryz.f64 [27] [.val 0] (z5n φ) a := by kernel_rfl
theorem zjd (φ : Nat) : fnO TV (z8k Tryz.prog φ) φ Tryz.f64 [.val 0] (z5n φ) := by
 unfold fnO
 show obl _ _ _ _ _ _ _
 unfold z5n
 repeat' (first | exact trivial | (refine ⟨?_, ?_⟩) | (intro _) | kernel_rfl)
theorem zj6 (φ : Nat) : z12 TV Tryz.prog 64 (z8f φ) :=
 z1a (N := z8k Tryz.prog φ) (zy trivial trivial trivial) (z5n φ) Tryz.func64 (by kernel_rfl) (zj7 φ) (zjd φ)
def zay (φ : Nat) : H TV (RTup TT [.val 6, .val 6]) := .x
def zds (P : Program) (φ : Nat) : Env TV := ⟨P, lk [], lk [], lk []⟩
theorem zsp (φ : Nat) (a) : (zah φ).F a = fnX TV (zds Tryz.prog φ) φ Tryz.f129 [6, 6] [.val 6, .val 6] (zay φ) a := by kernel_rfl
theorem zql (φ : Nat) : fnO TV (zds Tryz.prog φ) φ Tryz.f129 [.val 6, .val 6] (zay φ) := by
 unfold fnO
 show obl _ _ _ _ _ _ _
 unfold zay
 repeat' (first | exact trivial | (refine ⟨?_, ?_⟩) | (intro _) | kernel_rfl)
theorem ziw (φ : Nat) : z12 TV Tryz.prog 129 (zah φ) :=
 z1a (N := zds Tryz.prog φ) (zy trivial trivial trivial) (zay φ) Tryz.func129 (by kernel_rfl) (zsp φ) (zql φ)
def z32 (φ : Nat) : H TV (RTup TT [.val 0]) := (.seq .x (.seq (.ins 1 114 (.seq .x (.seq (.join ⟨[(25, [(0, .val 6), (2, .val 0)]), (6, [])], []⟩ (fun z => z1e φ z.1 z.2.1) (.seq .x .x)) (.seq (.join ⟨[(25, [(0, .val 6), (2, .val 0)]), (6, [])], []⟩ (fun z => z1f φ z.1 z.2.1) (.seq .x .x)) (.seq (.join ⟨[(25, [(0, .val 6), (2, .val 0)]), (6, [])], []⟩ (fun z => z16 φ z.1 z.2.1) (.seq .x .x)) .x)))) .x) .x))
def z4a (P : Program) (φ : Nat) : Env TV := ⟨P, lk [], lk [], lk []⟩
theorem ze6 (φ : Nat) (a) : (z4d φ).F a = fnX TV (z4a Tryz.prog φ) φ Tryz.f157 [6] [.val 0] (z32 φ) a := by kernel_rfl
theorem zef (φ : Nat) : fnO TV (z4a Tryz.prog φ) φ Tryz.f157 [.val 0] (z32 φ) := by
 unfold fnO
 show obl _ _ _ _ _ _ _
 unfold z32
 repeat' (first | exact trivial | (refine ⟨?_, ?_⟩) | (intro _) | kernel_rfl)
theorem zdw (φ : Nat) : z12 TV Tryz.prog 157 (z4d φ) :=
 z1a (N := z4a Tryz.prog φ) (zy trivial trivial trivial) (z32 φ) Tryz.func157 (by kernel_rfl) (ze6 φ) (zef φ)
def zb0 (φ : Nat) : H TV (RTup TT [.val 6, .val 6]) := (.seq .x (.seq .x (.seq .x (.seq .x (.seq .x (.seq .x (.seq .x (.seq .x (.seq .x (.seq .x (.seq .x (.seq .x (.seq .x (.seq .x (.seq (.join ⟨[(135, [(2, .val 6), (8, .val 6), (9, .val 6), (10, .val 6), (11, .val 6), (13, .val 6), (14, .val 6), (15, .val 6)])], []⟩ (fun z => z5e φ z.1 z.2.1 z.2.2.1 z.2.2.2.1 z.2.2.2.2.1 z.2.2.2.2.2.1 z.2.2.2.2.2.2.1 z.2.2.2.2.2.2.2.1) (.body (.loop ⟨[(135, [(2, .val 6), (8, .val 6), (9, .val 6), (10, .val 6), (11, .val 6), (13, .val 6), (14, .val 6), (15, .val 6), (16, .val 6)])], []⟩ (fun n z => z56 φ n z.1 z.2.1 z.2.2.1 z.2.2.2.1 z.2.2.2.2.1 z.2.2.2.2.2.1 z.2.2.2.2.2.2.1 z.2.2.2.2.2.2.2.1 z.2.2.2.2.2.2.2.2.1) (fun zk40 => .x)))) (.seq .x (.seq .x (.seq .x (.seq (.join ⟨[(135, [(2, .val 6), (8, .val 6), (14, .val 6), (15, .val 6), (17, .val 6), (18, .val 6)])], []⟩ (fun z => z5b φ z.1 z.2.1 z.2.2.1 z.2.2.2.1 z.2.2.2.2.1 z.2.2.2.2.2.1) (.body (.loop ⟨[(135, [(2, .val 6), (8, .val 6), (9, .val 6), (10, .val 6), (14, .val 6), (15, .val 6), (16, .val 6), (17, .val 6), (18, .val 6)])], []⟩ (fun n z => z5i φ n z.1 z.2.1 z.2.2.1 z.2.2.2.1 z.2.2.2.2.1 z.2.2.2.2.2.1 z.2.2.2.2.2.2.1 z.2.2.2.2.2.2.2.1 z.2.2.2.2.2.2.2.2.1) (fun zk30 => .x)))) .x)))))))))))))))))))
def zeb (P : Program) (φ : Nat) : Env TV := ⟨P, lk [(157, z4d φ)], lk [], lk []⟩
theorem zr2 (φ : Nat) (a) : (zdb φ).F a = fnX TV (zeb Tryz.prog φ) φ Tryz.f145 [6, 6, 6] [.val 6, .val 6] (zb0 φ) a := by kernel_rfl
theorem zsn (φ : Nat) : fnO TV (zeb Tryz.prog φ) φ Tryz.f145 [.val 6, .val 6] (zb0 φ) := by
 unfold fnO
 show obl _ _ _ _ _ _ _
 unfold zb0
 repeat' (first | exact trivial | (refine ⟨?_, ?_⟩) | (intro _) | kernel_rfl)
theorem zqa (φ : Nat) : z12 TV Tryz.prog 145 (zdb φ) :=
 z1a (N := zeb Tryz.prog φ) (zy ⟨zdw φ, trivial⟩ trivial trivial) (zb0 φ) Tryz.func145 (by kernel_rfl) (zr2 φ) (zsn φ)
def zf1 (φ : Nat) : H TV (RTup TT [.val 6]) := (.seq .x (.seq .x (.seq .x (.seq (.seq (.ins 1 114 (.seq .x (.seq (.join ⟨[(25, [(0, .val 6), (2, .val 0)]), (33, [(0, .val 6), (1, .val 6), (5, .func 144 [.ptr 0 0]), (6, .val 6)])], [.box 118 [.val 6]]⟩ (fun z => za0 φ z.1 z.2.1 z.2.2.1 z.2.2.2.1 z.2.2.2.2.1 z.2.2.2.2.2.1) (.seq .x .x)) (.seq (.join ⟨[(25, [(0, .val 6), (2, .val 0)]), (33, [(0, .val 6), (1, .val 6), (5, .func 144 [.ptr 0 0]), (6, .val 6)])], [.box 118 [.val 6]]⟩ (fun z => z8c φ z.1 z.2.1 z.2.2.1 z.2.2.2.1 z.2.2.2.2.1 z.2.2.2.2.2.1) (.seq .x .x)) (.seq (.join ⟨[(25, [(0, .val 6), (2, .val 0)]), (33, [(0, .val 6), (1, .val 6), (5, .func 144 [.ptr 0 0]), (6, .val 6)])], [.box 118 [.val 6]]⟩ (fun z => z8a φ z.1 z.2.1 z.2.2.1 z.2.2.2.1 z.2.2.2.2.1 z.2.2.2.2.2.1) (.seq .x .x)) .x)))) .x) (.body (.loop ⟨[(33, [(0, .val 6), (1, .val 6), (5, .func 144 [.ptr 0 0]), (6, .val 6), (10, .val 0), (11, .val 0)])], [.box 118 [.val 6]]⟩ (fun n z => z0h φ n z.1 z.2.1 z.2.2.1 z.2.2.2.1 z.2.2.2.2.1 z.2.2.2.2.2.1) (fun zk30 => (.seq .x (.seq .x (.seq (.body (.seq .x (.seq .x (.seq (.ins 2 114 (.seq .x (.seq (.join ⟨[(25, [(0, .val 6), (2, .val 0)]), (33, [(0, .val 6), (1, .val 6), (5, .func 144 [.ptr 0 0]), (6, .val 6), (7, .val 0), (10, .val 0), (11, .val 0), (18, .val 6)])], [.box 118 [.val 6]]⟩ (fun z => z33 φ (fun a0 a1 a2 a3 a4 a5 => zk30 (a0, a1, a2, a3, a4, a5, ())) z.1 z.2.1 z.2.2.1 z.2.2.2.1 z.2.2.2.2.1 z.2.2.2.2.2.1 z.2.2.2.2.2.2.1 z.2.2.2.2.2.2.2.1 z.2.2.2.2.2.2.2.2.1 z.2.2.2.2.2.2.2.2.2.1) (.seq .x .x)) (.seq (.join ⟨[(25, [(0, .val 6), (2, .val 0)]), (33, [(0, .val 6), (1, .val 6), (5, .func 144 [.ptr 0 0]), (6, .val 6), (7, .val 0), (10, .val 0), (11, .val 0), (18, .val 6)])], [.box 118 [.val 6]]⟩ (fun z => z8b φ (fun a0 a1 a2 a3 a4 a5 => zk30 (a0, a1, a2, a3, a4, a5, ())) z.1 z.2.1 z.2.2.1 z.2.2.2.1 z.2.2.2.2.1 z.2.2.2.2.2.1 z.2.2.2.2.2.2.1 z.2.2.2.2.2.2.2.1 z.2.2.2.2.2.2.2.2.1 z.2.2.2.2.2.2.2.2.2.1) (.seq .x .x)) (.seq (.join ⟨[(25, [(0, .val 6), (2, .val 0)]), (33, [(0, .val 6), (1, .val 6), (5, .func 144 [.ptr 0 0]), (6, .val 6), (7, .val 0), (10, .val 0), (11, .val 0), (18, .val 6)])], [.box 118 [.val 6]]⟩ (fun z => z89 φ (fun a0 a1 a2 a3 a4 a5 => zk30 (a0, a1, a2, a3, a4, a5, ())) z.1 z.2.1 z.2.2.1 z.2.2.2.1 z.2.2.2.2.1 z.2.2.2.2.2.1 z.2.2.2.2.2.2.1 z.2.2.2.2.2.2.2.1 z.2.2.2.2.2.2.2.2.1 z.2.2.2.2.2.2.2.2.2.1) (.seq .x .x)) .x)))) .x) .x)))) .x))))))) .x))))
def zhw (P : Program) (φ : Nat) : Env TV := ⟨P, lk [(129, zah φ), (145, zdb φ)], lk [], lk []⟩
theorem zxw (φ : Nat) (a) : (zi1 φ).F a = fnX TV (zhw Tryz.prog φ) φ Tryz.f89 [6, 6] [.val 6] (zf1 φ) a := by kernel_rfl
theorem zxb (φ : Nat) : fnO TV (zhw Tryz.prog φ) φ Tryz.f89 [.val 6] (zf1 φ) := by
 unfold fnO
 show obl _ _ _ _ _ _ _
 unfold zf1
 repeat' (first | exact trivial | (refine ⟨?_, ?_⟩) | (intro _) | kernel_rfl)
theorem zxg (φ : Nat) : z12 TV Tryz.prog 89 (zi1 φ) :=
 z1a (N := zhw Tryz.prog φ) (zy ⟨ziw φ, zqa φ, trivial⟩ trivial trivial) (zf1 φ) Tryz.func89 (by kernel_rfl) (zxw φ) (zxb φ)
def zao (φ : Nat) : H TV (RTup TT [.val 2]) := .x
def zdt (P : Program) (φ : Nat) : Env TV := ⟨P, lk [(89, zi1 φ)], lk [], lk []⟩
theorem zq7 (φ : Nat) (a) : (zek φ).F a = fnX TV (zdt Tryz.prog φ) φ Tryz.f65 [6] [.val 2] (zao φ) a := by kernel_rfl
theorem zq5 (φ : Nat) : fnO TV (zdt Tryz.prog φ) φ Tryz.f65 [.val 2] (zao φ) := by
 unfold fnO
 show obl _ _ _ _ _ _ _
 unfold zao
 repeat' (first | exact trivial | (refine ⟨?_, ?_⟩) | (intro _) | kernel_rfl)
theorem zse (φ : Nat) : z12 TV Tryz.prog 65 (zek φ) :=
 z1a (N := zdt Tryz.prog φ) (zy ⟨zxg φ, trivial⟩ trivial trivial) (zao φ) Tryz.func65 (by kernel_rfl) (zq7 φ) (zq5 φ)
def z4i (φ : Nat) : H TV (RTup TT [.val 0]) := (.seq .x (.seq .x (.seq .x (.seq .x (.seq .x (.seq .x (.seq (.seq .x (.body (.loop ⟨[(193, [(1, .ptr 0 0), (5, .val 8), (6, .val 0), (7, .val 2), (57, .val 22), (58, .val 0), (59, .val 0)])], [.box 36 [.val 30]]⟩ (fun n z => z1m φ n z.1 z.2.1 z.2.2.1 z.2.2.2.1 z.2.2.2.2.1 z.2.2.2.2.2.1 z.2.2.2.2.2.2.1) (fun zk11 => .x)))) (.seq (.seq .x (.body (.loop ⟨[(193, [(1, .ptr 0 0), (5, .val 8), (6, .val 0), (7, .val 2), (92, .val 24), (93, .val 0), (94, .val 0)])], [.box 36 [.val 30]]⟩ (fun n z => z0s φ n z.1 z.2.1 z.2.2.1 z.2.2.2.1 z.2.2.2.2.1 z.2.2.2.2.2.1 z.2.2.2.2.2.2.1) (fun zk20 => .x)))) (.seq (.seq .x (.body (.loop ⟨[(193, [(1, .ptr 0 0), (5, .val 8), (6, .val 0), (7, .val 2), (120, .val 15), (121, .val 0), (122, .val 0)])], [.box 36 [.val 30]]⟩ (fun n z => z0t φ n z.1 z.2.1 z.2.2.1 z.2.2.2.1 z.2.2.2.2.1 z.2.2.2.2.2.1 z.2.2.2.2.2.2.1) (fun zk29 => .x)))) (.seq (.seq .x (.body (.loop ⟨[(193, [(1, .ptr 0 0), (6, .val 0), (7, .val 2), (135, .val 8), (136, .val 0), (137, .val 0)])], [.box 36 [.val 30]]⟩ (fun n z => z0u φ n z.1 z.2.1 z.2.2.1 z.2.2.2.1 z.2.2.2.2.1 z.2.2.2.2.2.1) (fun zk36 => .x)))) (.seq (.seq .x (.body (.loop ⟨[(193, [(1, .ptr 0 0), (6, .val 0), (7, .val 2), (157, .val 10), (158, .val 0), (159, .val 0)])], [.box 36 [.val 30]]⟩ (fun n z => z0w φ n z.1 z.2.1 z.2.2.1 z.2.2.2.1 z.2.2.2.2.1 z.2.2.2.2.2.1) (fun zk43 => .x)))) (.seq (.seq .x (.body (.loop ⟨[(193, [(7, .val 2), (172, .val 29), (173, .val 0), (174, .val 0)])], []⟩ (fun n z => z0v φ n z.1 z.2.1 z.2.2.1 z.2.2.2.1) (fun zk48 => .x)))) .x))))))))))))
def z7u (P : Program) (φ : Nat) : Env TV := ⟨P, lk [(61, z6b φ), (62, zc8 φ), (63, z67 φ), (64, z8f φ), (65, zek φ)], lk [], lk []⟩
theorem zhq (φ : Nat) (a) : (z4q φ).F a = fnX TV (z7u Tryz.prog φ) φ Tryz.f40 [30] [.val 0] (z4i φ) a := by kernel_rfl
theorem zih (φ : Nat) : fnO TV (z7u Tryz.prog φ) φ Tryz.f40 [.val 0] (z4i φ) := by
 unfold fnO
 show obl _ _ _ _ _ _ _
 unfold z4i
 repeat' (first | exact trivial | (refine ⟨?_, ?_⟩) | (intro _) | kernel_rfl)
theorem zbp (φ : Nat) : z12 TV Tryz.prog 40 (z4q φ) :=
 z1a (N := z7u Tryz.prog φ) (zy ⟨ze3 φ, zps φ, ze1 φ, zj6 φ, zse φ, trivial⟩ trivial trivial) (z4i φ) Tryz.func40 (by kernel_rfl) (zhq φ) (zih φ)
def z6q (φ : Nat) : H TV (RTup TT [.val 2]) := .x
def z9i (P : Program) (φ : Nat) : Env TV := ⟨P, lk [], lk [], lk []⟩
theorem zm6 (φ : Nat) (a) : (z9o φ).F a = fnX TV (z9i Tryz.prog φ) φ Tryz.f115 [34] [.val 2] (z6q φ) a := by kernel_rfl
theorem zkf (φ : Nat) : fnO TV (z9i Tryz.prog φ) φ Tryz.f115 [.val 2] (z6q φ) := by
 unfold fnO
 show obl _ _ _ _ _ _ _
 unfold z6q
 repeat' (first | exact trivial | (refine ⟨?_, ?_⟩) | (intro _) | kernel_rfl)
theorem zko (φ : Nat) : z12 TV Tryz.prog 115 (z9o φ) :=
 z1a (N := z9i Tryz.prog φ) (zy trivial trivial trivial) (z6q φ) Tryz.func115 (by kernel_rfl) (zm6 φ) (zkf φ)
def zco (φ : Nat) : H TV (RTup TT [.val 2]) := (.seq .x (.seq (.seq .x (.body (.loop ⟨[(43, [(0, .val 33), (1, .val 2), (7, .val 33), (8, .val 0), (9, .val 0)])], []⟩ (fun n z => z5v φ n z.1 z.2.1 z.2.2.1 z.2.2.2.1 z.2.2.2.2.1) (fun zk8 => .x)))) .x))
def zfk (P : Program) (φ : Nat) : Env TV := ⟨P, lk [], lk [], lk []⟩
theorem zu4 (φ : Nat) (a) : (zfx φ).F a = fnX TV (zfk Tryz.prog φ) φ Tryz.f165 [33, 2] [.val 2] (zco φ) a := by kernel_rfl
theorem zu2 (φ : Nat) : fnO TV (zfk Tryz.prog φ) φ Tryz.f165 [.val 2] (zco φ) := by
 unfold fnO
 show obl _ _ _ _ _ _ _
 unfold zco
 repeat' (first | exact trivial | (refine ⟨?_, ?_⟩) | (intro _) | kernel_rfl)
theorem ztl (φ : Nat) : z12 TV Tryz.prog 165 (zfx φ) :=
 z1a (N := zfk Tryz.prog φ) (zy trivial trivial trivial) (zco φ) Tryz.func165 (by kernel_rfl) (zu4 φ) (zu2 φ)
def zaf (φ : Nat) : H TV (RTup TT [.val 2]) := (.seq .x (.seq .x (.seq (.join ⟨[(46, [(5, .ptr 0 0)])], [.box 225 [.val 37]]⟩ (fun z => zc φ z.1) (.seq .x (.cond (.ins 0 146 (.seq .x (.seq .x (.seq .x (.seq .x (.body (.seq .x (.cond .x (.seq .x (.cond (.seq (.ins 1 161 (.seq .x (.seq (.join ⟨[(66, [(0, .ptr 0 0), (1, .val 0), (4, .ptr 1 0)]), (135, [(0, .ptr 0 0)]), (46, [(5, .ptr 0 0)])], [.box 225 [.val 37], .box 138 [.val 7]]⟩ (fun z => z6c φ z.1 z.2.1 z.2.2.1) (.seq .x .x)) .x)) .x) .x) (.seq (.join ⟨[(135, [(0, .ptr 0 0), (2, .ptr 0 9), (20, .val 0), (43, .val 2)]), (46, [(5, .ptr 0 0)])], [.box 225 [.val 37]]⟩ (fun z => z54 φ z.1 z.2.1 z.2.2.1) (.seq .x .x)) (.cond (.seq (.ins 1 161 (.seq .x (.seq (.join ⟨[(66, [(0, .ptr 0 0), (1, .val 0), (4, .ptr 1 0)]), (135, [(0, .ptr 0 0), (2, .ptr 0 9)]), (46, [(5, .ptr 0 0)])], [.box 225 [.val 37], .box 138 [.val 7]]⟩ (fun z => z5h φ z.1 z.2.1 z.2.2.1) (.seq .x .x)) .x)) .x) .x) (.seq .x (.cond (.seq .x (.seq .x (.seq (.ins 1 161 (.seq .x (.seq (.join ⟨[(66, [(0, .ptr 0 0), (1, .val 0), (4, .ptr 1 0)]), (135, [(0, .ptr 0 0), (2, .ptr 0 9)]), (46, [(5, .ptr 0 0)])], [.box 225 [.val 37], .box 138 [.val 7]]⟩ (fun z => z5c φ z.1 z.2.1 z.2.2.1) (.seq .x .x)) .x)) .x) .x))) (.seq (.join ⟨[(135, [(0, .ptr 0 0), (2, .ptr 0 9), (116, .val 2)]), (46, [(5, .ptr 0 0)])], [.box 225 [.val 37]]⟩ (fun z => z5g φ z.1 z.2.1) (.seq .x .x)) (.cond (.seq (.ins 1 161 (.seq .x (.seq (.join ⟨[(66, [(0, .ptr 0 0), (1, .val 0), (4, .ptr 1 0)]), (135, [(0, .ptr 0 0), (2, .ptr 0 9)]), (46, [(5, .ptr 0 0)])], [.box 225 [.val 37], .box 138 [.val 7]]⟩ (fun z => z59 φ z.1 z.2.1 z.2.2.1) (.seq .x .x)) .x)) .x) .x) .x))))))))))))))) .x) (.ins 0 147 (.seq .x (.seq .x (.body (.seq .x (.cond .x (.seq .x (.cond (.seq .x (.seq (.ins 1 161 (.seq .x (.seq (.join ⟨[(66, [(0, .ptr 0 0), (1, .val 0), (4, .ptr 1 0)]), (168, [(0, .ptr 0 0), (2, .ptr 0 9)]), (46, [(5, .ptr 0 0)])], [.box 225 [.val 37], .box 138 [.val 7]]⟩ (fun z => z5d φ z.1 z.2.1 z.2.2.1) (.seq .x .x)) .x)) .x) .x)) (.seq .x (.cond .x (.seq (.join ⟨[(168, [(0, .ptr 0 0), (2, .ptr 0 9), (9, .val 0), (91, .val 2)]), (46, [(5, .ptr 0 0)])], [.box 225 [.val 37]]⟩ (fun z => z38 φ z.1 z.2.1 z.2.2.1) (.seq .x .x)) (.cond .x (.seq .x (.cond .x (.seq .x (.cond (.seq .x (.seq (.ins 1 161 (.seq .x (.seq (.join ⟨[(66, [(0, .ptr 0 0), (1, .val 0), (4, .ptr 1 0)]), (168, [(0, .ptr 0 0), (2, .ptr 0 9)]), (46, [(5, .ptr 0 0)])], [.box 225 [.val 37], .box 138 [.val 7]]⟩ (fun z => z5f φ z.1 z.2.1 z.2.2.1) (.seq .x .x)) .x)) .x) .x)) .x))))))))))))))) .x)))) (.seq (.seq .x (.body (.unr 12 .x))) .x))))
def zdc (P : Program) (φ : Nat) : Env TV := ⟨P, lk [(165, zfx φ)], lk [], lk []⟩
theorem zrd (φ : Nat) (a) : (zed φ).F a = fnX TV (zdc Tryz.prog φ) φ Tryz.f116 [30, 34] [.val 2] (zaf φ) a := by kernel_rfl
theorem zpy (φ : Nat) : fnO TV (zdc Tryz.prog φ) φ Tryz.f116 [.val 2] (zaf φ) := by
 unfold fnO
 show obl _ _ _ _ _ _ _
 unfold zaf
 repeat' (first | exact trivial | (refine ⟨?_, ?_⟩) | (intro _) | kernel_rfl)
theorem zqs (φ : Nat) : z12 TV Tryz.prog 116 (zed φ) :=
 z1a (N := zdc Tryz.prog φ) (zy ⟨ztl φ, trivial⟩ trivial trivial) (zaf φ) Tryz.func116 (by kernel_rfl) (zrd φ) (zpy φ)
def zcq (φ : Nat) : H TV (RTup TT [.val 0]) := .x
def zg5 (P : Program) (φ : Nat) : Env TV := ⟨P, lk [(40, z4q φ), (115, z9o φ), (116, zed φ)], lk [], lk []⟩
theorem zu0 (φ : Nat) (a) : (zfz φ).F a = fnX TV (zg5 Tryz.prog φ) φ Tryz.f90 [30, 34] [.val 0] (zcq φ) a := by kernel_rfl
theorem zuf (φ : Nat) : fnO TV (zg5 Tryz.prog φ) φ Tryz.f90 [.val 0] (zcq φ) := by
 unfold fnO
 show obl _ _ _ _ _ _ _
 unfold zcq
 repeat' (first | exact trivial | (refine ⟨?_, ?_⟩) | (intro _) | kernel_rfl)
theorem zu7 (φ : Nat) : z12 TV Tryz.prog 90 (zfz φ) :=
 z1a (N := zg5 Tryz.prog φ) (zy ⟨zbp φ, zko φ, zqs φ, trivial⟩ trivial trivial) (zcq φ) Tryz.func90 (by kernel_rfl) (zu0 φ) (zuf φ)
def z6k (φ : Nat) : H TV (RTup TT [.val 5]) := (.seq .x (.seq .x (.seq (.seq .x (.body (.loop ⟨[(26, [(2, .ptr 0 0), (5, .own 1), (8, .val 38), (9, .val 0), (10, .val 0)])], [.box 36 [.val 30], .row 3 0]⟩ (fun n z => z2a φ n z.1 z.2.1 z.2.2.1 z.2.2.2.1 z.2.2.2.2.1) (fun zk8 => .x)))) .x)))
def za6 (P : Program) (φ : Nat) : Env TV := ⟨P, lk [(90, zfz φ)], lk [], lk []⟩
theorem zlo (φ : Nat) (a) : (z9m φ).F a = fnX TV (za6 Tryz.prog φ) φ Tryz.f66 [30, 38] [.val 5] (z6k φ) a := by kernel_rfl
theorem zkk (φ : Nat) : fnO TV (za6 Tryz.prog φ) φ Tryz.f66 [.val 5] (z6k φ) := by
 unfold fnO
 show obl _ _ _ _ _ _ _
 unfold z6k
 repeat' (first | exact trivial | (refine ⟨?_, ?_⟩) | (intro _) | kernel_rfl)
theorem zkh (φ : Nat) : z12 TV Tryz.prog 66 (z9m φ) :=
 z1a (N := za6 Tryz.prog φ) (zy ⟨zu7 φ, trivial⟩ trivial trivial) (z6k φ) Tryz.func66 (by kernel_rfl) (zlo φ) (zkk φ)
def z48 (φ : Nat) : H TV (RTup TT [.val 4]) := .x
def z65 (P : Program) (φ : Nat) : Env TV := ⟨P, lk [], lk [], lk []⟩
theorem zhb (φ : Nat) (a b) : (z6t φ).F a b = fnXc TV (z65 Tryz.prog φ) φ Tryz.f91 [0, 0] [.b (.val 34), .b (.val 35), .b (.val 0)] [.val 4] (z48 φ) a b := by kernel_rfl
theorem zh5 (φ : Nat) : fnO TV (z65 Tryz.prog φ) φ Tryz.f91 [.val 4] (z48 φ) := by
 unfold fnO
 show obl _ _ _ _ _ _ _
 unfold z48
 repeat' (first | exact trivial | (refine ⟨?_, ?_⟩) | (intro _) | kernel_rfl)
theorem zh2 (φ : Nat) : zud TV Tryz.prog 91 (z6t φ) :=
 zw1 (N := z65 Tryz.prog φ) (zy trivial trivial trivial) (z48 φ) Tryz.func91 (by kernel_rfl) (zhb φ) (zh5 φ)
theorem zdx (φ : Nat) (x14 : Item) (x15 : z7) (x16 : Int) : z00 (z23 φ x14 x15 x16) (z5r φ x14 x15 x16) := by
 unfold z23 z5r
 repeat' (first | exact z00.one | exact z00.nil | refine z00.cons ?_ ?_ | refine z00.ck ?_ | exact z00.same (n := 2) rfl | exact z00.same (n := 3) rfl | exact z00.same (n := 4) rfl | exact z00.same (n := 6) rfl | refine z00.bind fun _ => ?_)
def z5o (φ : Nat) : H TV (RTup TT [.val 39]) := (.seq .x (.seq .x (.seq .x (.seq (.seq .x (.body (.seq .x (.cond .x (.seq (.join ⟨[(68, [(7, .ptr 0 0), (8, .func 91 [.ptr 0 0, .ptr 1 0, .ptr 2 0]), (16, .val 0), (35, .val 2)])], [.box 59 [.val 34], .box 61 [.val 35], .box 3 [.val 0]]⟩ (fun z => z03 φ z.1 z.2.1 z.2.2.1 z.2.2.2.1 z.2.2.2.2.1) (.seq .x .x)) (.cond (.seq (.join ⟨[(68, [(10, .ptr 0 0), (11, .ptr 1 0)])], [.box 97 [.val 4], .box 97 [.val 4]]⟩ (fun z => z20 φ z.1 z.2.1) (.alt ⟨[(68, [(7, .ptr 0 0), (8, .func 91 [.ptr 0 0, .ptr 1 0, .ptr 2 0])])], [.box 59 [.val 34], .box 61 [.val 35], .box 3 [.val 0]]⟩ (fun z => z23 φ z.1 z.2.1 z.2.2.1) (fun z => z5r φ z.1 z.2.1 z.2.2.1))) .x) (.seq (.join ⟨[(68, [(7, .ptr 0 0), (8, .func 91 [.ptr 0 0, .ptr 1 0, .ptr 2 0]), (56, .val 2)])], [.box 59 [.val 34], .box 61 [.val 35], .box 3 [.val 0]]⟩ (fun z => z04 φ z.1 z.2.1 z.2.2.1 z.2.2.2.1) (.seq .x .x)) .x))))))) .x))))
def z8n (P : Program) (φ : Nat) : Env TV := ⟨P, lk [], lk [], lk [(91, z6t φ)]⟩
theorem zj8 (φ : Nat) (a) : (z8t φ).F a = fnX TV (z8n Tryz.prog φ) φ Tryz.f67 [30, 35, 0] [.val 39] (z5o φ) a := by kernel_rfl
theorem zj3 (φ : Nat) : fnO TV (z8n Tryz.prog φ) φ Tryz.f67 [.val 39] (z5o φ) := by
 unfold fnO
 show obl _ _ _ _ _ _ _
 unfold z5o
 repeat' (first | exact trivial | (refine ⟨?_, ?_⟩) | (intro _) | kernel_rfl | exact zdx ..)
theorem zjk (φ : Nat) : z12 TV Tryz.prog 67 (z8t φ) :=
 z1a (N := z8n Tryz.prog φ) (zy trivial trivial ⟨zh2 φ, trivial⟩) (z5o φ) Tryz.func67 (by kernel_rfl) (zj8 φ) (zj3 φ)
def z7w (φ : Nat) : H TV (RTup TT [.val 40]) := (.seq .x (.seq .x (.seq (.seq .x (.body (.loop ⟨[(63, [(1, .val 38), (2, .ptr 0 0), (5, .own 1), (19, .val 5), (20, .val 0), (21, .val 0)])], [.box 36 [.val 30], .nst 93 97 39 none]⟩ (fun n z => z29 φ n z.1 z.2.1 z.2.2.1 z.2.2.2.1 z.2.2.2.2.1 z.2.2.2.2.2.1) (fun zk10 => (.seq .x (.seq .x (.seq (.body (.seq .x (.seq .x (.seq .x (.cond (.seq .x (.foc (5, none) (9, none) .x)) .x))))) .x))))))) (.seq (.seq .x (.body (.loop ⟨[(63, [(5, .own 0), (51, .own 0), (52, .val 0), (53, .val 0)])], [.nst 93 97 39 none]⟩ (fun n z => z19 φ n z.1 z.2.1 z.2.2.1) (fun zk15 => (.seq .x (.seq .x (.seq (.body (.seq (.foc (5, none) (53, none) .x) (.seq .x (.ins 1 71 (.seq .x (.seq .x (.body (.loop ⟨[(48, [(0, .own 0), (2, .own 1), (6, .val 0), (7, .val 0)]), (63, [(5, .own 2), (51, .own 2), (52, .val 0), (53, .val 0)])], [.row 97 4, .map 0 2, .nst 93 97 39 (some 0)]⟩ (fun n z => z0o φ (fun a0 a1 a2 => zk15 (a0, a1, a2, ())) n z.1 z.2.1 z.2.2.1 z.2.2.2.1 z.2.2.2.2.1 z.2.2.2.2.2.1 z.2.2.2.2.2.2.1 z.2.2.2.2.2.2.2.1) (fun zk25 => (.seq .x (.seq .x (.seq (.body (.seq .x (.seq (.join ⟨[(48, [(0, .own 0), (2, .own 1), (3, .val 0), (6, .val 0), (7, .val 0)]), (63, [(5, .own 2), (51, .own 2), (52, .val 0), (53, .val 0)])], [.row 97 4, .map 0 2, .nst 93 97 39 (some 0)]⟩ (fun z => z2y φ (fun a0 a1 a2 a3 a4 a5 a6 a7 => zk25 (a0, a1, a2, a3, a4, a5, a6, a7, ())) z.1 z.2.1 z.2.2.1 z.2.2.2.1 z.2.2.2.2.1 z.2.2.2.2.2.1 z.2.2.2.2.2.2.1 z.2.2.2.2.2.2.2.1 z.2.2.2.2.2.2.2.2.1) (.seq .x .x)) .x))) .x)))))))) .x)))) .x))))))) .x))))
def zb7 (P : Program) (φ : Nat) : Env TV := ⟨P, lk [(66, z9m φ), (67, z8t φ)], lk [(68, zwn)], lk []⟩
theorem zmr (φ : Nat) (a) : (zba φ).F a = fnX TV (zb7 Tryz.prog φ) φ Tryz.f41 [30, 38] [.val 40] (z7w φ) a := by kernel_rfl
theorem zmo (φ : Nat) : fnO TV (zb7 Tryz.prog φ) φ Tryz.f41 [.val 40] (z7w φ) := by
 unfold fnO
 show obl _ _ _ _ _ _ _
 unfold z7w
 repeat' (first | exact trivial | (refine ⟨?_, ?_⟩) | (intro _) | kernel_rfl)
theorem zms (φ : Nat) : z12 TV Tryz.prog 41 (zba φ) :=
 z1a (N := zb7 Tryz.prog φ) (zy ⟨zkh φ, zjk φ, trivial⟩ ⟨y3m, trivial⟩ trivial) (z7w φ) Tryz.func41 (by kernel_rfl) (zmr φ) (zmo φ)
def z4r (φ : Nat) : H TV (RTup TT [.val 0, .val 0]) := (.seq .x (.seq (.ins 4 94 (.seq .x (.seq .x (.seq (.seq .x (.body (.loop ⟨[(77, [(2, .ptr 0 0), (4, .ptr 1 0), (19, .own 2), (20, .val 0), (21, .val 0)]), (30, [(1, .val 0), (2, .val 0), (3, .ptr 3 0)])], [.box 25 [.val 11], .box 186 [.own 4, .raw (.map none)], .row 3 0, .box 25 [.val 11], .row 62 5]⟩ (fun n z => z09 φ n z.1 z.2.1 z.2.2.1 z.2.2.2.1 z.2.2.2.2.1 z.2.2.2.2.2.1 z.2.2.2.2.2.2.1 z.2.2.2.2.2.2.2.1) (fun zk13 => .x)))) (.seq .x (.seq .x (.seq (.seq .x (.body (.loop ⟨[(77, [(4, .ptr 0 0), (8, .func 126 [.ptr 0 0, .ptr 1 0]), (44, .val 10), (45, .val 0), (46, .val 0)]), (30, [(1, .val 0), (2, .val 0), (3, .ptr 2 0)])], [.box 186 [.own 3, .own 4], .box 25 [.val 11], .box 25 [.val 11], .nst 62 3 5 none, .map 41 0]⟩ (fun n z => zk φ n z.1 z.2.1 z.2.2.1 z.2.2.2.1 z.2.2.2.2.1 z.2.2.2.2.2.1 z.2.2.2.2.2.2.1 z.2.2.2.2.2.2.2.1 z.2.2.2.2.2.2.2.2.1) (fun zk23 => (.seq .x (.seq .x (.seq (.body (.seq .x (.seq (.ins 6 126 (.seq .x (.seq .x (.seq (.join ⟨[(56, [(2, .val 0), (3, .ptr 0 0), (4, .ptr 1 0), (8, .ptr 2 0), (9, .val 0), (10, .val 2)]), (77, [(4, .ptr 0 0), (8, .func 126 [.ptr 0 0, .ptr 1 0]), (9, .val 0), (10, .ptr 3 0), (44, .val 10), (45, .val 0), (46, .val 0)]), (30, [(1, .val 0), (2, .val 0), (3, .ptr 4 0)])], [.box 186 [.own 5, .own 6], .box 25 [.val 11], .box 210 [.val 41], .box 112 [.val 9], .box 25 [.val 11], .nst 62 3 5 none, .map 41 0]⟩ (fun z => z2n φ (fun a0 a1 a2 a3 a4 a5 a6 a7 a8 => zk23 (a0, a1, a2, a3, a4, a5, a6, a7, a8, ())) z.1 z.2.1 z.2.2.1 z.2.2.2.1 z.2.2.2.2.1 z.2.2.2.2.2.1 z.2.2.2.2.2.2.1 z.2.2.2.2.2.2.2.1 z.2.2.2.2.2.2.2.2.1 z.2.2.2.2.2.2.2.2.2.1 z.2.2.2.2.2.2.2.2.2.2.1 z.2.2.2.2.2.2.2.2.2.2.2.1 z.2.2.2.2.2.2.2.2.2.2.2.2.1 z.2.2.2.2.2.2.2.2.2.2.2.2.2.1 z.2.2.2.2.2.2.2.2.2.2.2.2.2.2.1) (.seq .x (.cond (.foc (3, some 0) (0, none) .x) .x))) .x))) .x) (.ins 6 126 (.seq .x (.seq .x (.seq (.join ⟨[(56, [(2, .val 0), (3, .ptr 0 0), (4, .ptr 1 0), (8, .ptr 2 0), (9, .val 0), (10, .val 2)]), (77, [(4, .ptr 0 0), (8, .func 126 [.ptr 0 0, .ptr 1 0]), (44, .val 10), (45, .val 0), (46, .val 0)]), (30, [(1, .val 0), (2, .val 0), (3, .ptr 3 0)])], [.box 186 [.own 4, .own 5], .box 25 [.val 11], .box 210 [.val 41], .box 25 [.val 11], .nst 62 3 5 none, .map 41 0]⟩ (fun z => z2m φ (fun a0 a1 a2 a3 a4 a5 a6 a7 a8 => zk23 (a0, a1, a2, a3, a4, a5, a6, a7, a8, ())) z.1 z.2.1 z.2.2.1 z.2.2.2.1 z.2.2.2.2.1 z.2.2.2.2.2.1 z.2.2.2.2.2.2.1 z.2.2.2.2.2.2.2.1 z.2.2.2.2.2.2.2.2.1 z.2.2.2.2.2.2.2.2.2.1 z.2.2.2.2.2.2.2.2.2.2.1 z.2.2.2.2.2.2.2.2.2.2.2.1 z.2.2.2.2.2.2.2.2.2.2.2.2.1) (.seq .x (.cond (.foc (3, some 0) (0, none) .x) .x))) .x))) .x)))) .x))))))) (.seq (.seq .x (.body (.loop ⟨[(77, [(4, .ptr 0 0), (67, .own 1), (68, .val 0), (69, .val 0)]), (30, [(1, .val 0), (2, .val 0), (3, .ptr 2 0)])], [.box 186 [.own 1, .own 3], .nst 62 3 5 none, .box 25 [.val 11], .map 41 0]⟩ (fun n z => z0x φ n z.1 z.2.1 z.2.2.1 z.2.2.2.1 z.2.2.2.2.1 z.2.2.2.2.2.1 z.2.2.2.2.2.2.1) (fun zk75 => (.seq .x (.seq .x (.seq (.body (.seq (.foc (67, none) (69, none) .x) .x)) .x))))))) .x))))))) .x) (.seq .x (.seq (.seq (.ins 3 95 (.seq .x (.seq .x (.seq .x (.seq (.seq .x (.body (.loop ⟨[(118, [(2, .val 0), (3, .ptr 0 0), (4, .ptr 1 0), (7, .own 2), (8, .own 3), (23, .val 0), (24, .val 0)]), (30, [(2, .val 0)])], [.box 25 [.val 11], .box 186 [.own 4, .own 5], .row 3 0, .fix 4 2, .nst 62 3 5 none, .map 41 0]⟩ (fun n z => zw φ n z.1 z.2.1 z.2.2.1 z.2.2.2.1 z.2.2.2.2.1 z.2.2.2.2.2.1 z.2.2.2.2.2.2.1 z.2.2.2.2.2.2.2.1 z.2.2.2.2.2.2.2.2.1) (fun zk86 => .x)))) (.seq .x (.body (.loop ⟨[(118, [(3, .ptr 0 0), (4, .ptr 1 0), (7, .own 2), (8, .own 3)]), (30, [(2, .val 0)])], [.box 25 [.val 11], .box 186 [.own 4, .own 5], .row 3 0, .fix 4 2, .nst 62 3 5 none, .map 41 0]⟩ (fun n z => zo φ n z.1 z.2.1 z.2.2.1 z.2.2.2.1 z.2.2.2.2.1 z.2.2.2.2.2.1) (fun zk93 => (.body (.seq .x (.seq (.seq .x (.body (.loop ⟨[(118, [(3, .ptr 0 0), (4, .ptr 1 0), (7, .own 2), (8, .own 3), (10, .val 0), (35, .val 0), (36, .val 0)]), (30, [(2, .val 0)])], [.box 25 [.val 11], .box 186 [.own 4, .own 5], .row 3 0, .fix 4 2, .nst 62 3 5 none, .map 41 0]⟩ (fun n z => z0j φ (fun a0 a1 a2 a3 a4 a5 => zk93 (a0, a1, a2, a3, a4, a5, ())) n z.1 z.2.1 z.2.2.1 z.2.2.2.1 z.2.2.2.2.1 z.2.2.2.2.2.1 z.2.2.2.2.2.2.1 z.2.2.2.2.2.2.2.1 z.2.2.2.2.2.2.2.2.1) (fun zk103 => .x)))) (.seq .x (.seq .x (.seq (.foc (4, some 0) (10, none) .x) (.body (.loop ⟨[(118, [(3, .ptr 0 0), (4, .ptr 1 0), (7, .own 2), (8, .own 3), (10, .val 0), (78, .own 4), (79, .val 0), (80, .val 0)]), (30, [(2, .val 0)])], [.box 25 [.val 11], .box 186 [.own 5, .own 6], .row 3 0, .fix 4 2, .row 3 0, .nst 62 3 5 (some 4), .map 41 0]⟩ (fun n z => z0l φ (fun a0 a1 a2 a3 a4 a5 => zk93 (a0, a1, a2, a3, a4, a5, ())) n z.1 z.2.1 z.2.2.1 z.2.2.2.1 z.2.2.2.2.1 z.2.2.2.2.2.1 z.2.2.2.2.2.2.1 z.2.2.2.2.2.2.2.1 z.2.2.2.2.2.2.2.2.1 z.2.2.2.2.2.2.2.2.2.1 z.2.2.2.2.2.2.2.2.2.2.1) (fun zk115 => .x))))))))))))))))) .x) .x) .x))))
def z7d (P : Program) (φ : Nat) : Env TV := ⟨P, lk [(61, z6b φ)], lk [(127, zsl)], lk []⟩
theorem zii (φ : Nat) (a) : (z7m φ).F a = fnX TV (z7d Tryz.prog φ) φ Tryz.f72 [11, 0, 0] [.val 0, .val 0] (z4r φ) a := by kernel_rfl
theorem zhv (φ : Nat) : fnO TV (z7d Tryz.prog φ) φ Tryz.f72 [.val 0, .val 0] (z4r φ) := by
 unfold fnO
 show obl _ _ _ _ _ _ _
 unfold z4r
 repeat' (first | exact trivial | (refine ⟨?_, ?_⟩) | (intro _) | kernel_rfl)
theorem zil (φ : Nat) : z12 TV Tryz.prog 72 (z7m φ) :=
 z1a (N := z7d Tryz.prog φ) (zy ⟨ze3 φ, trivial⟩ ⟨y0e, trivial⟩ trivial) (z4r φ) Tryz.func72 (by kernel_rfl) (zii φ) (zhv φ)
def z83 (φ : Nat) : H TV (RTup TT [.val 0]) := .x
def zb6 (P : Program) (φ : Nat) : Env TV := ⟨P, lk [(72, z7m φ)], lk [], lk []⟩
theorem zmh (φ : Nat) (a) : (zb4 φ).F a = fnX TV (zb6 Tryz.prog φ) φ Tryz.f43 [11, 3, 3] [.val 0] (z83 φ) a := by kernel_rfl
theorem zmn (φ : Nat) : fnO TV (zb6 Tryz.prog φ) φ Tryz.f43 [.val 0] (z83 φ) := by
 unfold fnO
 show obl _ _ _ _ _ _ _
 unfold z83
 repeat' (first | exact trivial | (refine ⟨?_, ?_⟩) | (intro _) | kernel_rfl)
theorem zmk (φ : Nat) : z12 TV Tryz.prog 43 (zb4 φ) :=
 z1a (N := zb6 Tryz.prog φ) (zy ⟨zil φ, trivial⟩ trivial trivial) (z83 φ) Tryz.func43 (by kernel_rfl) (zmh φ) (zmn φ)
end Px
end
section
set_option linter.unusedVariables false
set_option linter.unusedSimpArgs false
set_option maxHeartbeats 4000000
set_option maxRecDepth 100000
namespace Px
open Go Go.RowKit Go.Proofs
def z8u (φ : Nat) : H TV (RTup TT [.val 48, .val 0]) := (.seq .x (.seq .x (.seq .x (.seq .x (.seq .x (.seq (.seq .x (.body (.loop ⟨[(257, [(2, .ptr 0 0), (4, .ptr 1 0), (7, .val 40), (8, .ptr 2 0), (9, .own 3), (40, .val 40), (41, .val 0), (42, .val 0)])], [.box 36 [.val 30], .box 68 [.val 0, .own 4, .own 5, .own 6], .box 91 [.val 0, .own 7, .own 8, .own 9], .map 0 0, .row 103 42, .row 73 44, .row 105 46, .row 103 42, .row 73 44, .row 105 46]⟩ (fun n z => z1s φ n z.1 z.2.1 z.2.2.1 z.2.2.2.1 z.2.2.2.2.1 z.2.2.2.2.2.1 z.2.2.2.2.2.2.1 z.2.2.2.2.2.2.2.1 z.2.2.2.2.2.2.2.2.1 z.2.2.2.2.2.2.2.2.2.1 z.2.2.2.2.2.2.2.2.2.2.1 z.2.2.2.2.2.2.2.2.2.2.2.1 z.2.2.2.2.2.2.2.2.2.2.2.2.1 z.2.2.2.2.2.2.2.2.2.2.2.2.2.1) (fun zk19 => (.seq .x (.seq .x (.seq (.body (.seq .x (.seq .x (.body (.loop ⟨[(257, [(2, .ptr 0 0), (4, .ptr 1 0), (7, .val 40), (8, .ptr 2 0), (9, .own 3), (40, .val 40), (41, .val 0), (42, .val 0), (46, .val 39), (47, .val 0), (48, .val 0)])], [.box 36 [.val 30], .box 68 [.val 0, .own 4, .own 5, .own 6], .box 91 [.val 0, .own 7, .own 8, .own 9], .map 0 0, .row 103 42, .row 73 44, .row 105 46, .row 103 42, .row 73 44, .row 105 46]⟩ (fun n z => z1w φ (fun a0 a1 a2 a3 a4 a5 a6 a7 a8 a9 a10 a11 a12 a13 => zk19 (a0, a1, a2, a3, a4, a5, a6, a7, a8, a9, a10, a11, a12, a13, ())) n z.1 z.2.1 z.2.2.1 z.2.2.2.1 z.2.2.2.2.1 z.2.2.2.2.2.1 z.2.2.2.2.2.2.1 z.2.2.2.2.2.2.2.1 z.2.2.2.2.2.2.2.2.1 z.2.2.2.2.2.2.2.2.2.1 z.2.2.2.2.2.2.2.2.2.2.1 z.2.2.2.2.2.2.2.2.2.2.2.1 z.2.2.2.2.2.2.2.2.2.2.2.2.1 z.2.2.2.2.2.2.2.2.2.2.2.2.2.1 z.2.2.2.2.2.2.2.2.2.2.2.2.2.2.1 z.2.2.2.2.2.2.2.2.2.2.2.2.2.2.2.1 z.2.2.2.2.2.2.2.2.2.2.2.2.2.2.2.2.1) (fun zk37 => .x)))))) .x))))))) (.seq (.seq .x (.body (.loop ⟨[(257, [(2, .ptr 0 0), (4, .ptr 1 0), (7, .val 40), (8, .ptr 2 0), (9, .own 3), (61, .val 22), (62, .val 0), (63, .val 0)])], [.box 36 [.val 30], .box 68 [.val 0, .own 4, .own 5, .own 6], .box 91 [.val 0, .own 7, .own 8, .own 9], .map 0 0, .row 103 42, .row 73 44, .row 105 46, .row 103 42, .row 73 44, .row 105 46]⟩ (fun n z => z14 φ n z.1 z.2.1 z.2.2.1 z.2.2.2.1 z.2.2.2.2.1 z.2.2.2.2.2.1 z.2.2.2.2.2.2.1 z.2.2.2.2.2.2.2.1 z.2.2.2.2.2.2.2.2.1 z.2.2.2.2.2.2.2.2.2.1 z.2.2.2.2.2.2.2.2.2.2.1 z.2.2.2.2.2.2.2.2.2.2.2.1 z.2.2.2.2.2.2.2.2.2.2.2.2.1 z.2.2.2.2.2.2.2.2.2.2.2.2.2.1) (fun zk52 => (.seq .x (.seq .x (.seq (.body (.seq .x (.seq .x (.seq .x (.cond (.seq .x (.seq (.ins 20 42 (.seq .x (.seq .x (.body (.loop ⟨[(39, [(0, .ptr 0 0), (4, .ptr 1 0), (8, .own 2), (9, .val 0), (10, .val 0)]), (257, [(2, .ptr 3 0), (4, .ptr 4 0), (7, .val 40), (8, .ptr 0 0), (9, .own 5), (61, .val 22), (62, .val 0), (63, .val 0), (82, .ptr 0 0), (83, .val 44), (84, .ptr 0 0), (85, .ptr 0 0), (86, .ptr 0 0), (87, .ptr 0 0), (88, .val 0), (89, .ptr 6 1), (90, .val 0), (91, .val 0), (92, .val 42), (93, .ptr 0 0), (94, .ptr 0 0), (95, .ptr 0 0), (96, .ptr 0 0), (97, .val 0), (98, .ptr 6 2), (99, .val 0), (100, .val 42), (101, .own 2)])], [.box 91 [.val 0, .own 7, .own 8, .own 9], .box 73 [.val 44], .row 103 42, .box 36 [.val 30], .box 68 [.val 0, .own 10, .own 11, .own 12], .map 0 0, .box 99 [.val 21], .row 103 42, .row 73 44, .row 105 46, .row 103 42, .row 73 44, .row 105 46]⟩ (fun n z => z2r φ (fun a0 a1 a2 a3 a4 a5 a6 a7 a8 a9 a10 a11 a12 a13 => zk52 (a0, a1, a2, a3, a4, a5, a6, a7, a8, a9, a10, a11, a12, a13, ())) n z.1 z.2.1 z.2.2.1 z.2.2.2.1 z.2.2.2.2.1 z.2.2.2.2.2.1 z.2.2.2.2.2.2.1 z.2.2.2.2.2.2.2.1 z.2.2.2.2.2.2.2.2.1 z.2.2.2.2.2.2.2.2.2.1 z.2.2.2.2.2.2.2.2.2.2.1 z.2.2.2.2.2.2.2.2.2.2.2.1 z.2.2.2.2.2.2.2.2.2.2.2.2.1 z.2.2.2.2.2.2.2.2.2.2.2.2.2.1 z.2.2.2.2.2.2.2.2.2.2.2.2.2.2.1 z.2.2.2.2.2.2.2.2.2.2.2.2.2.2.2.1 z.2.2.2.2.2.2.2.2.2.2.2.2.2.2.2.2.1 z.2.2.2.2.2.2.2.2.2.2.2.2.2.2.2.2.2.1 z.2.2.2.2.2.2.2.2.2.2.2.2.2.2.2.2.2.2.1 z.2.2.2.2.2.2.2.2.2.2.2.2.2.2.2.2.2.2.2.1 z.2.2.2.2.2.2.2.2.2.2.2.2.2.2.2.2.2.2.2.2.1 z.2.2.2.2.2.2.2.2.2.2.2.2.2.2.2.2.2.2.2.2.2.1 z.2.2.2.2.2.2.2.2.2.2.2.2.2.2.2.2.2.2.2.2.2.2.1 z.2.2.2.2.2.2.2.2.2.2.2.2.2.2.2.2.2.2.2.2.2.2.2.1 z.2.2.2.2.2.2.2.2.2.2.2.2.2.2.2.2.2.2.2.2.2.2.2.2.1 z.2.2.2.2.2.2.2.2.2.2.2.2.2.2.2.2.2.2.2.2.2.2.2.2.2.1 z.2.2.2.2.2.2.2.2.2.2.2.2.2.2.2.2.2.2.2.2.2.2.2.2.2.2.1) (fun zk80 => .x))))) .x) .x)) .x))))) .x))))))) (.seq (.seq .x (.body (.loop ⟨[(257, [(2, .ptr 0 0), (4, .ptr 1 0), (8, .ptr 2 0), (9, .own 3), (113, .val 40), (114, .val 0), (115, .val 0)])], [.box 36 [.val 30], .box 68 [.val 0, .own 4, .own 5, .own 6], .box 91 [.val 0, .own 7, .own 8, .own 9], .map 0 0, .row 103 42, .row 73 44, .row 105 46, .row 103 42, .row 73 44, .row 105 46]⟩ (fun n z => z1v φ n z.1 z.2.1 z.2.2.1 z.2.2.2.1 z.2.2.2.2.1 z.2.2.2.2.2.1 z.2.2.2.2.2.2.1 z.2.2.2.2.2.2.2.1 z.2.2.2.2.2.2.2.2.1 z.2.2.2.2.2.2.2.2.2.1 z.2.2.2.2.2.2.2.2.2.2.1 z.2.2.2.2.2.2.2.2.2.2.2.1 z.2.2.2.2.2.2.2.2.2.2.2.2.1) (fun zk94 => (.seq .x (.seq .x (.seq (.body (.seq .x (.seq .x (.body (.loop ⟨[(257, [(2, .ptr 0 0), (4, .ptr 1 0), (8, .ptr 2 0), (9, .own 3), (19, .val 39), (113, .val 40), (114, .val 0), (115, .val 0), (119, .val 39), (120, .val 0), (121, .val 0)])], [.box 36 [.val 30], .box 68 [.val 0, .own 4, .own 5, .own 6], .box 91 [.val 0, .own 7, .own 8, .own 9], .map 0 0, .row 103 42, .row 73 44, .row 105 46, .row 103 42, .row 73 44, .row 105 46]⟩ (fun n z => z0c φ (fun a0 a1 a2 a3 a4 a5 a6 a7 a8 a9 a10 a11 a12 => zk94 (a0, a1, a2, a3, a4, a5, a6, a7, a8, a9, a10, a11, a12, ())) n z.1 z.2.1 z.2.2.1 z.2.2.2.1 z.2.2.2.2.1 z.2.2.2.2.2.1 z.2.2.2.2.2.2.1 z.2.2.2.2.2.2.2.1 z.2.2.2.2.2.2.2.2.1 z.2.2.2.2.2.2.2.2.2.1 z.2.2.2.2.2.2.2.2.2.2.1 z.2.2.2.2.2.2.2.2.2.2.2.1 z.2.2.2.2.2.2.2.2.2.2.2.2.1 z.2.2.2.2.2.2.2.2.2.2.2.2.2.1 z.2.2.2.2.2.2.2.2.2.2.2.2.2.2.1 z.2.2.2.2.2.2.2.2.2.2.2.2.2.2.2.1 z.2.2.2.2.2.2.2.2.2.2.2.2.2.2.2.2.1) (fun zk112 => (.seq .x (.seq .x (.seq (.body (.seq .x (.seq .x (.seq .x (.seq .x (.seq (.join ⟨[(257, [(2, .ptr 0 0), (4, .ptr 1 0), (8, .ptr 2 0), (9, .own 3), (19, .val 39), (20, .val 0), (21, .ptr 4 0), (22, .val 0), (113, .val 40), (114, .val 0), (115, .val 0), (119, .val 39), (120, .val 0), (121, .val 0)])], [.box 36 [.val 30], .box 68 [.val 0, .own 5, .own 6, .own 7], .box 91 [.val 0, .own 8, .own 9, .own 10], .map 0 0, .box 97 [.val 4], .row 103 42, .row 73 44, .row 105 46, .row 103 42, .row 73 44, .row 105 46]⟩ (fun z => z0p φ (fun a0 a1 a2 a3 a4 a5 a6 a7 a8 a9 a10 a11 a12 a13 a14 a15 a16 => zk112 (a0, a1, a2, a3, a4, a5, a6, a7, a8, a9, a10, a11, a12, a13, a14, a15, a16, ())) z.1 z.2.1 z.2.2.1 z.2.2.2.1 z.2.2.2.2.1 z.2.2.2.2.2.1 z.2.2.2.2.2.2.1 z.2.2.2.2.2.2.2.1 z.2.2.2.2.2.2.2.2.1 z.2.2.2.2.2.2.2.2.2.1 z.2.2.2.2.2.2.2.2.2.2.1 z.2.2.2.2.2.2.2.2.2.2.2.1 z.2.2.2.2.2.2.2.2.2.2.2.2.1 z.2.2.2.2.2.2.2.2.2.2.2.2.2.1 z.2.2.2.2.2.2.2.2.2.2.2.2.2.2.1 z.2.2.2.2.2.2.2.2.2.2.2.2.2.2.2.1 z.2.2.2.2.2.2.2.2.2.2.2.2.2.2.2.2.1 z.2.2.2.2.2.2.2.2.2.2.2.2.2.2.2.2.2.1 z.2.2.2.2.2.2.2.2.2.2.2.2.2.2.2.2.2.2.1 z.2.2.2.2.2.2.2.2.2.2.2.2.2.2.2.2.2.2.2.1) (.seq .x (.cond (.ins 10 42 (.seq .x (.seq .x (.body (.loop ⟨[(39, [(0, .ptr 0 0), (4, .ptr 1 0), (8, .own 2), (9, .val 0), (10, .val 0)]), (257, [(2, .ptr 3 0), (4, .ptr 4 0), (8, .ptr 0 0), (9, .own 5), (19, .val 39), (20, .val 0), (21, .ptr 6 0), (22, .val 0), (113, .val 40), (114, .val 0), (115, .val 0), (119, .val 39), (120, .val 0), (121, .val 0)])], [.box 91 [.val 0, .own 7, .own 8, .own 9], .box 73 [.val 44], .row 103 42, .box 36 [.val 30], .box 68 [.val 0, .own 10, .own 11, .own 12], .map 0 0, .box 97 [.val 4], .row 103 42, .row 73 44, .row 105 46, .row 103 42, .row 73 44, .row 105 46]⟩ (fun n z => z2b φ (fun a0 a1 a2 a3 a4 a5 a6 a7 a8 a9 a10 a11 a12 a13 a14 a15 a16 => zk112 (a0, a1, a2, a3, a4, a5, a6, a7, a8, a9, a10, a11, a12, a13, a14, a15, a16, ())) n z.1 z.2.1 z.2.2.1 z.2.2.2.1 z.2.2.2.2.1 z.2.2.2.2.2.1 z.2.2.2.2.2.2.1 z.2.2.2.2.2.2.2.1 z.2.2.2.2.2.2.2.2.1 z.2.2.2.2.2.2.2.2.2.1 z.2.2.2.2.2.2.2.2.2.2.1 z.2.2.2.2.2.2.2.2.2.2.2.1 z.2.2.2.2.2.2.2.2.2.2.2.2.1 z.2.2.2.2.2.2.2.2.2.2.2.2.2.1 z.2.2.2.2.2.2.2.2.2.2.2.2.2.2.1 z.2.2.2.2.2.2.2.2.2.2.2.2.2.2.2.1 z.2.2.2.2.2.2.2.2.2.2.2.2.2.2.2.2.1 z.2.2.2.2.2.2.2.2.2.2.2.2.2.2.2.2.2.1 z.2.2.2.2.2.2.2.2.2.2.2.2.2.2.2.2.2.2.1 z.2.2.2.2.2.2.2.2.2.2.2.2.2.2.2.2.2.2.2.1 z.2.2.2.2.2.2.2.2.2.2.2.2.2.2.2.2.2.2.2.2.1 z.2.2.2.2.2.2.2.2.2.2.2.2.2.2.2.2.2.2.2.2.2.1 z.2.2.2.2.2.2.2.2.2.2.2.2.2.2.2.2.2.2.2.2.2.2.1 z.2.2.2.2.2.2.2.2.2.2.2.2.2.2.2.2.2.2.2.2.2.2.2.1) (fun zk195 => .x))))) .x) (.seq .x (.ins 16 42 (.seq .x (.seq .x (.body (.loop ⟨[(39, [(0, .ptr 0 0), (4, .ptr 1 0), (8, .own 2), (9, .val 0), (10, .val 0)]), (257, [(2, .ptr 3 0), (4, .ptr 4 0), (8, .ptr 0 0), (9, .own 5), (19, .val 39), (20, .val 0), (21, .ptr 6 0), (22, .val 0), (113, .val 40), (114, .val 0), (115, .val 0), (119, .val 39), (120, .val 0), (121, .val 0)])], [.box 91 [.val 0, .own 7, .own 8, .own 9], .box 73 [.val 44], .row 103 42, .box 36 [.val 30], .box 68 [.val 0, .own 10, .own 11, .own 12], .map 0 0, .box 97 [.val 4], .row 103 42, .row 73 44, .row 105 46, .row 103 42, .row 73 44, .row 105 46]⟩ (fun n z => z2f φ (fun a0 a1 a2 a3 a4 a5 a6 a7 a8 a9 a10 a11 a12 a13 a14 a15 a16 => zk112 (a0, a1, a2, a3, a4, a5, a6, a7, a8, a9, a10, a11, a12, a13, a14, a15, a16, ())) n z.1 z.2.1 z.2.2.1 z.2.2.2.1 z.2.2.2.2.1 z.2.2.2.2.2.1 z.2.2.2.2.2.2.1 z.2.2.2.2.2.2.2.1 z.2.2.2.2.2.2.2.2.1 z.2.2.2.2.2.2.2.2.2.1 z.2.2.2.2.2.2.2.2.2.2.1 z.2.2.2.2.2.2.2.2.2.2.2.1 z.2.2.2.2.2.2.2.2.2.2.2.2.1 z.2.2.2.2.2.2.2.2.2.2.2.2.2.1 z.2.2.2.2.2.2.2.2.2.2.2.2.2.2.1 z.2.2.2.2.2.2.2.2.2.2.2.2.2.2.2.1 z.2.2.2.2.2.2.2.2.2.2.2.2.2.2.2.2.1 z.2.2.2.2.2.2.2.2.2.2.2.2.2.2.2.2.2.1 z.2.2.2.2.2.2.2.2.2.2.2.2.2.2.2.2.2.2.1 z.2.2.2.2.2.2.2.2.2.2.2.2.2.2.2.2.2.2.2.1 z.2.2.2.2.2.2.2.2.2.2.2.2.2.2.2.2.2.2.2.2.1 z.2.2.2.2.2.2.2.2.2.2.2.2.2.2.2.2.2.2.2.2.2.1 z.2.2.2.2.2.2.2.2.2.2.2.2.2.2.2.2.2.2.2.2.2.2.1 z.2.2.2.2.2.2.2.2.2.2.2.2.2.2.2.2.2.2.2.2.2.2.2.1) (fun zk220 => .x))))) .x))))) (.seq .x (.cond (.seq .x (.ins 19 42 (.seq .x (.seq .x (.body (.loop ⟨[(39, [(0, .ptr 0 0), (4, .ptr 1 0), (8, .own 2), (9, .val 0), (10, .val 0)]), (257, [(2, .ptr 3 0), (4, .ptr 4 0), (8, .ptr 0 0), (9, .own 5), (19, .val 39), (113, .val 40), (114, .val 0), (115, .val 0), (119, .val 39), (120, .val 0), (121, .val 0), (215, .ptr 0 0), (216, .ptr 6 2), (217, .val 1), (218, .ptr 7 0), (219, .ptr 7 2), (220, .val 1), (221, .val 44), (222, .val 0), (223, .val 0), (224, .val 0), (225, .ptr 3 0), (226, .val 11), (227, .val 3), (228, .ptr 7 0), (229, .val 3), (230, .val 0), (231, .val 0), (232, .val 42), (233, .own 2)])], [.box 91 [.val 0, .own 8, .own 9, .own 10], .box 73 [.val 44], .row 103 42, .box 36 [.val 30], .box 68 [.val 0, .own 11, .own 12, .own 13], .map 0 0, .box 95 [.val 3], .box 97 [.val 4], .row 103 42, .row 73 44, .row 105 46, .row 103 42, .row 73 44, .row 105 46]⟩ (fun n z => z2d φ (fun a0 a1 a2 a3 a4 a5 a6 a7 a8 a9 a10 a11 a12 a13 a14 a15 a16 => zk112 (a0, a1, a2, a3, a4, a5, a6, a7, a8, a9, a10, a11, a12, a13, a14, a15, a16, ())) n z.1 z.2.1 z.2.2.1 z.2.2.2.1 z.2.2.2.2.1 z.2.2.2.2.2.1 z.2.2.2.2.2.2.1 z.2.2.2.2.2.2.2.1 z.2.2.2.2.2.2.2.2.1 z.2.2.2.2.2.2.2.2.2.1 z.2.2.2.2.2.2.2.2.2.2.1 z.2.2.2.2.2.2.2.2.2.2.2.1 z.2.2.2.2.2.2.2.2.2.2.2.2.1 z.2.2.2.2.2.2.2.2.2.2.2.2.2.1 z.2.2.2.2.2.2.2.2.2.2.2.2.2.2.1 z.2.2.2.2.2.2.2.2.2.2.2.2.2.2.2.1 z.2.2.2.2.2.2.2.2.2.2.2.2.2.2.2.2.1 z.2.2.2.2.2.2.2.2.2.2.2.2.2.2.2.2.2.1 z.2.2.2.2.2.2.2.2.2.2.2.2.2.2.2.2.2.2.1 z.2.2.2.2.2.2.2.2.2.2.2.2.2.2.2.2.2.2.2.1 z.2.2.2.2.2.2.2.2.2.2.2.2.2.2.2.2.2.2.2.2.1 z.2.2.2.2.2.2.2.2.2.2.2.2.2.2.2.2.2.2.2.2.2.1 z.2.2.2.2.2.2.2.2.2.2.2.2.2.2.2.2.2.2.2.2.2.2.1 z.2.2.2.2.2.2.2.2.2.2.2.2.2.2.2.2.2.2.2.2.2.2.2.1 z.2.2.2.2.2.2.2.2.2.2.2.2.2.2.2.2.2.2.2.2.2.2.2.2.1 z.2.2.2.2.2.2.2.2.2.2.2.2.2.2.2.2.2.2.2.2.2.2.2.2.2.1 z.2.2.2.2.2.2.2.2.2.2.2.2.2.2.2.2.2.2.2.2.2.2.2.2.2.2.1 z.2.2.2.2.2.2.2.2.2.2.2.2.2.2.2.2.2.2.2.2.2.2.2.2.2.2.2.1 z.2.2.2.2.2.2.2.2.2.2.2.2.2.2.2.2.2.2.2.2.2.2.2.2.2.2.2.2.1 z.2.2.2.2.2.2.2.2.2.2.2.2.2.2.2.2.2.2.2.2.2.2.2.2.2.2.2.2.2.1 z.2.2.2.2.2.2.2.2.2.2.2.2.2.2.2.2.2.2.2.2.2.2.2.2.2.2.2.2.2.2.1 z.2.2.2.2.2.2.2.2.2.2.2.2.2.2.2.2.2.2.2.2.2.2.2.2.2.2.2.2.2.2.2.1 z.2.2.2.2.2.2.2.2.2.2.2.2.2.2.2.2.2.2.2.2.2.2.2.2.2.2.2.2.2.2.2.2.1 z.2.2.2.2.2.2.2.2.2.2.2.2.2.2.2.2.2.2.2.2.2.2.2.2.2.2.2.2.2.2.2.2.2.1 z.2.2.2.2.2.2.2.2.2.2.2.2.2.2.2.2.2.2.2.2.2.2.2.2.2.2.2.2.2.2.2.2.2.2.1) (fun zk170 => .x))))) .x)) .x)))))))) .x))))))))) .x))))))) .x))))))))
def zcr (P : Program) (φ : Nat) : Env TV := ⟨P, lk [(40, z4q φ), (41, zba φ), (43, zb4 φ)], lk [], lk []⟩
theorem zo4 (φ : Nat) (a) : (zc7 φ).F a = fnX TV (zcr Tryz.prog φ) φ Tryz.f24 [30, 38] [.val 48, .val 0] (z8u φ) a := by kernel_rfl
theorem zob (φ : Nat) : fnO TV (zcr Tryz.prog φ) φ Tryz.f24 [.val 48, .val 0] (z8u φ) := by
 unfold fnO
 show obl _ _ _ _ _ _ _
 unfold z8u
 repeat' (first | exact trivial | (refine ⟨?_, ?_⟩) | (intro _) | kernel_rfl)
theorem zp6 (φ : Nat) : z12 TV Tryz.prog 24 (zc7 φ) :=
 z1a (N := zcr Tryz.prog φ) (zy ⟨zbp φ, zms φ, zmk φ, trivial⟩ trivial trivial) (z8u φ) Tryz.func24 (by kernel_rfl) (zo4 φ) (zob φ)
def zal (φ : Nat) : H TV (RTup TT [.val 0]) := (.seq .x (.seq .x (.seq .x (.seq (.seq .x (.body (.loop ⟨[(48, [(0, .val 0), (16, .val 43), (17, .val 0), (18, .val 0)])], []⟩ (fun n z => z4k φ n z.1 z.2.1 z.2.2.1 z.2.2.2.1) (fun zk7 => .x)))) .x))))
def zei (P : Program) (φ : Nat) : Env TV := ⟨P, lk [], lk [], lk []⟩
theorem zr3 (φ : Nat) (a) : (zd9 φ).F a = fnX TV (zei Tryz.prog φ) φ Tryz.f44 [0, 43] [.val 0] (zal φ) a := by kernel_rfl
theorem zqd (φ : Nat) : fnO TV (zei Tryz.prog φ) φ Tryz.f44 [.val 0] (zal φ) := by
 unfold fnO
 show obl _ _ _ _ _ _ _
 unfold zal
 repeat' (first | exact trivial | (refine ⟨?_, ?_⟩) | (intro _) | kernel_rfl)
theorem zrm (φ : Nat) : z12 TV Tryz.prog 44 (zd9 φ) :=
 z1a (N := zei Tryz.prog φ) (zy trivial trivial trivial) (zal φ) Tryz.func44 (by kernel_rfl) (zr3 φ) (zqd φ)
def zag (φ : Nat) : H TV (RTup TT [.val 50, .val 50]) := .x
def ze8 (P : Program) (φ : Nat) : Env TV := ⟨P, lk [], lk [], lk []⟩
theorem zs8 (φ : Nat) (a) : (ze9 φ).F a = fnX TV (ze8 Tryz.prog φ) φ Tryz.f128 [50, 50] [.val 50, .val 50] (zag φ) a := by kernel_rfl
theorem zrl (φ : Nat) : fnO TV (ze8 Tryz.prog φ) φ Tryz.f128 [.val 50, .val 50] (zag φ) := by
 unfold fnO
 show obl _ _ _ _ _ _ _
 unfold zag
 repeat' (first | exact trivial | (refine ⟨?_, ?_⟩) | (intro _) | kernel_rfl)
theorem zqq (φ : Nat) : z12 TV Tryz.prog 128 (ze9 φ) :=
 z1a (N := ze8 Tryz.prog φ) (zy trivial trivial trivial) (zag φ) Tryz.func128 (by kernel_rfl) (zs8 φ) (zrl φ)
def zeo (φ : Nat) : H TV (RTup TT [.val 6, .val 6]) := .x
def zi5 (P : Program) (φ : Nat) : Env TV := ⟨P, lk [(128, ze9 φ), (129, zah φ)], lk [], lk []⟩
theorem zy1 (φ : Nat) (a) : (zhy φ).F a = fnX TV (zi5 Tryz.prog φ) φ Tryz.f96 [6, 6] [.val 6, .val 6] (zeo φ) a := by kernel_rfl
theorem zxs (φ : Nat) : fnO TV (zi5 Tryz.prog φ) φ Tryz.f96 [.val 6, .val 6] (zeo φ) := by
 unfold fnO
 show obl _ _ _ _ _ _ _
 unfold zeo
 repeat' (first | exact trivial | (refine ⟨?_, ?_⟩) | (intro _) | kernel_rfl)
theorem zy3 (φ : Nat) : z12 TV Tryz.prog 96 (zhy φ) :=
 z1a (N := zi5 Tryz.prog φ) (zy ⟨zqq φ, ziw φ, trivial⟩ trivial trivial) (zeo φ) Tryz.func96 (by kernel_rfl) (zy1 φ) (zxs φ)
def z6n (φ : Nat) : H TV (RTup TT [.row 3 0]) := (.seq .x (.seq .x (.seq .x (.seq .x (.seq .x (.seq .x (.seq (.body (.loop ⟨[(48, [(7, .own 0), (8, .val 0)])], [.row 3 0]⟩ (fun n z => z3v φ n z.1 z.2.1) (fun zk6 => .x))) .x)))))))
def z9w (P : Program) (φ : Nat) : Env TV := ⟨P, lk [(96, zhy φ)], lk [], lk []⟩
theorem zm7 (φ : Nat) (a) : (z9u φ).F a = fnX TV (z9w Tryz.prog φ) φ Tryz.f73 [5, 0] [.row 3 0] (z6n φ) a := by kernel_rfl
theorem zkz (φ : Nat) : fnO TV (z9w Tryz.prog φ) φ Tryz.f73 [.row 3 0] (z6n φ) := by
 unfold fnO
 show obl _ _ _ _ _ _ _
 unfold z6n
 repeat' (first | exact trivial | (refine ⟨?_, ?_⟩) | (intro _) | kernel_rfl)
theorem zlu (φ : Nat) : z12 TV Tryz.prog 73 (z9u φ) :=
 z1a (N := z9w Tryz.prog φ) (zy ⟨zy3 φ, trivial⟩ trivial trivial) (z6n φ) Tryz.func73 (by kernel_rfl) (zm7 φ) (zkz φ)
theorem zgl (φ : Nat) (k24 : ((List za) -> Int -> Int -> Int -> (List za) -> Int -> Int -> (List Int) -> (List Int) -> Option ((List Int) × (List Int) × Int × Unit))) (x25 : Int) (x26 : Int) (x27 : (List za)) (x28 : Int) (x29 : Int) (x30 : Int) (x31 : Int) (x32 : (List za)) (x33 : Int) (x34 : Int) (x35 : za) (x36 : (List Int)) (x37 : (List Int)) : z00 (z4e φ k24 x25 x26 x27 x28 x29 x30 x31 x32 x33 x34 x35 x36 x37) (z8h φ k24 x25 x26 x27 x28 x29 x30 x31 x32 x33 x34 x35 x36 x37) := by
 unfold z4e z8h
 repeat' (first | exact z00.one | exact z00.nil | refine z00.cons ?_ ?_ | refine z00.ck ?_ | exact z00.same (n := 2) rfl | exact z00.same (n := 3) rfl | exact z00.same (n := 4) rfl | exact z00.same (n := 6) rfl | refine z00.bind fun _ => ?_)
theorem zgz (φ : Nat) (x39 : Int) (x40 : (List Int)) (x41 : (List Int)) : z00 (z9z φ x39 x40 x41) (zd0 φ x39 x40 x41) := by
 unfold z9z zd0
 repeat' (first | exact z00.one | exact z00.nil | refine z00.cons ?_ ?_ | refine z00.ck ?_ | exact z00.same (n := 2) rfl | exact z00.same (n := 3) rfl | exact z00.same (n := 4) rfl | exact z00.same (n := 6) rfl | refine z00.bind fun _ => ?_)
theorem zgq (φ : Nat) (x43 : Int) (x44 : (List Int)) (x45 : (List Int)) : z00 (z6p φ x43 x44 x45) (z8j φ x43 x44 x45) := by
 unfold z6p z8j
 repeat' (first | exact z00.one | exact z00.nil | refine z00.cons ?_ ?_ | refine z00.ck ?_ | exact z00.same (n := 2) rfl | exact z00.same (n := 3) rfl | exact z00.same (n := 4) rfl | exact z00.same (n := 6) rfl | refine z00.bind fun _ => ?_)
theorem zgk (φ : Nat) (x47 : Int) (x48 : (List za)) (x49 : (List Int)) (x50 : (List Int)) : z00 (z4b φ x47 x48 x49 x50) (z8m φ x47 x48 x49 x50) := by
 unfold z4b z8m
 constructor
 intro r h
 obtain ⟨hp, h⟩ := ze4 h
 obtain ⟨y, hy, hk⟩ := bind_some h
 exact ⟨[some r, some r, some r], by simp [z8 hp, hy, catL, cat2]; exact hk, by simp⟩
def z96 (φ : Nat) : H TV (RTup TT [.val 5, .val 5, .val 0]) := (.seq .x (.seq (.join ⟨[(19, [(0, .val 0), (1, .val 43), (4, .ptr 0 0), (5, .ptr 1 0)])], [.box 62 [.own 2], .box 62 [.own 3], .row 3 0, .row 3 0]⟩ (fun z => z3z φ z.1 z.2.1 z.2.2.1 z.2.2.2.1) (.alt ⟨[(19, [(0, .val 0), (1, .val 43), (4, .ptr 0 0), (5, .ptr 1 0)])], [.box 62 [.own 2], .box 62 [.own 3], .row 3 0, .row 3 0]⟩ (fun z => z4b φ z.1 z.2.1 z.2.2.1 z.2.2.2.1) (fun z => z8m φ z.1 z.2.1 z.2.2.1 z.2.2.2.1))) (.seq (.ins 3 74 (.seq .x (.body (.seq .x (.seq .x (.seq (.seq .x (.body (.loop ⟨[(30, [(1, .val 43), (2, .func 75 [.ptr 0 0, .ptr 1 0]), (7, .val 0), (10, .val 0), (11, .val 0)]), (19, [(4, .ptr 0 0), (5, .ptr 1 0)])], [.box 62 [.own 2], .box 62 [.own 3], .row 3 0, .row 3 0]⟩ (fun n z => z3j φ n z.1 z.2.1 z.2.2.1 z.2.2.2.1 z.2.2.2.2.1 z.2.2.2.2.2.1) (fun zk14 => (.seq .x (.seq .x (.seq (.body (.seq .x (.seq (.seq .x (.body (.loop ⟨[(30, [(1, .val 43), (2, .func 75 [.ptr 0 0, .ptr 1 0]), (7, .val 0), (10, .val 0), (11, .val 0), (13, .val 43), (14, .val 0), (15, .val 0)]), (19, [(4, .ptr 0 0), (5, .ptr 1 0)])], [.box 62 [.own 2], .box 62 [.own 3], .row 3 0, .row 3 0]⟩ (fun n z => z1u φ (fun a0 a1 a2 a3 a4 a5 => zk14 (a0, a1, a2, a3, a4, a5, ())) n z.1 z.2.1 z.2.2.1 z.2.2.2.1 z.2.2.2.2.1 z.2.2.2.2.2.1 z.2.2.2.2.2.2.1 z.2.2.2.2.2.2.2.1 z.2.2.2.2.2.2.2.2.1) (fun zk24 => (.seq .x (.seq .x (.seq (.body (.seq .x (.seq (.ins 3 75 (.seq .x (.seq (.seq .x (.seq .x (.cond (.seq (.alt ⟨[(33, [(0, .val 0), (2, .ptr 0 0), (3, .ptr 1 0), (5, .ptr 2 0), (7, .val 0)]), (30, [(1, .val 43), (2, .func 75 [.ptr 0 0, .ptr 1 0]), (7, .val 0), (8, .val 0), (10, .val 0), (11, .val 0), (13, .val 43), (14, .val 0), (15, .val 0)]), (19, [(4, .ptr 0 0), (5, .ptr 1 0)])], [.box 62 [.own 3], .box 62 [.own 4], .box 103 [.val 42], .row 3 0, .row 3 0]⟩ (fun z => z4e φ (fun a0 a1 a2 a3 a4 a5 a6 a7 a8 => zk24 (a0, a1, a2, a3, a4, a5, a6, a7, a8, ())) z.1 z.2.1 z.2.2.1 z.2.2.2.1 z.2.2.2.2.1 z.2.2.2.2.2.1 z.2.2.2.2.2.2.1 z.2.2.2.2.2.2.2.1 z.2.2.2.2.2.2.2.2.1 z.2.2.2.2.2.2.2.2.2.1 z.2.2.2.2.2.2.2.2.2.2.1 z.2.2.2.2.2.2.2.2.2.2.2.1 z.2.2.2.2.2.2.2.2.2.2.2.2.1) (fun z => z8h φ (fun a0 a1 a2 a3 a4 a5 a6 a7 a8 => zk24 (a0, a1, a2, a3, a4, a5, a6, a7, a8, ())) z.1 z.2.1 z.2.2.1 z.2.2.2.1 z.2.2.2.2.1 z.2.2.2.2.2.1 z.2.2.2.2.2.2.1 z.2.2.2.2.2.2.2.1 z.2.2.2.2.2.2.2.2.1 z.2.2.2.2.2.2.2.2.2.1 z.2.2.2.2.2.2.2.2.2.2.1 z.2.2.2.2.2.2.2.2.2.2.2.1 z.2.2.2.2.2.2.2.2.2.2.2.2.1)) .x) .x))) .x)) .x) .x))) .x))))))) .x))) .x))))))) .x))))) .x) (.seq (.alt ⟨[(19, [(4, .ptr 0 0), (5, .ptr 1 0), (6, .val 0)])], [.box 62 [.own 2], .box 62 [.own 3], .row 3 0, .row 3 0]⟩ (fun z => z6p φ z.1 z.2.1 z.2.2.1) (fun z => z8j φ z.1 z.2.1 z.2.2.1)) .x))))
def zbu (P : Program) (φ : Nat) : Env TV := ⟨P, lk [(73, z9u φ)], lk [], lk []⟩
theorem zpp (φ : Nat) (a) : (zce φ).F a = fnX TV (zbu Tryz.prog φ) φ Tryz.f45 [0, 43] [.val 5, .val 5, .val 0] (z96 φ) a := by kernel_rfl
theorem zoc (φ : Nat) : fnO TV (zbu Tryz.prog φ) φ Tryz.f45 [.val 5, .val 5, .val 0] (z96 φ) := by
 unfold fnO
 show obl _ _ _ _ _ _ _
 unfold z96
 repeat' (first | exact trivial | (refine ⟨?_, ?_⟩) | (intro _) | kernel_rfl | exact zgl .. | exact zgz .. | exact zgq .. | exact zgk ..)
theorem zoy (φ : Nat) : z12 TV Tryz.prog 45 (zce φ) :=
 z1a (N := zbu Tryz.prog φ) (zy ⟨zlu φ, trivial⟩ trivial trivial) (z96 φ) Tryz.func45 (by kernel_rfl) (zpp φ) (zoc φ)
def zaz (φ : Nat) : H TV (RTup TT [.val 5, .val 0]) := .x
def zdu (P : Program) (φ : Nat) : Env TV := ⟨P, lk [(44, zd9 φ), (45, zce φ)], lk [], lk []⟩
theorem zqr (φ : Nat) (a) : (zdk φ).F a = fnX TV (zdu Tryz.prog φ) φ Tryz.f25 [0, 43] [.val 5, .val 0] (zaz φ) a := by kernel_rfl
theorem zqx (φ : Nat) : fnO TV (zdu Tryz.prog φ) φ Tryz.f25 [.val 5, .val 0] (zaz φ) := by
 unfold fnO
 show obl _ _ _ _ _ _ _
 unfold zaz
 repeat' (first | exact trivial | (refine ⟨?_, ?_⟩) | (intro _) | kernel_rfl)
theorem zro (φ : Nat) : z12 TV Tryz.prog 25 (zdk φ) :=
 z1a (N := zdu Tryz.prog φ) (zy ⟨zrm φ, zoy φ, trivial⟩ trivial trivial) (zaz φ) Tryz.func25 (by kernel_rfl) (zqr φ) (zqx φ)
def z30 (φ : Nat) : H TV (RTup TT [.val 2, .val 0]) := .x
def z4g (P : Program) (φ : Nat) : Env TV := ⟨P, lk [(24, zc7 φ), (25, zdk φ)], lk [], lk []⟩
theorem zdf (φ : Nat) (a) : (z0g φ).F a = fnX TV (z4g Tryz.prog φ) φ Tryz.f12 [30, 38] [.val 2, .val 0] (z30 φ) a := by kernel_rfl
theorem ze2 (φ : Nat) : fnO TV (z4g Tryz.prog φ) φ Tryz.f12 [.val 2, .val 0] (z30 φ) := by
 unfold fnO
 show obl _ _ _ _ _ _ _
 unfold z30
 repeat' (first | exact trivial | (refine ⟨?_, ?_⟩) | (intro _) | kernel_rfl)
theorem z1t (φ : Nat) : z12 TV Tryz.prog 12 (z0g φ) :=
 z1a (N := z4g Tryz.prog φ) (zy ⟨zp6 φ, zro φ, trivial⟩ trivial trivial) (z30 φ) Tryz.func12 (by kernel_rfl) (zdf φ) (ze2 φ)
def z2u (φ : Nat) : H TV (RTup TT [.val 38]) := (.seq .x (.seq (.seq .x (.body (.loop ⟨[(21, [(1, .rom 0 2), (2, .own 0), (5, .val 38), (6, .val 0), (7, .val 0)])], [.row 61 35]⟩ (fun n z => z0a φ n z.1 z.2.1 z.2.2.1 z.2.2.2.1 z.2.2.2.2.1) (fun zk8 => .x)))) .x))
def z43 (P : Program) (φ : Nat) : Env TV := ⟨P, lk [], lk [], lk []⟩
theorem zd1 (φ : Nat) (a b) : (z42 φ).F a b = fnXc TV (z43 Tryz.prog φ) φ Tryz.f55 [] [.b (.val 38), .b (.map 0 2)] [.val 38] (z2u φ) a b := by kernel_rfl
theorem zd3 (φ : Nat) : fnO TV (z43 Tryz.prog φ) φ Tryz.f55 [.val 38] (z2u φ) := by
 unfold fnO
 show obl _ _ _ _ _ _ _
 unfold z2u
 repeat' (first | exact trivial | (refine ⟨?_, ?_⟩) | (intro _) | kernel_rfl)
theorem zd7 (φ : Nat) : zud TV Tryz.prog 55 (z42 φ) :=
 zw1 (N := z43 Tryz.prog φ) (zy trivial trivial trivial) (z2u φ) Tryz.func55 (by kernel_rfl) (zd1 φ) (zd3 φ)
def z2v (φ : Nat) : H TV (RTup TT [.val 2]) := .x
def z44 (P : Program) (φ : Nat) : Env TV := ⟨P, lk [(12, z0g φ)], lk [], lk [(55, z42 φ)]⟩
theorem zd4 (φ : Nat) (a b) : (z2t φ).F a b = fnXc TV (z44 Tryz.prog φ) φ Tryz.f56 [] [.b (.val 30), .fn 55 [.val 38, .map 0 2]] [.val 2] (z2v φ) a b := by kernel_rfl
theorem zd2 (φ : Nat) : fnO TV (z44 Tryz.prog φ) φ Tryz.f56 [.val 2] (z2v φ) := by
 unfold fnO
 show obl _ _ _ _ _ _ _
 unfold z2v
 repeat' (first | exact trivial | (refine ⟨?_, ?_⟩) | (intro _) | kernel_rfl)
theorem z74 (φ : Nat) : zud TV Tryz.prog 56 (z2t φ) :=
 zw1 (N := z44 Tryz.prog φ) (zy ⟨z1t φ, trivial⟩ trivial ⟨zd7 φ, trivial⟩) (z2v φ) Tryz.func56 (by kernel_rfl) (zd4 φ) (zd2 φ)
theorem zf9 (φ : Nat) (x38 : (List z7)) (x39 : Pool) (x40 : (List Ref)) (x41 : (List (Int × Bool))) (x42 : (List z7)) : z00 (z4m φ x38 x39 x40 x41 x42) (z6l φ x38 x39 x40 x41 x42) := by
 unfold z4m z6l
 repeat' (first | exact z00.one | exact z00.nil | refine z00.cons ?_ ?_ | refine z00.ck ?_ | exact z00.same (n := 2) rfl | exact z00.same (n := 3) rfl | exact z00.same (n := 4) rfl | exact z00.same (n := 6) rfl | refine z00.bind fun _ => ?_)
def z6i (φ : Nat) : H TV (RTup TT [.val 51, .val 0]) := (.seq .x (.seq .x (.seq (.ins 2 33 (.seq .x (.seq .x (.seq .x (.seq .x (.seq (.join ⟨[(13, [(4, .ptr 0 0), (5, .func 56 [.ptr 1 0, .ptr 2 0]), (6, .ptr 2 0)]), (68, [(1, .val 38), (4, .own 3)])], [.box 78 [.own 4], .box 36 [.val 30], .box 79 [.func 55 [.ptr 5 0, .ptr 0 0]], .row 56 1, .map 0 2, .box 37 [.val 38]]⟩ (fun z => z5j φ z.1 z.2.1 z.2.2.1 z.2.2.2.1 z.2.2.2.2.1) (.alt ⟨[(13, [(4, .ptr 0 0), (5, .func 56 [.ptr 1 0, .ptr 2 0]), (6, .ptr 2 0)]), (68, [(1, .val 38), (4, .own 3)])], [.box 78 [.own 4], .box 36 [.val 30], .box 79 [.func 55 [.ptr 5 0, .ptr 0 0]], .row 56 1, .map 0 2, .box 37 [.val 38]]⟩ (fun z => z4m φ z.1 z.2.1 z.2.2.1 z.2.2.2.1 z.2.2.2.2.1) (fun z => z6l φ z.1 z.2.1 z.2.2.1 z.2.2.2.1 z.2.2.2.2.1))) .x))))) .x) (.seq (.seq .x (.body (.loop ⟨[(68, [(1, .val 38), (4, .own 0), (8, .own 1), (9, .func 56 [.ptr 2 0, .ptr 3 0]), (10, .func 55 [.ptr 4 0, .ptr 5 0]), (35, .val 0), (36, .val 0)])], [.row 56 1, .map 0 2, .box 36 [.val 30], .box 79 [.func 55 [.ptr 4 0, .ptr 5 0]], .box 37 [.val 38], .box 78 [.own 1]]⟩ (fun n z => z7q φ n z.1 z.2.1 z.2.2.1 z.2.2.2.1 z.2.2.2.2.1 z.2.2.2.2.2.1 z.2.2.2.2.2.2.1) (fun zk17 => .x)))) (.seq (.seq .x (.body (.loop ⟨[(68, [(4, .own 0), (8, .own 1), (9, .func 56 [.ptr 2 0, .ptr 3 0]), (10, .func 55 [.ptr 4 0, .ptr 5 0]), (43, .val 0), (44, .val 0)])], [.row 56 1, .map 0 2, .box 36 [.val 30], .box 79 [.func 55 [.ptr 4 0, .ptr 5 0]], .box 37 [.val 38], .box 78 [.own 1]]⟩ (fun n z => z4u φ n z.1 z.2.1 z.2.2.1 z.2.2.2.1 z.2.2.2.2.1 z.2.2.2.2.2.1) (fun zk24 => .x)))) (.seq (.seq (.ins 1 55 (.seq .x (.seq (.seq .x (.body (.loop ⟨[(21, [(1, .ptr 0 0), (2, .own 1), (5, .val 38), (6, .val 0), (7, .val 0)]), (68, [(4, .own 2)])], [.box 78 [.own 3], .row 61 35, .row 56 1, .map 0 2]⟩ (fun n z => z4t φ n z.1 z.2.1 z.2.2.1 z.2.2.2.1 z.2.2.2.2.1 z.2.2.2.2.2.1) (fun zk32 => .x)))) .x)) .x) (.body (.loop ⟨[(68, [(4, .own 0), (55, .own 1), (56, .val 0), (57, .val 0)])], [.row 56 1, .row 61 35]⟩ (fun n z => z7e φ n z.1 z.2.1 z.2.2.1 z.2.2.2.1) (fun zk37 => .x)))) .x))))))
def z9l (P : Program) (φ : Nat) : Env TV := ⟨P, lk [(12, z0g φ)], lk [], lk [(56, z2t φ)]⟩
theorem zm1 (φ : Nat) (a) : (za2 φ).F a = fnX TV (z9l Tryz.prog φ) φ Tryz.f14 [30, 38] [.val 51, .val 0] (z6i φ) a := by kernel_rfl
theorem zl8 (φ : Nat) : fnO TV (z9l Tryz.prog φ) φ Tryz.f14 [.val 51, .val 0] (z6i φ) := by
 unfold fnO
 show obl _ _ _ _ _ _ _
 unfold z6i
 repeat' (first | exact trivial | (refine ⟨?_, ?_⟩) | (intro _) | kernel_rfl | exact zf9 ..)
theorem zkm (φ : Nat) : z12 TV Tryz.prog 14 (za2 φ) :=
 z1a (N := z9l Tryz.prog φ) (zy ⟨z1t φ, trivial⟩ trivial ⟨z74 φ, trivial⟩) (z6i φ) Tryz.func14 (by kernel_rfl) (zm1 φ) (zl8 φ)
theorem zd8 (φ : Nat) (x11 : Int) (x12 : Int) (x13 : (List z7)) : z00 (z2p φ x11 x12 x13) (z4x φ x11 x12 x13) := by
 unfold z2p z4x
 repeat' (first | exact z00.one | exact z00.nil | refine z00.cons ?_ ?_ | refine z00.ck ?_ | exact z00.same (n := 2) rfl | exact z00.same (n := 3) rfl | exact z00.same (n := 4) rfl | exact z00.same (n := 6) rfl | refine z00.bind fun _ => ?_)
def z4l (φ : Nat) : H TV (RTup TT [.val 0]) := (.seq .x (.seq (.join ⟨[(37, [(6, .ptr 0 0), (7, .ptr 1 0)])], [.box 61 [.val 35], .box 61 [.val 35]]⟩ (fun z => z31 φ z.1 z.2.1) (.alt ⟨[(37, [(0, .val 0), (1, .val 0), (2, .rop 38)])], []⟩ (fun z => z2p φ z.1 z.2.1 z.2.2.1) (fun z => z4x φ z.1 z.2.1 z.2.2.1))) .x))
def z7h (P : Program) (φ : Nat) : Env TV := ⟨P, lk [(37, z8v φ), (36, zjo φ)], lk [], lk []⟩
theorem zhj (φ : Nat) (a b) : (z7j φ).F a b = fnXc TV (z7h Tryz.prog φ) φ Tryz.f35 [0, 0] [.b (.val 38)] [.val 0] (z4l φ) a b := by kernel_rfl
theorem zi6 (φ : Nat) : fnO TV (z7h Tryz.prog φ) φ Tryz.f35 [.val 0] (z4l φ) := by
 unfold fnO
 show obl _ _ _ _ _ _ _
 unfold z4l
 repeat' (first | exact trivial | (refine ⟨?_, ?_⟩) | (intro _) | kernel_rfl | exact zd8 ..)
theorem zie (φ : Nat) : zud TV Tryz.prog 35 (z7j φ) :=
 zw1 (N := z7h Tryz.prog φ) (zy ⟨zg9 φ, zwh φ, trivial⟩ trivial trivial) (z4l φ) Tryz.func35 (by kernel_rfl) (zhj φ) (zi6 φ)
theorem zf6 (φ : Nat) (x93 : Pool) (x94 : (List Int)) (x95 : (List (Int × Bool))) (x96 : (List z7)) : z00 (z3h φ x93 x94 x95 x96) (z6e φ x93 x94 x95 x96) := by
 unfold z3h z6e
 repeat' (first | exact z00.one | exact z00.nil | refine z00.cons ?_ ?_ | refine z00.ck ?_ | exact z00.same (n := 2) rfl | exact z00.same (n := 3) rfl | exact z00.same (n := 4) rfl | exact z00.same (n := 6) rfl | refine z00.bind fun _ => ?_)
def z6a (φ : Nat) : H TV (RTup TT [.val 38, .val 0]) := (.seq .x (.seq .x (.seq .x (.seq .x (.seq .x (.seq (.seq .x (.body (.loop ⟨[(64, [(2, .ptr 0 0), (3, .ptr 1 0), (7, .own 2), (29, .val 0), (30, .val 0)])], [.box 36 [.val 30], .box 37 [.val 38], .row 3 0]⟩ (fun n z => z27 φ n z.1 z.2.1 z.2.2.1 z.2.2.2.1 z.2.2.2.2.1) (fun zk9 => .x)))) (.seq (.ins 2 34 (.ins 4 57 (.seq .x (.seq .x (.seq (.body (.loop ⟨[(63, [(0, .own 0), (1, .val 0), (2, .func 35 [.ptr 1 0]), (6, .val 0), (7, .val 0), (8, .val 0)]), (9, []), (64, [(2, .ptr 2 0), (3, .ptr 1 0), (7, .own 0)])], [.row 3 0, .box 37 [.val 38], .box 36 [.val 30]]⟩ (fun n z => z3f φ n z.1 z.2.1 z.2.2.1 z.2.2.2.1 z.2.2.2.2.1 z.2.2.2.2.2.1 z.2.2.2.2.2.2.1) (fun zk17 => (.seq .x (.body (.seq (.ins 4 83 (.seq .x (.body (.loop ⟨[(53, [(0, .own 0), (1, .val 0), (2, .val 0), (3, .func 35 [.ptr 1 0]), (8, .val 0)]), (63, [(0, .own 0), (1, .val 0), (2, .func 35 [.ptr 1 0]), (6, .val 0), (8, .val 0)]), (9, []), (64, [(2, .ptr 2 0), (3, .ptr 1 0), (7, .own 0)])], [.row 3 0, .box 37 [.val 38], .box 36 [.val 30]]⟩ (fun n z => z7f φ (fun a0 a1 a2 a3 a4 a5 a6 => zk17 (a0, a1, a2, a3, a4, a5, a6, ())) n z.1 z.2.1 z.2.2.1 z.2.2.2.1 z.2.2.2.2.1 z.2.2.2.2.2.1 z.2.2.2.2.2.2.1 z.2.2.2.2.2.2.2.1 z.2.2.2.2.2.2.2.2.1) (fun zk27 => (.seq .x (.seq (.body (.seq .x (.body (.loop ⟨[(53, [(0, .own 0), (1, .val 0), (2, .val 0), (3, .func 35 [.ptr 1 0]), (8, .val 0), (9, .val 0)]), (63, [(0, .own 0), (1, .val 0), (2, .func 35 [.ptr 1 0]), (6, .val 0), (8, .val 0)]), (9, []), (64, [(2, .ptr 2 0), (3, .ptr 1 0), (7, .own 0)])], [.row 3 0, .box 37 [.val 38], .box 36 [.val 30]]⟩ (fun n z => z7g φ (fun a0 a1 a2 a3 a4 a5 a6 a7 a8 => zk27 (a0, a1, a2, a3, a4, a5, a6, a7, a8, ())) n z.1 z.2.1 z.2.2.1 z.2.2.2.1 z.2.2.2.2.1 z.2.2.2.2.2.1 z.2.2.2.2.2.2.1 z.2.2.2.2.2.2.2.1 z.2.2.2.2.2.2.2.2.1 z.2.2.2.2.2.2.2.2.2.1) (fun zk38 => .x))))) .x)))))) .x) .x)))))) (.seq (.ins 4 83 (.seq .x (.body (.loop ⟨[(53, [(0, .own 0), (1, .val 0), (2, .val 0), (3, .func 35 [.ptr 1 0]), (8, .val 0)]), (63, [(0, .own 0), (1, .val 0), (2, .func 35 [.ptr 1 0]), (6, .val 0)]), (9, []), (64, [(2, .ptr 2 0), (3, .ptr 1 0), (7, .own 0)])], [.row 3 0, .box 37 [.val 38], .box 36 [.val 30]]⟩ (fun n z => z11 φ n z.1 z.2.1 z.2.2.1 z.2.2.2.1 z.2.2.2.2.1 z.2.2.2.2.2.1 z.2.2.2.2.2.2.1 z.2.2.2.2.2.2.2.1) (fun zk48 => (.seq .x (.seq (.body (.seq .x (.body (.loop ⟨[(53, [(0, .own 0), (1, .val 0), (2, .val 0), (3, .func 35 [.ptr 1 0]), (8, .val 0), (9, .val 0)]), (63, [(0, .own 0), (1, .val 0), (2, .func 35 [.ptr 1 0]), (6, .val 0)]), (9, []), (64, [(2, .ptr 2 0), (3, .ptr 1 0), (7, .own 0)])], [.row 3 0, .box 37 [.val 38], .box 36 [.val 30]]⟩ (fun n z => z2k φ (fun a0 a1 a2 a3 a4 a5 a6 a7 => zk48 (a0, a1, a2, a3, a4, a5, a6, a7, ())) n z.1 z.2.1 z.2.2.1 z.2.2.2.1 z.2.2.2.2.1 z.2.2.2.2.2.1 z.2.2.2.2.2.2.1 z.2.2.2.2.2.2.2.1 z.2.2.2.2.2.2.2.2.1) (fun zk58 => .x))))) .x)))))) .x) (.body (.loop ⟨[(63, [(0, .own 0), (1, .val 0), (2, .func 35 [.ptr 1 0]), (6, .val 0)]), (9, []), (64, [(2, .ptr 2 0), (3, .ptr 1 0), (7, .own 0)])], [.row 3 0, .box 37 [.val 38], .box 36 [.val 30]]⟩ (fun n z => z3k φ n z.1 z.2.1 z.2.2.1 z.2.2.2.1 z.2.2.2.2.1) (fun zk65 => (.seq .x (.body (.seq .x (.seq (.body (.loop ⟨[(63, [(0, .own 0), (1, .val 0), (2, .func 35 [.ptr 1 0]), (6, .val 0), (7, .val 0), (8, .val 0)]), (9, []), (64, [(2, .ptr 2 0), (3, .ptr 1 0), (7, .own 0)])], [.row 3 0, .box 37 [.val 38], .box 36 [.val 30]]⟩ (fun n z => zbm φ (fun a0 a1 a2 a3 a4 => zk65 (a0, a1, a2, a3, a4, ())) n z.1 z.2.1 z.2.2.1 z.2.2.2.1 z.2.2.2.2.1 z.2.2.2.2.2.1 z.2.2.2.2.2.2.1) (fun zk73 => (.seq .x (.body (.seq (.ins 7 84 .no .x) .x)))))) (.seq (.seq .x (.seq .x (.cond (.ins 5 84 .no .x) .x))) .x)))))))))))) .x) .x) (.seq (.ins 2 33 (.seq .x (.seq .x (.seq .x (.seq .x (.seq (.join ⟨[(13, [(4, .ptr 0 0), (5, .func 56 [.ptr 1 0, .ptr 2 0]), (6, .ptr 2 0)]), (64, [(7, .own 3)])], [.box 78 [.own 4], .box 36 [.val 30], .box 79 [.func 55 [.ptr 5 0, .ptr 0 0]], .row 3 0, .map 0 2, .box 37 [.val 38]]⟩ (fun z => z3e φ z.1 z.2.1 z.2.2.1 z.2.2.2.1) (.alt ⟨[(13, [(4, .ptr 0 0), (5, .func 56 [.ptr 1 0, .ptr 2 0]), (6, .ptr 2 0)]), (64, [(7, .own 3)])], [.box 78 [.own 4], .box 36 [.val 30], .box 79 [.func 55 [.ptr 5 0, .ptr 0 0]], .row 3 0, .map 0 2, .box 37 [.val 38]]⟩ (fun z => z3h φ z.1 z.2.1 z.2.2.1 z.2.2.2.1) (fun z => z6e φ z.1 z.2.1 z.2.2.1 z.2.2.2.1))) .x))))) .x) (.seq (.seq .x (.body (.loop ⟨[(64, [(9, .own 0), (10, .func 56 [.ptr 1 0, .ptr 2 0]), (11, .func 55 [.ptr 3 0, .ptr 4 0]), (48, .own 5), (49, .val 0), (50, .val 0)])], [.map 0 2, .box 36 [.val 30], .box 79 [.func 55 [.ptr 3 0, .ptr 4 0]], .box 37 [.val 38], .box 78 [.own 0], .row 3 0]⟩ (fun n z => z0z φ n z.1 z.2.1 z.2.2.1 z.2.2.2.1 z.2.2.2.2.1 z.2.2.2.2.2.1) (fun zk85 => .x)))) (.seq (.ins 1 55 (.seq .x (.seq (.seq .x (.body (.loop ⟨[(21, [(1, .ptr 0 0), (2, .own 1), (5, .val 38), (6, .val 0), (7, .val 0)]), (64, [])], [.box 78 [.own 2], .row 61 35, .map 0 2]⟩ (fun n z => z10 φ n z.1 z.2.1 z.2.2.1 z.2.2.2.1 z.2.2.2.2.1) (fun zk92 => .x)))) .x)) .x) .x))))))))))
def z9v (P : Program) (φ : Nat) : Env TV := ⟨P, lk [(12, z0g φ)], lk [], lk [(35, z7j φ), (56, z2t φ)]⟩
theorem zkd (φ : Nat) (a) : (z60 φ).F a = fnX TV (z9v Tryz.prog φ) φ Tryz.f16 [30, 38] [.val 38, .val 0] (z6a φ) a := by kernel_rfl
theorem zkl (φ : Nat) : fnO TV (z9v Tryz.prog φ) φ Tryz.f16 [.val 38, .val 0] (z6a φ) := by
 unfold fnO
 show obl _ _ _ _ _ _ _
 unfold z6a
 repeat' (first | exact trivial | (refine ⟨?_, ?_⟩) | (intro _) | kernel_rfl | exact zf6 ..)
theorem zdg (φ : Nat) : z12 TV Tryz.prog 16 (z60 φ) :=
 z1a (N := z9v Tryz.prog φ) (zy ⟨z1t φ, trivial⟩ trivial ⟨zie φ, z74 φ, trivial⟩) (z6a φ) Tryz.func16 (by kernel_rfl) (zkd φ) (zkl φ)
def z5m (φ : Nat) : H TV (RTup TT [.val 2]) := (.seq .x (.seq .x (.seq (.seq .x (.body (.loop ⟨[(26, [(0, .val 51), (1, .val 51), (5, .val 0)])], []⟩ (fun n z => z7r φ n z.1 z.2.1 z.2.2.1) (fun zk6 => .x)))) .x)))
def z8l (P : Program) (φ : Nat) : Env TV := ⟨P, lk [], lk [], lk []⟩
theorem zjb (φ : Nat) (a) : (z8p φ).F a = fnX TV (z8l Tryz.prog φ) φ Tryz.f18 [51, 51] [.val 2] (z5m φ) a := by kernel_rfl
theorem zje (φ : Nat) : fnO TV (z8l Tryz.prog φ) φ Tryz.f18 [.val 2] (z5m φ) := by
 unfold fnO
 show obl _ _ _ _ _ _ _
 unfold z5m
 repeat' (first | exact trivial | (refine ⟨?_, ?_⟩) | (intro _) | kernel_rfl)
theorem zjm (φ : Nat) : z12 TV Tryz.prog 18 (z8p φ) :=
 z1a (N := z8l Tryz.prog φ) (zy trivial trivial trivial) (z5m φ) Tryz.func18 (by kernel_rfl) (zjb φ) (zje φ)
def z8w (φ : Nat) : H TV (RTup TT [.val 0]) := .x
def zcp (P : Program) (φ : Nat) : Env TV := ⟨P, lk [], lk [], lk []⟩
theorem zpf (φ : Nat) (a) : (zc6 φ).F a = fnX TV (zcp Tryz.prog φ) φ Tryz.f85 [34, 52] [.val 0] (z8w φ) a := by kernel_rfl
theorem zp8 (φ : Nat) : fnO TV (zcp Tryz.prog φ) φ Tryz.f85 [.val 0] (z8w φ) := by
 unfold fnO
 show obl _ _ _ _ _ _ _
 unfold z8w
 repeat' (first | exact trivial | (refine ⟨?_, ?_⟩) | (intro _) | kernel_rfl)
theorem znq (φ : Nat) : z12 TV Tryz.prog 85 (zc6 φ) :=
 z1a (N := zcp Tryz.prog φ) (zy trivial trivial trivial) (z8w φ) Tryz.func85 (by kernel_rfl) (zpf φ) (zp8 φ)
def z4n (φ : Nat) : H TV (RTup TT [.val 2]) := (.seq .x (.seq .x (.seq (.seq .x (.body (.loop ⟨[(26, [(0, .val 33), (1, .val 33), (5, .val 0)])], []⟩ (fun n z => z24 φ n z.1 z.2.1 z.2.2.1) (fun zk6 => .x)))) .x)))
def z7s (P : Program) (φ : Nat) : Env TV := ⟨P, lk [], lk [], lk []⟩
theorem zhz (φ : Nat) (a) : (z7b φ).F a = fnX TV (z7s Tryz.prog φ) φ Tryz.f86 [33, 33] [.val 2] (z4n φ) a := by kernel_rfl
theorem zhr (φ : Nat) : fnO TV (z7s Tryz.prog φ) φ Tryz.f86 [.val 2] (z4n φ) := by
 unfold fnO
 show obl _ _ _ _ _ _ _
 unfold z4n
 repeat' (first | exact trivial | (refine ⟨?_, ?_⟩) | (intro _) | kernel_rfl)
theorem zic (φ : Nat) : z12 TV Tryz.prog 86 (z7b φ) :=
 z1a (N := z7s Tryz.prog φ) (zy trivial trivial trivial) (z4n φ) Tryz.func86 (by kernel_rfl) (zhz φ) (zhr φ)
def zan (φ : Nat) : H TV (RTup TT [.val 2]) := (.seq .x (.seq (.seq .x (.body (.loop ⟨[(45, [(2, .ptr 0 0), (3, .ptr 1 0), (5, .val 0)])], [.box 59 [.val 34], .box 59 [.val 34]]⟩ (fun n z => z4v φ n z.1 z.2.1 z.2.2.1) (fun zk6 => .x)))) .x))
def zdi (P : Program) (φ : Nat) : Env TV := ⟨P, lk [(85, zc6 φ), (86, z7b φ)], lk [], lk []⟩
theorem zqi (φ : Nat) (a) : (zdp φ).F a = fnX TV (zdi Tryz.prog φ) φ Tryz.f59 [34, 34] [.val 2] (zan φ) a := by kernel_rfl
theorem zsk (φ : Nat) : fnO TV (zdi Tryz.prog φ) φ Tryz.f59 [.val 2] (zan φ) := by
 unfold fnO
 show obl _ _ _ _ _ _ _
 unfold zan
 repeat' (first | exact trivial | (refine ⟨?_, ?_⟩) | (intro _) | kernel_rfl)
theorem zqe (φ : Nat) : z12 TV Tryz.prog 59 (zdp φ) :=
 z1a (N := zdi Tryz.prog φ) (zy ⟨znq φ, zic φ, trivial⟩ trivial trivial) (zan φ) Tryz.func59 (by kernel_rfl) (zqi φ) (zsk φ)
def z3r (φ : Nat) : H TV (RTup TT [.val 2]) := (.seq .x (.seq .x (.seq (.seq .x (.body (.loop ⟨[(68, [(0, .val 38), (1, .val 38), (5, .val 0)])], []⟩ (fun n z => z17 φ n z.1 z.2.1 z.2.2.1) (fun zk6 => .x)))) .x)))
def z5q (P : Program) (φ : Nat) : Env TV := ⟨P, lk [(59, zdp φ)], lk [], lk []⟩
theorem zfo (φ : Nat) (a) : (z5s φ).F a = fnX TV (z5q Tryz.prog φ) φ Tryz.f38 [38, 38] [.val 2] (z3r φ) a := by kernel_rfl
theorem zg4 (φ : Nat) : fnO TV (z5q Tryz.prog φ) φ Tryz.f38 [.val 2] (z3r φ) := by
 unfold fnO
 show obl _ _ _ _ _ _ _
 unfold z3r
 repeat' (first | exact trivial | (refine ⟨?_, ?_⟩) | (intro _) | kernel_rfl)
theorem zg3 (φ : Nat) : z12 TV Tryz.prog 38 (z5s φ) :=
 z1a (N := z5q Tryz.prog φ) (zy ⟨zqe φ, trivial⟩ trivial trivial) (z3r φ) Tryz.func38 (by kernel_rfl) (zfo φ) (zg4 φ)
def zaj (φ : Nat) : H TV (RTup TT [.val 2]) := .x
def zdl (P : Program) (φ : Nat) : Env TV := ⟨P, lk [(38, z5s φ)], lk [], lk []⟩
theorem zqp (φ : Nat) (a) : (zae φ).F a = fnX TV (zdl Tryz.prog φ) φ Tryz.f19 [38, 38] [.val 2] (zaj φ) a := by kernel_rfl
theorem zqt (φ : Nat) : fnO TV (zdl Tryz.prog φ) φ Tryz.f19 [.val 2] (zaj φ) := by
 unfold fnO
 show obl _ _ _ _ _ _ _
 unfold zaj
 repeat' (first | exact trivial | (refine ⟨?_, ?_⟩) | (intro _) | kernel_rfl)
theorem zix (φ : Nat) : z12 TV Tryz.prog 19 (zae φ) :=
 z1a (N := zdl Tryz.prog φ) (zy ⟨zg3 φ, trivial⟩ trivial trivial) (zaj φ) Tryz.func19 (by kernel_rfl) (zqp φ) (zqt φ)
def zap (φ : Nat) : H TV (RTup TT [.val 2]) := .x
def zeh (P : Program) (φ : Nat) : Env TV := ⟨P, lk [(27, z9t φ), (28, zbg φ), (12, z0g φ), (14, za2 φ), (16, z60 φ), (18, z8p φ), (19, zae φ)], lk [], lk []⟩
theorem zr6 (φ : Nat) (a) : (zeg φ).F a = fnX TV (zeh Tryz.prog φ) φ Tryz.f10 [] [.val 2] (zap φ) a := by kernel_rfl
theorem zpz (φ : Nat) : fnO TV (zeh Tryz.prog φ) φ Tryz.f10 [.val 2] (zap φ) := by
 unfold fnO
 show obl _ _ _ _ _ _ _
 unfold zap
 repeat' (first | exact trivial | (refine ⟨?_, ?_⟩) | (intro _) | kernel_rfl)
theorem zsf (φ : Nat) : z12 TV Tryz.prog 10 (zeg φ) :=
 z1a (N := zeh Tryz.prog φ) (zy ⟨zly φ, zmm φ, z1t φ, zkm φ, zdg φ, zjm φ, zix φ, trivial⟩ trivial trivial) (zap φ) Tryz.func10 (by kernel_rfl) (zr6 φ) (zpz φ)
def z4h (φ : Nat) : H TV (RTup TT [.val 2]) := (.seq .x (.seq .x (.seq (.seq .x (.body (.loop ⟨[(65, [(1, .ptr 0 0), (3, .val 0)])], [.box 36 [.val 30]]⟩ (fun n z => z15 φ n z.1 z.2.1) (fun zk4 => .x)))) .x)))
def z7v (P : Program) (φ : Nat) : Env TV := ⟨P, lk [], lk [], lk []⟩
theorem zin (φ : Nat) (a) : (z7i φ).F a = fnX TV (z7v Tryz.prog φ) φ Tryz.f29 [30] [.val 2] (z4h φ) a := by kernel_rfl
theorem zik (φ : Nat) : fnO TV (z7v Tryz.prog φ) φ Tryz.f29 [.val 2] (z4h φ) := by
 unfold fnO
 show obl _ _ _ _ _ _ _
 unfold z4h
 repeat' (first | exact trivial | (refine ⟨?_, ?_⟩) | (intro _) | kernel_rfl)
theorem zi7 (φ : Nat) : z12 TV Tryz.prog 29 (z7i φ) :=
 z1a (N := z7v Tryz.prog φ) (zy trivial trivial trivial) (z4h φ) Tryz.func29 (by kernel_rfl) (zin φ) (zik φ)
def z49 (φ : Nat) : H TV (RTup TT [.val 2]) := (.seq .x (.seq .x (.seq (.seq .x (.body (.loop ⟨[(34, [(0, .val 38), (5, .val 0)])], []⟩ (fun n z => z1i φ n z.1 z.2.1) (fun zk5 => .x)))) .x)))
def z6s (P : Program) (φ : Nat) : Env TV := ⟨P, lk [], lk [], lk []⟩
theorem zgr (φ : Nat) (a) : (z6o φ).F a = fnX TV (z6s Tryz.prog φ) φ Tryz.f30 [38, 0] [.val 2] (z49 φ) a := by kernel_rfl
theorem zh6 (φ : Nat) : fnO TV (z6s Tryz.prog φ) φ Tryz.f30 [.val 2] (z49 φ) := by
 unfold fnO
 show obl _ _ _ _ _ _ _
 unfold z49
 repeat' (first | exact trivial | (refine ⟨?_, ?_⟩) | (intro _) | kernel_rfl)
theorem zgt (φ : Nat) : z12 TV Tryz.prog 30 (z6o φ) :=
 z1a (N := z6s Tryz.prog φ) (zy trivial trivial trivial) (z49 φ) Tryz.func30 (by kernel_rfl) (zgr φ) (zh6 φ)
def zbw (φ : Nat) : H TV (RTup TT [.val 2]) := .x
def zfr (P : Program) (φ : Nat) : Env TV := ⟨P, lk [(29, z7i φ), (30, z6o φ)], lk [], lk []⟩
theorem ztu (φ : Nat) (a) : (zfm φ).F a = fnX TV (zfr Tryz.prog φ) φ Tryz.f11 [30, 38] [.val 2] (zbw φ) a := by kernel_rfl
theorem ztp (φ : Nat) : fnO TV (zfr Tryz.prog φ) φ Tryz.f11 [.val 2] (zbw φ) := by
 unfold fnO
 show obl _ _ _ _ _ _ _
 unfold zbw
 repeat' (first | exact trivial | (refine ⟨?_, ?_⟩) | (intro _) | kernel_rfl)
theorem zt1 (φ : Nat) : z12 TV Tryz.prog 11 (zfm φ) :=
 z1a (N := zfr Tryz.prog φ) (zy ⟨zi7 φ, zgt φ, trivial⟩ trivial trivial) (zbw φ) Tryz.func11 (by kernel_rfl) (ztu φ) (ztp φ)
end Px
end
section
set_option linter.unusedVariables false
set_option linter.unusedSimpArgs false
set_option maxHeartbeats 4000000
set_option maxRecDepth 100000
namespace Px
open Go Go.RowKit Go.Proofs
def z81 (φ : Nat) : H TV (RTup TT [.val 2]) := .x
def zb3 (P : Program) (φ : Nat) : Env TV := ⟨P, lk [], lk [], lk []⟩
theorem zmc (φ : Nat) (a) : (zb9 φ).F a = fnX TV (zb3 Tryz.prog φ) φ Tryz.f60 [1, 1] [.val 2] (z81 φ) a := by kernel_rfl
theorem zmv (φ : Nat) : fnO TV (zb3 Tryz.prog φ) φ Tryz.f60 [.val 2] (z81 φ) := by
 unfold fnO
 show obl _ _ _ _ _ _ _
 unfold z81
 repeat' (first | exact trivial | (refine ⟨?_, ?_⟩) | (intro _) | kernel_rfl)
theorem zmd (φ : Nat) : z12 TV Tryz.prog 60 (zb9 φ) :=
 z1a (N := zb3 Tryz.prog φ) (zy trivial trivial trivial) (z81 φ) Tryz.func60 (by kernel_rfl) (zmc φ) (zmv φ)
def z61 (φ : Nat) : H TV (RTup TT [.val 38]) := (.seq .x (.seq .x (.seq (.seq .x (.body (.loop ⟨[(32, [(0, .val 38), (1, .val 55), (5, .own 0), (6, .val 0)])], [.row 61 35]⟩ (fun n z => z2c φ n z.1 z.2.1 z.2.2.1 z.2.2.2.1) (fun zk7 => .x)))) .x)))
def za7 (P : Program) (φ : Nat) : Env TV := ⟨P, lk [], lk [], lk []⟩
theorem zma (φ : Nat) (a) : (za8 φ).F a = fnX TV (za7 Tryz.prog φ) φ Tryz.f20 [38, 55] [.val 38] (z61 φ) a := by kernel_rfl
theorem zkc (φ : Nat) : fnO TV (za7 Tryz.prog φ) φ Tryz.f20 [.val 38] (z61 φ) := by
 unfold fnO
 show obl _ _ _ _ _ _ _
 unfold z61
 repeat' (first | exact trivial | (refine ⟨?_, ?_⟩) | (intro _) | kernel_rfl)
theorem zkp (φ : Nat) : z12 TV Tryz.prog 20 (za8 φ) :=
 z1a (N := za7 Tryz.prog φ) (zy trivial trivial trivial) (z61 φ) Tryz.func20 (by kernel_rfl) (zma φ) (zkc φ)
def z6r (φ : Nat) : H TV (RTup TT [.val 2]) := .x
def z9n (P : Program) (φ : Nat) : Env TV := ⟨P, lk [(60, zb9 φ)], lk [], lk []⟩
theorem zka (φ : Nat) (a) : (za5 φ).F a = fnX TV (z9n Tryz.prog φ) φ Tryz.f39 [38, 0, 0] [.val 2] (z6r φ) a := by kernel_rfl
theorem zku (φ : Nat) : fnO TV (z9n Tryz.prog φ) φ Tryz.f39 [.val 2] (z6r φ) := by
 unfold fnO
 show obl _ _ _ _ _ _ _
 unfold z6r
 repeat' (first | exact trivial | (refine ⟨?_, ?_⟩) | (intro _) | kernel_rfl)
theorem zm5 (φ : Nat) : z12 TV Tryz.prog 39 (za5 φ) :=
 z1a (N := z9n Tryz.prog φ) (zy ⟨zmd φ, trivial⟩ trivial trivial) (z6r φ) Tryz.func39 (by kernel_rfl) (zka φ) (zku φ)
def z8y (φ : Nat) : H TV (RTup TT [.val 5]) := (.seq .x (.seq .x (.seq (.seq .x (.body (.loop ⟨[(44, [(0, .val 38), (3, .own 0), (4, .val 0)])], [.row 3 0]⟩ (fun n z => z1p φ n z.1 z.2.1 z.2.2.1) (fun zk5 => (.seq .x (.seq (.body (.seq .x (.seq (.body (.loop ⟨[(44, [(0, .val 38), (3, .own 0), (4, .val 0), (5, .val 0)])], [.row 3 0]⟩ (fun n z => z2q φ (fun a0 a1 a2 => zk5 (a0, a1, a2, ())) n z.1 z.2.1 z.2.2.1 z.2.2.2.1) (fun zk10 => .x))) (.seq (.frz [(3, none)] .x) .x)))) .x)))))) .x)))
def zcc (P : Program) (φ : Nat) : Env TV := ⟨P, lk [(39, za5 φ)], lk [], lk []⟩
theorem zpn (φ : Nat) (a) : (zcd φ).F a = fnX TV (zcc Tryz.prog φ) φ Tryz.f23 [38] [.val 5] (z8y φ) a := by kernel_rfl
theorem zp3 (φ : Nat) : fnO TV (zcc Tryz.prog φ) φ Tryz.f23 [.val 5] (z8y φ) := by
 unfold fnO
 show obl _ _ _ _ _ _ _
 unfold z8y
 repeat' (first | exact trivial | (refine ⟨?_, ?_⟩) | (intro _) | kernel_rfl)
theorem zp4 (φ : Nat) : z12 TV Tryz.prog 23 (zcd φ) :=
 z1a (N := zcc Tryz.prog φ) (zy ⟨zm5 φ, trivial⟩ trivial trivial) (z8y φ) Tryz.func23 (by kernel_rfl) (zpn φ) (zp3 φ)
def z92 (φ : Nat) : H TV (RTup TT [.val 2]) := (.seq .x (.seq (.seq .x (.body (.loop ⟨[(27, [(0, .val 38), (3, .val 0)])], []⟩ (fun n z => z3a φ n z.1 z.2.1) (fun zk4 => (.seq .x (.seq (.body (.seq .x (.body (.loop ⟨[(27, [(0, .val 38), (3, .val 0), (4, .val 0)])], []⟩ (fun n z => z3y φ (fun a0 a1 => zk4 (a0, a1, ())) n z.1 z.2.1 z.2.2.1) (fun zk8 => .x))))) .x)))))) .x))
def zc3 (P : Program) (φ : Nat) : Env TV := ⟨P, lk [], lk [], lk []⟩
theorem zpm (φ : Nat) (a) : (zct φ).F a = fnX TV (zc3 Tryz.prog φ) φ Tryz.f21 [38] [.val 2] (z92 φ) a := by kernel_rfl
theorem zoq (φ : Nat) : fnO TV (zc3 Tryz.prog φ) φ Tryz.f21 [.val 2] (z92 φ) := by
 unfold fnO
 show obl _ _ _ _ _ _ _
 unfold z92
 repeat' (first | exact trivial | (refine ⟨?_, ?_⟩) | (intro _) | kernel_rfl)
theorem zo7 (φ : Nat) : z12 TV Tryz.prog 21 (zct φ) :=
 z1a (N := zc3 Tryz.prog φ) (zy trivial trivial trivial) (z92 φ) Tryz.func21 (by kernel_rfl) (zpm φ) (zoq φ)
def z91 (φ : Nat) : H TV (RTup TT [.val 38]) := (.seq .x (.seq .x (.seq (.seq .x (.body (.loop ⟨[(44, [(0, .val 38), (1, .val 51), (5, .own 0), (6, .val 0)])], [.row 61 35]⟩ (fun n z => z36 φ n z.1 z.2.1 z.2.2.1 z.2.2.2.1) (fun zk7 => (.seq .x (.seq (.body (.seq .x (.seq (.seq .x (.body (.loop ⟨[(44, [(0, .val 38), (1, .val 51), (5, .own 0), (6, .val 0), (7, .val 2), (8, .val 0)])], [.row 61 35]⟩ (fun n z => z3i φ (fun a0 a1 a2 a3 => zk7 (a0, a1, a2, a3, ())) n z.1 z.2.1 z.2.2.1 z.2.2.2.1 z.2.2.2.2.1 z.2.2.2.2.2.1) (fun zk14 => .x)))) .x))) .x)))))) .x)))
def zck (P : Program) (φ : Nat) : Env TV := ⟨P, lk [], lk [], lk []⟩
theorem znz (φ : Nat) (a) : (zbx φ).F a = fnX TV (zck Tryz.prog φ) φ Tryz.f22 [38, 51] [.val 38] (z91 φ) a := by kernel_rfl
theorem znt (φ : Nat) : fnO TV (zck Tryz.prog φ) φ Tryz.f22 [.val 38] (z91 φ) := by
 unfold fnO
 show obl _ _ _ _ _ _ _
 unfold z91
 repeat' (first | exact trivial | (refine ⟨?_, ?_⟩) | (intro _) | kernel_rfl)
theorem zod (φ : Nat) : z12 TV Tryz.prog 22 (zbx φ) :=
 z1a (N := zck Tryz.prog φ) (zy trivial trivial trivial) (z91 φ) Tryz.func22 (by kernel_rfl) (znz φ) (znt φ)
def z0e (φ : Nat) : H TV (RTup TT [.val 2]) := (.seq .x (.seq .x (.seq .x (.seq .x (.seq .x (.seq .x (.seq (.seq .x (.body (.loop ⟨[(134, [(1, .val 38), (2, .ptr 0 0), (5, .val 38), (9, .own 1), (10, .val 0)])], [.box 36 [.val 30], .row 56 1]⟩ (fun n z => zm φ n z.1 z.2.1 z.2.2.1 z.2.2.2.1 z.2.2.2.2.1) (fun zk13 => .x)))) (.seq .x (.seq .x (.seq .x (.seq .x (.seq (.seq .x (.body (.loop ⟨[(134, [(1, .val 38), (2, .ptr 0 0), (9, .val 51), (13, .val 5), (14, .own 1), (15, .val 0)])], [.box 36 [.val 30], .fix 4 2]⟩ (fun n z => zi φ n z.1 z.2.1 z.2.2.1 z.2.2.2.1 z.2.2.2.2.1 z.2.2.2.2.2.1) (fun zk24 => .x)))) .x))))))))))))
def z1b (P : Program) (φ : Nat) : Env TV := ⟨P, lk [(10, zeg φ), (11, zfm φ), (21, zct φ), (16, z60 φ), (12, z0g φ), (22, zbx φ), (19, zae φ), (23, zcd φ), (20, za8 φ)], lk [], lk []⟩
theorem z6y (φ : Nat) (a) : (z0d φ).F a = fnX TV (z1b Tryz.prog φ) φ Tryz.f6 [30, 38] [.val 2] (z0e φ) a := by kernel_rfl
theorem z6z (φ : Nat) : fnO TV (z1b Tryz.prog φ) φ Tryz.f6 [.val 2] (z0e φ) := by
 unfold fnO
 show obl _ _ _ _ _ _ _
 unfold z0e
 repeat' (first | exact trivial | (refine ⟨?_, ?_⟩) | (intro _) | kernel_rfl)
theorem z6x (φ : Nat) : z12 TV Tryz.prog 6 (z0d φ) :=
 z1a (N := z1b Tryz.prog φ) (zy ⟨zsf φ, zt1 φ, zo7 φ, zdg φ, z1t φ, zod φ, zix φ, zp4 φ, zkp φ, trivial⟩ trivial trivial) (z0e φ) Tryz.func6 (by kernel_rfl) (z6y φ) (z6z φ)
end Px
end
section
namespace Px
open Go
set_option linter.unusedVariables false
set_option linter.unusedSimpArgs false
theorem z2w (φ : Nat) (a b c : Int) : zl φ a b c = some (bet a b c, ()) := rfl
def zkw (t : z13) : Bool :=
 bet t.load 0 1000000 && bet t.tare 0 1000000 && bet t.length 0 1000000 && bet t.brake 0 1000000 && bet t.gauge 0 7 && bet t.life 1 1073741824 && bet t.floor 0 100
def zg1 (n : Int) (w : zh1) : Bool :=
 bet w.type_ 0 (n - 1) && bet w.owner 0 63 && bet w.home 0 511 && bet w.built 0 1073741824 && bet w.worth 0 1099511627776
def zng (n : Int) (s : Swap) : Bool := bet s.wanted 0 (n - 1) && bet s.given 0 (n - 1) && (s.wanted != s.given) && bet s.cost 0 1000000000
def zzo (w : Wash) : Bool := bet w.from_ 0 63 && bet w.to 0 63 && (w.from_ != w.to) && bet w.minutes 0 100000
def keyW (w : Wash) : Int := 64 * w.from_ + w.to
def z6g (l : List Wash) (i : Nat) : Bool := zzo (gt l (i : Int)) && !(l.take i).any fun v => keyW v == keyW (gt l (i : Int))
def zaq (l : List Wash) : Bool := (List.range l.length).all (z6g l)
def z6v (x : zbf) : Int :=
 bif decide (32 < x.types.length) || decide (4096 < x.wagons.length) || decide (1024 < x.swaps.length) || decide (4096 < x.washes.length) then 2 else
 bif x.types.all zkw && x.wagons.all (zg1 x.types.length) && x.swaps.all (zng x.types.length) && zaq x.washes then 0 else 1
theorem zfg (p : Nat -> Bool) (i : Nat) : (List.range (i + 1)).all p = ((List.range i).all p && p i) := by
 rw [List.range_succ, List.all_append]; simp
theorem zht (φ : Nat) (x : zbf) (hl : x.swaps.length <= 1024) (ht : x.types.length <= 32) :
  ∀ n s, x.swaps.length < n -> z0n φ n x.swaps (x.swaps.length : Int) 0 x s = zq φ φ x.washes (x.washes.length : Int) 0 (bif x.swaps.all (zng (x.types.length : Int)) then s else 1) (fun _ => default) := by
 have hp : W ((x.types.length : Int) - 1) = (x.types.length : Int) - 1 := W_id (by omega) (by omega)
 refine zju (fun n i s => z0n φ n x.swaps (x.swaps.length : Int) i x s) (fun s => zq φ φ x.washes (x.washes.length : Int) 0 s (fun _ => default)) _ _ ?_ ?_
 ·intro n i s hi
  have hW : W ((i : Int) + 1) = (i : Int) + 1 := W_id (by omega) (by omega)
  rw [z0n, if_pos (by simp; omega), z8 ⟨by omega, by omega⟩]
  simp only [z2w, Option.bind_some, zng, z1n, hW, hp]
  cases bet (gt x.swaps i).wanted 0 ((x.types.length : Int) - 1) <;> cases bet (gt x.swaps i).given 0 ((x.types.length : Int) - 1) <;> cases ((gt x.swaps i).wanted != (gt x.swaps i).given) <;>
   cases bet (gt x.swaps i).cost 0 1000000000 <;> rfl
 ·intro n s
  rw [z0n, if_neg (by simp)]
theorem zgu (φ : Nat) (x : zbf) (hl : x.wagons.length <= 4096) (ht : x.types.length <= 32) :
  ∀ n s, x.wagons.length < n -> z0b φ n x.wagons (x.wagons.length : Int) 0 x s = z0n φ φ x.swaps (x.swaps.length : Int) 0 x (bif x.wagons.all (zg1 (x.types.length : Int)) then s else 1) := by
 have hp : W ((x.types.length : Int) - 1) = (x.types.length : Int) - 1 := W_id (by omega) (by omega)
 refine zju (fun n i s => z0b φ n x.wagons (x.wagons.length : Int) i x s) (fun s => z0n φ φ x.swaps (x.swaps.length : Int) 0 x s) _ _ ?_ ?_
 ·intro n i s hi
  have hW : W ((i : Int) + 1) = (i : Int) + 1 := W_id (by omega) (by omega)
  rw [z0b, if_pos (by simp; omega), z8 ⟨by omega, by omega⟩]
  simp only [z2w, Option.bind_some, zg1, z1n, hW, hp]
  cases bet (gt x.wagons i).type_ 0 ((x.types.length : Int) - 1) <;> cases bet (gt x.wagons i).owner 0 63 <;> cases bet (gt x.wagons i).home 0 511 <;>
   cases bet (gt x.wagons i).built 0 1073741824 <;> cases bet (gt x.wagons i).worth 0 1099511627776 <;> rfl
 ·intro n s
  rw [z0b, if_neg (by simp)]
theorem zjf (φ : Nat) (k : List z13 -> Int -> Int -> zbf -> Int -> Option (Int × Unit)) (ts : List z13) (len i : Int) (x : zbf) (t : z13) (n : Nat) (s : Int) (hn : 4 < n) :
  z1y φ k n ts len i 4 0 x s t [t.load, t.tare, t.length, t.brake] = k ts len (W (i + 1)) x (bif zkw t then s else 1) := by
 have h := zju (fun n j s => z1y φ k n ts len i 4 j x s t [t.load, t.tare, t.length, t.brake]) (fun s => k ts len (W (i + 1)) x (bif (bet t.gauge 0 7 && bet t.life 1 1073741824 && bet t.floor 0 100) then s else 1))
  [t.load, t.tare, t.length, t.brake] (fun a => bet a 0 1000000) (fun n j s hi => by
   rw [z1y, if_pos (by simp at hi ⊢; omega), z8 ⟨by omega, by omega⟩]
   simp at hi
   have hW : W ((j : Int) + 1) = (j : Int) + 1 := W_id (by omega) (by omega)
   simp only [z2w, Option.bind_some, hW]
   cases bet (gt [t.load, t.tare, t.length, t.brake] (j : Int)) 0 1000000 <;> rfl) (fun n s => by
   rw [z1y, if_neg (by simp)]
   simp only [z2w, Option.bind_some, z1n]
   cases bet t.gauge 0 7 <;> cases bet t.life 1 1073741824 <;> cases bet t.floor 0 100 <;> rfl) n s hn
 rw [h]
 simp only [zkw, List.all_cons, List.all_nil]
 cases bet t.load 0 1000000 <;> cases bet t.tare 0 1000000 <;> cases bet t.length 0 1000000 <;> cases bet t.brake 0 1000000 <;>
   cases bet t.gauge 0 7 <;> cases bet t.life 1 1073741824 <;> cases bet t.floor 0 100 <;> rfl
theorem zhm (φ : Nat) (hφ : 4 < φ) (x : zbf) (hl : x.types.length <= 32) :
  ∀ n s, x.types.length < n -> z37 φ n x.types (x.types.length : Int) 0 x s = z0b φ φ x.wagons (x.wagons.length : Int) 0 x (bif x.types.all zkw then s else 1) := by
 refine zju (fun n i s => z37 φ n x.types (x.types.length : Int) i x s) (fun s => z0b φ φ x.wagons (x.wagons.length : Int) 0 x s) _ _ ?_ ?_
 ·intro n i s hi
  rw [z37, if_pos (by simp; omega), z8 ⟨by omega, by omega⟩]
  have hW : W ((i : Int) + 1) = (i : Int) + 1 := W_id (by omega) (by omega)
  refine (zjf φ _ x.types (x.types.length : Int) (i : Int) x (gt x.types i) φ s hφ).trans ?_
  rw [hW]
 ·intro n s
  rw [z37, if_neg (by simp)]
theorem zgh (φ : Nat) (x : zbf) (hl : x.washes.length <= 4096) (n : Nat) (s : Int) (hn : x.washes.length < n) :
  zq φ n x.washes (x.washes.length : Int) 0 s (fun _ => default) = some (bif zaq x.washes then s else 1, ()) := by
 refine zp (fun n i (t : Int × (Nat -> Bool)) => zq φ n x.washes (x.washes.length : Int) i t.1 t.2) x.washes.length
  (fun i t => t.1 = (bif (List.range i).all (z6g x.washes) then s else 1) /\ ((List.range i).all (z6g x.washes) = true -> ∀ j : Nat, t.2 j = (x.washes.take i).any fun v => keyW v == (j : Int)))
  (fun o => o = some (bif zaq x.washes then s else 1, ())) ?_ ?_ n (s, fun _ => false) ⟨by simp, by simp⟩ hn
 ·intro n i t hi ⟨h1, h2⟩ hs
  have hW : W ((i : Int) + 1) = (i : Int) + 1 := W_id (by omega) (by omega)
  rw [zq, if_pos (by simp; omega), z8 ⟨by omega, by omega⟩]
  simp only [z2w, Option.bind_some, z1n, hW]
  have hok : zzo (gt x.washes i) = (bet (gt x.washes i).from_ 0 63 && bet (gt x.washes i).to 0 63 && ((gt x.washes i).from_ != (gt x.washes i).to) && bet (gt x.washes i).minutes 0 100000) := rfl
  have hsucc := zfg (z6g x.washes) i
  cases hw : zzo (gt x.washes i) with
  | false =>
   have hf : (List.range (i + 1)).all (z6g x.washes) = false := by rw [hsucc]; simp [z6g, hw]
   have h3 : zq φ n x.washes (x.washes.length : Int) ((i : Int) + 1) 1 t.2 = some (bif zaq x.washes then s else 1, ()) := hs (1, t.2) ⟨by rw [hf]; rfl, by rw [hf]; intro h; cases h⟩
   rw [hw] at hok
   rw [<- h3]
   generalize bet (gt x.washes i).from_ 0 63 = a at *; generalize bet (gt x.washes i).to 0 63 = b at *; generalize ((gt x.washes i).from_ != (gt x.washes i).to) = c at *; generalize bet (gt x.washes i).minutes 0 100000 = d at *
   cases a <;> cases b <;> cases c <;> cases d <;> first | (exact absurd hok (by decide)) | rfl
  | true =>
   rw [hw] at hok
   have hb := hok.symm
   simp only [Bool.and_eq_true] at hb
   obtain ⟨⟨⟨b1, b2⟩, b3⟩, b4⟩ := hb
   have c1 := y2o b1; have c2 := y2o b2
   simp only [b1, b2, b3, b4, Bool.and_self, if_true, Option.bind_some, Bool.not_true, Bool.false_eq_true, if_false]
   rw [z8 ⟨by omega, by omega⟩, z8 ⟨by omega, by omega⟩]
   have hkey : ((gt x.washes i).from_.toNat * 64 + (gt x.washes i).to.toNat : Nat) = (keyW (gt x.washes i)).toNat := by unfold keyW; omega
   have hk0 : ((keyW (gt x.washes i)).toNat : Int) = keyW (gt x.washes i) := by unfold keyW; omega
   have key : ∀ e, (e = bif (List.range (i + 1)).all (z6g x.washes) then s else 1) ->
     zq φ n x.washes (x.washes.length : Int) ((i : Int) + 1) e (upd t.2 (keyW (gt x.washes i)).toNat true) = some (bif zaq x.washes then s else 1, ()) := by
    intro e he
    refine hs (e, _) ⟨he, fun hall j => ?_⟩
    rw [hsucc, Bool.and_eq_true] at hall
    rw [zh9 _ _ _ hi, <- h2 hall.1 j]
    show (if j = (keyW (gt x.washes i)).toNat then true else t.2 j) = _
    by_cases hj : j = (keyW (gt x.washes i)).toNat
    ·simp [hj, hk0]
    ·have : (keyW (gt x.washes i) == (j : Int)) = false := by
      simp; intro h; exact hj (by omega)
     simp [hj, this]
   have e64 : ∀ (p : Prop) [Decidable p] (y : Option (Int × Unit)), p -> ck p y = y := fun p _ y hp => z8 hp
   rw [hkey]
   simp only [e64 _ _ (show (0 : Int) <= (gt x.washes i).from_ /\ (gt x.washes i).from_ < 64 by omega), e64 _ _ (show (0 : Int) <= (gt x.washes i).to /\ (gt x.washes i).to < 64 by omega)]
   cases hall : (List.range i).all (z6g x.washes) with
   | true =>
    have hat : z6g x.washes i = !(t.2 (keyW (gt x.washes i)).toNat) := by
     rw [h2 hall]; simp only [z6g, hw, Bool.true_and, hk0]
    cases ht2 : t.2 (keyW (gt x.washes i)).toNat with
    | true =>
     simp only [Bool.not_true, Bool.not_false, if_true]
     refine key 1 ?_
     rw [hsucc, hat, ht2]; simp
    | false =>
     simp only [Bool.not_true, Bool.not_false, Bool.false_eq_true, if_false]
     refine key t.1 ?_
     rw [hsucc, hat, ht2, h1, hall]; simp
   | false =>
    have hf : (List.range (i + 1)).all (z6g x.washes) = false := by rw [hsucc, hall]; rfl
    have ht1 : t.1 = 1 := by rw [h1, hall]; rfl
    rw [ht1]
    split <;> exact key 1 (by rw [hf]; rfl)
 ·intro n t ⟨h1, _⟩
  rw [zq, if_neg (by simp), h1]; rfl
theorem zmi (φ : Nat) (hφ : 5000 < φ) (x : zbf) : zcf φ x = some (z6v x, ()) := by
 have e : (((decide (32 < (x.types.length : Int)) || decide (4096 < (x.wagons.length : Int))) || decide (1024 < (x.swaps.length : Int))) || decide (4096 < (x.washes.length : Int))) =
   (decide (32 < x.types.length) || decide (4096 < x.wagons.length) || decide (1024 < x.swaps.length) || decide (4096 < x.washes.length)) := by
  congr 1
  ·congr 1
   ·congr 1 <;> (apply decide_eq_decide.2; omega)
   ·apply decide_eq_decide.2; omega
  ·apply decide_eq_decide.2; omega
 unfold zcf z6v
 rw [e]
 cases h : (decide (32 < x.types.length) || decide (4096 < x.wagons.length) || decide (1024 < x.swaps.length) || decide (4096 < x.washes.length)) with
 | true => rfl
 | false =>
  simp only [Bool.or_eq_false_iff, decide_eq_false_iff_not, Nat.not_lt] at h
  obtain ⟨⟨⟨h1, h2⟩, h3⟩, h4⟩ := h
  rw [if_neg (by simp), zhm φ (by omega) x h1 _ _ (by omega), zgu _ _ h2 h1 _ _ (by omega), zht _ _ h3 h1 _ _ (by omega), zgh _ _ h4 _ _ (by omega)]
  cases x.types.all zkw <;> cases x.wagons.all (zg1 x.types.length) <;> cases x.swaps.all (zng x.types.length) <;> cases zaq x.washes <;> rfl
theorem zab {x : zbf} (h : z6v x = 0) : x.types.length <= 32 /\ x.wagons.length <= 4096 /\ x.swaps.length <= 1024 /\ x.washes.length <= 4096 /\
  (∀ t ∈ x.types, zkw t = true) /\ (∀ t ∈ x.wagons, zg1 x.types.length t = true) /\ (∀ t ∈ x.swaps, zng x.types.length t = true) /\ zaq x.washes = true := by
 unfold z6v at h
 cases h1 : (decide (32 < x.types.length) || decide (4096 < x.wagons.length) || decide (1024 < x.swaps.length) || decide (4096 < x.washes.length)) with
 | true => rw [h1] at h; cases h
 | false =>
  rw [h1] at h
  simp only [Bool.or_eq_false_iff, decide_eq_false_iff_not, Nat.not_lt] at h1
  obtain ⟨⟨⟨a1, a2⟩, a3⟩, a4⟩ := h1
  cases h2 : (x.types.all zkw && x.wagons.all (zg1 x.types.length) && x.swaps.all (zng x.types.length) && zaq x.washes) with
  | false => rw [h2] at h; cases h
  | true =>
   simp only [Bool.and_eq_true, List.all_eq_true] at h2
   exact ⟨a1, a2, a3, a4, h2.1.1.1, h2.1.1.2, h2.1.2, h2.2⟩
end Px
end
section
namespace Px
open Go
set_option linter.unusedVariables false
set_option linter.unusedSimpArgs false
theorem z7n {c : Int} (h : 0 <= c) (h' : c < 18446744073709551616) : (BitVec.ofInt 64 c).toNat = c.toNat := by
 rw [BitVec.toNat_ofInt]; omega
theorem ya1 {n : Nat} (h : n < 18446744073709551616) : U (n : Int) = n := U_id (by omega) (by omega)
theorem y7f {a b : Nat} (h : a < 18446744073709551616) : a &&& b < 18446744073709551616 := Nat.lt_of_le_of_lt Nat.and_le_left h
theorem y4j {k : Nat} (h : k <= 63) : (2 ^ k : Nat) < 18446744073709551616 := Nat.lt_of_lt_of_le (Nat.pow_lt_pow_right (by decide) (by omega : k < 64)) (by decide)
theorem ycv {c k : Int} (h : 0 <= c) (hk : 0 <= k) (hk' : k <= 63) : c.fdiv (2 ^ (min (k : Int).toNat (IntKind.bits .u64))) = ((c.toNat / 2 ^ k.toNat : Nat) : Int) := by
 have e : min (k : Int).toNat (IntKind.bits .u64) = k.toNat := by simp [IntKind.bits]; omega
 rw [e]
 have e2 : ((2 : Int) ^ k.toNat) = ((2 ^ k.toNat : Nat) : Int) := by simp
 rw [e2, Int.fdiv_eq_ediv_of_nonneg _ (Int.natCast_nonneg _)]
 have : c = (c.toNat : Int) := by omega
 rw [this]; simp
end Px
end
section
namespace Px
open Go
set_option linter.unusedVariables false
set_option linter.unusedSimpArgs false
set_option maxRecDepth 100000
theorem zwx : ((List.range 256).all fun i => decide (0 <= z73 zt i /\ z73 zt i <= 8 /\ i < 2 ^ (z73 zt i).toNat /\ (0 < i -> 0 < z73 zt i /\ 2 ^ ((z73 zt i).toNat - 1) <= i))) = true := by decide +kernel
theorem zm3 {i : Int} (h : 0 <= i) (h' : i < 256) : ∃ n : Nat, z73 zt i = n /\ n <= 8 /\ i.toNat < 2 ^ n /\ (0 < i -> 0 < n /\ 2 ^ (n - 1) <= i.toNat) := by
 have := List.all_eq_true.1 zwx i.toNat (by simp; omega)
 rw [decide_eq_true_eq, show ((i.toNat : Nat) : Int) = i by omega] at this
 obtain ⟨a, b, c, d⟩ := this
 exact ⟨(z73 zt i).toNat, by omega, by omega, c, fun hi => ⟨by have := (d (by omega)).1; omega, (d (by omega)).2⟩⟩
def z71 (v : Nat) (n : Nat) : Prop := v < 2 ^ n /\ (0 < v -> 0 < n /\ 2 ^ (n - 1) <= v)
theorem z71.up {v : Nat} (k : Nat) {n : Nat} (h : z71 (v / 2 ^ k) n) (hv : 2 ^ k <= v) : z71 v (n + k) := by
 have hp := Nat.two_pow_pos k
 have hpos : 0 < v / 2 ^ k := Nat.div_pos hv hp
 obtain ⟨h1, h2⟩ := h
 obtain ⟨h3, h4⟩ := h2 hpos
 refine ⟨?_, fun _ => ⟨by omega, ?_⟩⟩
 ·rw [Nat.pow_add]; exact (Nat.div_lt_iff_lt_mul hp).1 h1
 ·have : n + k - 1 = (n - 1) + k := by omega
  rw [this, Nat.pow_add]; exact (Nat.le_div_iff_mul_le hp).1 h4
theorem y2a (φ : Nat) (v w : Int) (h : 0 <= v) (h' : v < 256) (hw : 0 <= w) (hw' : w <= 64) : ∃ n : Nat, z16 φ v w = some (64 - (w + n), ()) /\ n <= 8 /\ z71 v.toNat n := by
 obtain ⟨n, e, hn, a, b⟩ := zm3 h h'
 have e8 : IntKind.wrap .u8 v = v := by simp [IntKind.wrap, IntKind.bits, IntKind.signed]; omega
 refine ⟨n, ?_, hn, a, fun hv => b (by omega)⟩
 unfold z16
 rw [e8, z8 ⟨h, h'⟩, e, W_id (x := (n : Int)) (by omega) (by omega), W_id (x := w + n) (by omega) (by omega), W_id (by omega) (by omega)]
theorem sh8 (v : Int) : v.fdiv (2 ^ (min (8 : Int).toNat 64)) = v / 256 := by rw [show ((2 : Int) ^ (min (8 : Int).toNat 64)) = 256 by decide]; exact Int.fdiv_eq_ediv_of_nonneg _ (by omega)
theorem sh16 (v : Int) : v.fdiv (2 ^ (min (16 : Int).toNat 64)) = v / 65536 := by rw [show ((2 : Int) ^ (min (16 : Int).toNat 64)) = 65536 by decide]; exact Int.fdiv_eq_ediv_of_nonneg _ (by omega)
theorem sh32 (v : Int) : v.fdiv (2 ^ (min (32 : Int).toNat 64)) = v / 4294967296 := by rw [show ((2 : Int) ^ (min (32 : Int).toNat 64)) = 4294967296 by decide]; exact Int.fdiv_eq_ediv_of_nonneg _ (by omega)
theorem y8b (φ : Nat) (v w : Int) (h : 0 <= v) (h' : v < 65536) (hw : 0 <= w) (hw' : w <= 48) : ∃ n : Nat, z1f φ v w = some (64 - (w + n), ()) /\ n <= 16 /\ z71 v.toNat n := by
 unfold z1f
 by_cases c : 256 <= v
 ·rw [if_pos (by simpa using c), if_pos (by decide), sh8, W_id (by omega) (by omega)]
  obtain ⟨n, e, hn, hl⟩ := y2a φ (v / 256) (w + 8) (by omega) (by omega) (by omega) (by omega)
  refine ⟨n + 8, by rw [e]; congr 2; omega, by omega, ?_⟩
  refine z71.up 8 ?_ (by omega)
  rwa [show v.toNat / 2 ^ 8 = (v / 256).toNat by omega]
 ·rw [if_neg (by simpa using c)]
  obtain ⟨n, e, hn, hl⟩ := y2a φ v w h (by omega) (by omega) (by omega)
  exact ⟨n, e, by omega, hl⟩
theorem y8d (φ : Nat) (v w : Int) (h : 0 <= v) (h' : v < 4294967296) (hw : 0 <= w) (hw' : w <= 32) : ∃ n : Nat, z1e φ v w = some (64 - (w + n), ()) /\ n <= 32 /\ z71 v.toNat n := by
 unfold z1e
 by_cases c : 65536 <= v
 ·rw [if_pos (by simpa using c), if_pos (by decide), sh16, W_id (by omega) (by omega)]
  obtain ⟨n, e, hn, hl⟩ := y8b φ (v / 65536) (w + 16) (by omega) (by omega) (by omega) (by omega)
  refine ⟨n + 16, by rw [e]; congr 2; omega, by omega, ?_⟩
  refine z71.up 16 ?_ (by omega)
  rwa [show v.toNat / 2 ^ 16 = (v / 65536).toNat by omega]
 ·rw [if_neg (by simpa using c)]
  obtain ⟨n, e, hn, hl⟩ := y8b φ v w h (by omega) (by omega) (by omega)
  exact ⟨n, e, by omega, hl⟩
theorem ydv (φ : Nat) (v : Int) (h : 0 <= v) (h' : v < 18446744073709551616) : ∃ n : Nat, z2l φ v = some (64 - (n : Int), ()) /\ n <= 64 /\ z71 v.toNat n := by
 unfold z2l
 by_cases c : 4294967296 <= v
 ·rw [if_pos (by simpa using c), if_pos (by decide), sh32]
  obtain ⟨n, e, hn, hl⟩ := y8d φ (v / 4294967296) 32 (by omega) (by omega) (by omega) (by omega)
  refine ⟨n + 32, by rw [e]; congr 2; omega, by omega, ?_⟩
  refine z71.up 32 ?_ (by omega)
  rwa [show v.toNat / 2 ^ 32 = (v / 4294967296).toNat by omega]
 ·rw [if_neg (by simpa using c)]
  obtain ⟨n, e, hn, hl⟩ := y8d φ v 0 h (by omega) (by omega) (by omega)
  exact ⟨n, by rw [e]; simp, by omega, hl⟩
theorem zki {v : Int} (h : 0 <= v) (h' : v < 18446744073709551616) : U ((BitVec.ofInt 64 v &&& BitVec.ofInt 64 4294967295).toNat) = v % 4294967296 := by
 show U ((BitVec.ofInt 64 v &&& BitVec.ofInt 64 4294967295).toNat : Int) = _
 rw [BitVec.toNat_and, z7n h h', z7n (by omega) (by omega), ya1 (y7f (by omega))]
 have : (4294967295 : Int).toNat = 2 ^ 32 - 1 := by decide
 rw [this, Nat.and_two_pow_sub_one_eq_mod]
 omega
theorem zm8 {a b m n : Int} (ha : 0 <= a) (hb : 0 <= b) (h : a <= m) (h' : b <= n) : 0 <= a * b /\ a * b <= m * n :=
 ⟨Int.mul_nonneg ha hb, Int.mul_le_mul h h' hb (by omega)⟩
theorem zv1 (φ : Nat) (x y : Int) (hx : 0 <= x) (hx' : x < 18446744073709551616) (hy : 0 <= y) (hy' : y < 18446744073709551616) :
  z5w φ x y = some (x * y / 18446744073709551616, x * y % 18446744073709551616, ()) := by
 unfold z5w
 simp only [show (0 : Int) <= 32 by decide, if_true]
 rw [zki hx hx', zki hy hy']
 simp only [sh32]
 have ex : x = x / 4294967296 * 4294967296 + x % 4294967296 := by omega
 have ey : y = y / 4294967296 * 4294967296 + y % 4294967296 := by omega
 have a1 : 0 <= x / 4294967296 /\ x / 4294967296 <= 4294967295 := by omega
 have a0 : 0 <= x % 4294967296 /\ x % 4294967296 <= 4294967295 := by omega
 have b1 : 0 <= y / 4294967296 /\ y / 4294967296 <= 4294967295 := by omega
 have b0 : 0 <= y % 4294967296 /\ y % 4294967296 <= 4294967295 := by omega
 have hxy : x * y = (x / 4294967296) * (y / 4294967296) * 18446744073709551616 + ((x / 4294967296) * (y % 4294967296) + (x % 4294967296) * (y / 4294967296)) * 4294967296 + (x % 4294967296) * (y % 4294967296) := by
  conv => lhs; rw [ex, ey]
  generalize x / 4294967296 = a; generalize x % 4294967296 = b; generalize y / 4294967296 = c; generalize y % 4294967296 = d
  rw [Int.add_mul, Int.mul_add, Int.mul_add, Int.add_mul]
  have e1 : a * 4294967296 * (c * 4294967296) = a * c * 18446744073709551616 := by
   rw [Int.mul_assoc, Int.mul_left_comm 4294967296 c, <- Int.mul_assoc]; rfl
  have e2 : a * 4294967296 * d = a * d * 4294967296 := by rw [Int.mul_right_comm]
  have e3 : b * (c * 4294967296) = b * c * 4294967296 := by rw [Int.mul_assoc]
  rw [e1, e2, e3]; omega
 have p11 := zm8 a1.1 b1.1 a1.2 b1.2
 have p10 := zm8 a1.1 b0.1 a1.2 b0.2
 have p01 := zm8 a0.1 b1.1 a0.2 b1.2
 have p00 := zm8 a0.1 b0.1 a0.2 b0.2
 rw [y05 (x * y), hxy]
 generalize (x / 4294967296) * (y / 4294967296) = p at *; generalize (x / 4294967296) * (y % 4294967296) = q at *
 generalize (x % 4294967296) * (y / 4294967296) = r at *; generalize (x % 4294967296) * (y % 4294967296) = s at *
 clear hxy ex ey a1 a0 b1 b0
 rw [U_id (x := p) (by omega) (by omega), U_id (x := q) (by omega) (by omega), U_id (x := r) (by omega) (by omega), U_id (x := s) (by omega) (by omega)]
 rw [U_id (x := q + s / 4294967296) (by omega) (by omega), zki (by omega) (by omega),
  U_id (x := (q + s / 4294967296) % 4294967296 + r) (by omega) (by omega), U_id (x := p + (q + s / 4294967296) / 4294967296) (by omega) (by omega), U_id (by omega) (by omega)]
 refine congrArg some (Prod.ext ?_ rfl)
 show _ = _
 omega
theorem ycx {yn1 yn0 u d q r : Int} (h1 : 2147483648 <= yn1) (h1' : yn1 < 4294967296) (h0 : 0 <= yn0) (h0' : yn0 < 4294967296) (hd : 0 <= d) (hd' : d < 4294967296) (hu : 0 <= u)
  (hu' : u < yn1 * 4294967296 + yn0) (hqr : q * yn1 + r = u) (hr : 0 <= r) (hr' : r < 4294967296) (hq : (u * 4294967296 + d) / (yn1 * 4294967296 + yn0) <= q) :
  0 <= q /\ q <= 4294967297 /\ 0 <= (u * 4294967296 + d) / (yn1 * 4294967296 + yn0) /\ (u * 4294967296 + d) / (yn1 * 4294967296 + yn0) < 4294967296 /\
  (4294967296 <= q \/ 4294967296 * r + d < q * yn0 -> (u * 4294967296 + d) / (yn1 * 4294967296 + yn0) <= q - 1) /\
  (¬ (4294967296 <= q \/ 4294967296 * r + d < q * yn0) -> q = (u * 4294967296 + d) / (yn1 * 4294967296 + yn0)) /\
  (4294967296 <= q \/ 4294967296 * r + d < q * yn0 -> 4294967296 <= r + yn1 -> q - 1 = (u * 4294967296 + d) / (yn1 * 4294967296 + yn0)) := by
 have hY : 0 < yn1 * 4294967296 + yn0 := by omega
 have hQ0 : 0 <= (u * 4294967296 + d) / (yn1 * 4294967296 + yn0) := Int.ediv_nonneg (by omega) (by omega)
 have hQ1 : (u * 4294967296 + d) / (yn1 * 4294967296 + yn0) < 4294967296 := Int.ediv_lt_of_lt_mul hY (by omega)
 have hq0 : 0 <= q := by omega
 have key : q * (yn1 * 4294967296 + yn0) = (u - r) * 4294967296 + q * yn0 := by
  rw [Int.mul_add, <- Int.mul_assoc, <- hqr]; omega
 have hq2 : q <= 4294967297 := by
  rcases Int.lt_or_le 4294967297 q with h | h
  ·have : 4294967298 * yn1 <= q * yn1 := Int.mul_le_mul_of_nonneg_right (by omega) (by omega)
   omega
  ·exact h
 have lt_of : ∀ {z : Int}, (u * 4294967296 + d) / (yn1 * 4294967296 + yn0) < z ↔ u * 4294967296 + d < z * (yn1 * 4294967296 + yn0) := fun {z} => Int.ediv_lt_iff_lt_mul hY
 refine ⟨hq0, hq2, hQ0, hQ1, fun h => ?_, fun h => ?_, fun h hr2 => ?_⟩
 ·have : (u * 4294967296 + d) / (yn1 * 4294967296 + yn0) < q := by
   rcases h with h | h
   ·omega
   ·rw [lt_of, key]; omega
  omega
 ·have : ¬ (u * 4294967296 + d) / (yn1 * 4294967296 + yn0) < q := by rw [lt_of, key]; omega
  omega
 ·have hq1 : (u * 4294967296 + d) / (yn1 * 4294967296 + yn0) < q := by
   rcases h with h | h
   ·omega
   ·rw [lt_of, key]; omega
  have h2 : ¬ (u * 4294967296 + d) / (yn1 * 4294967296 + yn0) < q - 1 := by
   rw [lt_of]
   have e : (q - 1) * (yn1 * 4294967296 + yn0) = (u - (r + yn1)) * 4294967296 + (q - 1) * yn0 := by
    have : (q - 1) * yn1 + (r + yn1) = u := by rw [Int.sub_mul]; omega
    rw [Int.mul_add, <- Int.mul_assoc, <- this]; omega
   have b := (zm8 (by omega : 0 <= q - 1) h0 (by omega : q - 1 <= 4294967296) (by omega : yn0 <= 4294967295)).2
   rw [e]; omega
  omega
theorem mulB {a b : Int} (h : 0 <= a) (h' : a < 4294967296) (g : 0 <= b) (g' : b < 4294967296) : 0 <= a * b /\ a * b <= 18446744065119617025 :=
 zm8 h g (by omega : a <= 4294967295) (by omega : b <= 4294967295)
theorem znn {ρ : Type} (L : Nat -> Int -> Int -> Option ρ) (k : Int -> Option ρ) {yn1 yn0 u d : Int} (h1 : 2147483648 <= yn1) (h1' : yn1 < 4294967296) (h0 : 0 <= yn0) (h0' : yn0 < 4294967296) (hd : 0 <= d) (hd' : d < 4294967296) (hu : 0 <= u)
  (hu' : u < yn1 * 4294967296 + yn0)
  (step : ∀ n q r, L (n + 1) q r = if (decide (4294967296 <= q) || decide (U (U (4294967296 * r) + d) < U (q * yn0))) = true then (if decide (4294967296 <= U (r + yn1)) = true then k (U (q - 1)) else L n (U (q - 1)) (U (r + yn1))) else k q) :
  ∀ (n : Nat) q r, q * yn1 + r = u -> 0 <= r -> r < 4294967296 -> (u * 4294967296 + d) / (yn1 * 4294967296 + yn0) <= q -> 4294967296 - r <= 2147483648 * n -> L (n + 1) q r = k ((u * 4294967296 + d) / (yn1 * 4294967296 + yn0)) := by
 intro n
 induction n with
 | zero => intro q r _ _ _ _ h; omega
 | succ n ih =>
  intro q r hqr hr hr' hq hn
  obtain ⟨g0, g1, g2, g3, g4, g5, g6⟩ := ycx h1 h1' h0 h0' hd hd' hu hu' hqr hr hr' hq
  have hc : (decide (4294967296 <= q) || decide (U (U (4294967296 * r) + d) < U (q * yn0))) = true ↔ (4294967296 <= q \/ 4294967296 * r + d < q * yn0) := by
   rw [Bool.or_eq_true, decide_eq_true_eq, decide_eq_true_eq]
   by_cases hqB : 4294967296 <= q
   ·simp [hqB]
   ·have := mulB g0 (by omega : q < 4294967296) h0 h0'
    rw [U_id (x := 4294967296 * r) (by omega) (by omega), U_id (by omega) (by omega), U_id (by omega) (by omega)]
  rw [step]
  by_cases c : 4294967296 <= q \/ 4294967296 * r + d < q * yn0
  ·have a4 := g4 c
   rw [if_pos (hc.2 c), U_id (x := r + yn1) (by omega) (by omega), U_id (x := q - 1) (by omega) (by omega)]
   by_cases e : 4294967296 <= r + yn1
   ·rw [if_pos (by simpa using e), g6 c e]
   ·rw [if_neg (by simpa using e)]
    exact ih _ _ (by rw [Int.sub_mul]; omega) (by omega) (by omega) a4 (by omega)
  ·rw [if_neg (fun h => c (hc.1 h)), <- g5 c]
theorem zlr {yn1 yn0 u d : Int} (h1 : 2147483648 <= yn1) (h1' : yn1 < 4294967296) (h0 : 0 <= yn0) (h0' : yn0 < 4294967296) (hd : 0 <= d) (hd' : d < 4294967296) (hu : 0 <= u)
  (hu' : u < yn1 * 4294967296 + yn0) : U (u.tdiv yn1) = u / yn1 /\ U (u - U (U (u.tdiv yn1) * yn1)) = u % yn1 /\ u / yn1 * yn1 + u % yn1 = u /\ 0 <= u % yn1 /\ u % yn1 < 4294967296 /\
  (u * 4294967296 + d) / (yn1 * 4294967296 + yn0) <= u / yn1 := by
 have e1 : u.tdiv yn1 = u / yn1 := Int.tdiv_eq_ediv_of_nonneg hu
 have hdm : u / yn1 * yn1 + u % yn1 = u := by have := Int.ediv_mul_add_emod u yn1; exact this
 have hm0 := Int.emod_nonneg u (by omega : yn1 ≠ 0)
 have hm1 := Int.emod_lt_of_pos u (by omega : 0 < yn1)
 have hq0 : 0 <= u / yn1 := Int.ediv_nonneg hu (by omega)
 have hq1 : u / yn1 <= u := Int.ediv_le_self _ hu
 have hqm : 0 <= u / yn1 * yn1 := Int.mul_nonneg hq0 (by omega)
 rw [e1, U_id hq0 (by omega), U_id (x := u / yn1 * yn1) (by omega) (by omega), U_id (by omega) (by omega)]
 refine ⟨rfl, by omega, hdm, hm0, by omega, ?_⟩
 have hY : 0 < yn1 * 4294967296 + yn0 := by omega
 have hQ0 : 0 <= (u * 4294967296 + d) / (yn1 * 4294967296 + yn0) := Int.ediv_nonneg (by omega) (by omega)
 have hQ := Int.ediv_mul_le (u * 4294967296 + d) (b := yn1 * 4294967296 + yn0) (by omega)
 generalize (u * 4294967296 + d) / (yn1 * 4294967296 + yn0) = z at *
 rw [Int.mul_add, <- Int.mul_assoc] at hQ
 have := Int.mul_nonneg hQ0 h0
 exact (Int.le_ediv_iff_mul_le (by omega)).2 (by omega)
theorem y87 (a b c : Int) : U (U (U a + b) - U c) = U (a + b - c) := by
 simp only [y05]; omega
theorem ydh {a b : Int} {s : Nat} (hs : s <= 63) (ha : 0 <= a) (h : a * 2 ^ s < 18446744073709551616) (hb : 0 <= b) (hb' : b < 2 ^ s) :
  U ((BitVec.ofInt 64 (U (a * 2 ^ s)) ||| BitVec.ofInt 64 b).toNat) = a * 2 ^ s + b := by
 have hp : (0 : Int) < 2 ^ s := Int.pow_pos (by decide)
 have hn := Int.mul_nonneg ha (Int.le_of_lt hp)
 have hp2 : (2 : Int) ^ s = ((2 ^ s : Nat) : Int) := by simp
 have hlt : (2 ^ s : Nat) < 18446744073709551616 := y4j hs
 rw [U_id hn (by omega)]
 show U ((BitVec.ofInt 64 (a * 2 ^ s) ||| BitVec.ofInt 64 b).toNat : Int) = _
 have hlt2 := (BitVec.ofInt 64 (a * 2 ^ s) ||| BitVec.ofInt 64 b).isLt
 rw [ya1 (by omega), BitVec.toNat_or, z7n hn h, z7n hb (by omega)]
 obtain ⟨n, rfl⟩ := Int.eq_ofNat_of_zero_le ha
 obtain ⟨m, rfl⟩ := Int.eq_ofNat_of_zero_le hb
 have e : ((n : Int) * 2 ^ s).toNat = 2 ^ s * n := by rw [hp2, <- Int.natCast_mul, Int.toNat_natCast, Nat.mul_comm]
 rw [e, Int.toNat_natCast, <- Nat.two_pow_add_eq_or_of_lt (by rw [hp2] at hb'; omega)]
 simp [Int.mul_comm]
theorem zim (φ : Nat) (v : Int) (h : 0 < v) (h' : v < 18446744073709551616) : ∃ s : Nat, z2l φ v = some ((s : Int), ()) /\ s <= 63 /\
  9223372036854775808 <= v * 2 ^ s /\ v * 2 ^ s < 18446744073709551616 /\ v <= 2 ^ (64 - s) := by
 obtain ⟨n, e, hn, h1, h2⟩ := ydv φ v (by omega) h'
 obtain ⟨h3, h4⟩ := h2 (by omega)
 refine ⟨64 - n, ?_, by omega, ?_, ?_, ?_⟩
 ·rw [e]; congr 2; omega
 ·have : 2 ^ (n - 1) * 2 ^ (64 - n) <= v.toNat * 2 ^ (64 - n) := Nat.mul_le_mul_right _ h4
  rw [<- Nat.pow_add, show n - 1 + (64 - n) = 63 by omega] at this
  have e2 : ((v.toNat * 2 ^ (64 - n) : Nat) : Int) = v * 2 ^ (64 - n) := by
   rw [Int.natCast_mul, Int.natCast_pow]; congr 1; omega
  omega
 ·have : v.toNat * 2 ^ (64 - n) < 2 ^ n * 2 ^ (64 - n) := Nat.mul_lt_mul_of_pos_right h1 (Nat.two_pow_pos _)
  rw [<- Nat.pow_add, show n + (64 - n) = 64 by omega] at this
  have e2 : ((v.toNat * 2 ^ (64 - n) : Nat) : Int) = v * 2 ^ (64 - n) := by
   rw [Int.natCast_mul, Int.natCast_pow]; congr 1; omega
  omega
 ·rw [show 64 - (64 - n) = n by omega]
  have e2 : ((2 ^ n : Nat) : Int) = (2 : Int) ^ n := by simp
  omega
theorem y6r (φ : Nat) (hφ : 5 < φ) (hi lo y : Int) (h0 : 0 <= hi) (hy : hi < y) (hy' : y < 18446744073709551616) (hl : 0 <= lo) (hl' : lo < 18446744073709551616) :
  z5u φ hi lo y = some ((hi * 18446744073709551616 + lo) / y, (hi * 18446744073709551616 + lo) % y, ()) := by
 unfold z5u
 rw [if_neg (by simp; omega), if_neg (by simp; omega)]
 by_cases hz : hi = 0
 ·subst hz
  rw [if_pos (by simp), z8 (by omega), z8 (by omega), Int.tdiv_eq_ediv_of_nonneg hl, Int.tmod_eq_emod_of_nonneg hl, U_id (Int.ediv_nonneg hl (by omega)) (by have := Int.ediv_le_self y hl; omega)]
  simp
 rw [if_neg (by simpa using hz)]
 obtain ⟨s, es, hs, hY1, hY2, hyP⟩ := zim φ y (by omega) hy'
 have em1 : min (s : Int).toNat 64 = s := by omega
 have em2 : min (64 - (s : Int)).toNat 64 = 64 - s := by omega
 have hp : (0 : Int) < 2 ^ s := Int.pow_pos (by decide)
 have hP : (0 : Int) < 2 ^ (64 - s) := Int.pow_pos (by decide)
 have hpP : (2 : Int) ^ s * 2 ^ (64 - s) = 18446744073709551616 := by rw [<- Int.pow_add, show s + (64 - s) = 64 by omega]; rfl
 have hhp : hi * 2 ^ s < y * 2 ^ s := Int.mul_lt_mul_of_pos_right hy hp
 have hlP0 : 0 <= lo / 2 ^ (64 - s) := Int.ediv_nonneg hl (by omega)
 have hlP1 : lo / 2 ^ (64 - s) < 2 ^ s := Int.ediv_lt_of_lt_mul hP (by omega)
 have hh0 : 0 <= hi * 2 ^ s := Int.mul_nonneg h0 (by omega)
 -- the low word
 have hlo10 : U (lo * 2 ^ s) = lo % 2 ^ (64 - s) * 2 ^ s := by
  have e : lo = lo / 2 ^ (64 - s) * 2 ^ (64 - s) + lo % 2 ^ (64 - s) := (Int.ediv_mul_add_emod lo _).symm
  have e2 : lo * 2 ^ s = lo / 2 ^ (64 - s) * 18446744073709551616 + lo % 2 ^ (64 - s) * 2 ^ s := by
   conv => lhs; rw [e]
   rw [Int.add_mul, Int.mul_assoc, Int.mul_comm (2 ^ (64 - s)), hpP]
  have m0 := Int.emod_nonneg lo (by omega : (2 : Int) ^ (64 - s) ≠ 0)
  have m1 := Int.emod_lt_of_pos lo hP
  have m2 : lo % 2 ^ (64 - s) * 2 ^ s < 2 ^ (64 - s) * 2 ^ s := Int.mul_lt_mul_of_pos_right m1 hp
  have m3 := Int.mul_nonneg m0 (Int.le_of_lt hp)
  rw [Int.mul_comm (2 ^ (64 - s))] at m2
  rw [e2, y05]; omega
 have hN : (hi * 2 ^ s + lo / 2 ^ (64 - s)) * 18446744073709551616 + lo % 2 ^ (64 - s) * 2 ^ s = (hi * 18446744073709551616 + lo) * 2 ^ s := by
  have e : lo = lo / 2 ^ (64 - s) * 2 ^ (64 - s) + lo % 2 ^ (64 - s) := (Int.ediv_mul_add_emod lo _).symm
  have e2 : lo * 2 ^ s = lo / 2 ^ (64 - s) * 18446744073709551616 + lo % 2 ^ (64 - s) * 2 ^ s := by
   conv => lhs; rw [e]
   rw [Int.add_mul, Int.mul_assoc, Int.mul_comm (2 ^ (64 - s)), hpP]
  have e3 : (hi * 18446744073709551616 + lo) * 2 ^ s = hi * 2 ^ s * 18446744073709551616 + lo * 2 ^ s := by rw [Int.add_mul, Int.mul_right_comm]
  rw [e3, e2]; omega
 have hun0 : 0 <= lo % 2 ^ (64 - s) * 2 ^ s := Int.mul_nonneg (Int.emod_nonneg lo (by omega)) (by omega)
 have hun1 : lo % 2 ^ (64 - s) * 2 ^ s < 18446744073709551616 := by
  rw [<- hlo10, y05]; omega
 have hu' : hi * 2 ^ s + lo / 2 ^ (64 - s) < y * 2 ^ s := by
  have : (hi + 1) * 2 ^ s <= y * 2 ^ s := Int.mul_le_mul_of_nonneg_right (by omega) (by omega)
  rw [Int.add_mul] at this; omega
 have hs1 : U (s : Int) = s := U_id (by omega) (by omega)
 have hs2 : U (64 - (s : Int)) = 64 - (s : Int) := U_id (by omega) (by omega)
 have ef : lo.fdiv (2 ^ (64 - s)) = lo / 2 ^ (64 - s) := Int.fdiv_eq_ediv_of_nonneg _ (by omega)
 have eor := ydh hs h0 (by omega : hi * 2 ^ s < 18446744073709551616) hlP0 hlP1
 obtain ⟨Y, hYd⟩ : ∃ Y, Y = y * 2 ^ s := ⟨_, rfl⟩
 have eY : U (y * 2 ^ s) = Y := by rw [hYd]; exact U_id (by omega) (by omega)
 obtain ⟨u, hud⟩ : ∃ u, u = hi * 2 ^ s + lo / 2 ^ (64 - s) := ⟨_, rfl⟩
 obtain ⟨w, hwd⟩ : ∃ w, w = lo % 2 ^ (64 - s) * 2 ^ s := ⟨_, rfl⟩
 rw [<- hwd] at hlo10 hN hun0 hun1
 rw [<- hud] at hN hu' eor
 rw [<- hYd] at hu' hY1 hY2 hhp
 have hu0 : 0 <= u := by omega
 have fY : Y.fdiv 4294967296 = Y / 4294967296 := Int.fdiv_eq_ediv_of_nonneg _ (by omega)
 have fw : w.fdiv 4294967296 = w / 4294967296 := Int.fdiv_eq_ediv_of_nonneg _ (by omega)
 have mY := zki (v := Y) (by omega) (by omega)
 have mw := zki (v := w) (by omega) (by omega)
 have b1 : 2147483648 <= Y / 4294967296 /\ Y / 4294967296 < 4294967296 /\ 0 <= Y % 4294967296 /\ Y % 4294967296 < 4294967296 := by omega
 have b2 : 0 <= w / 4294967296 /\ w / 4294967296 < 4294967296 /\ 0 <= w % 4294967296 /\ w % 4294967296 < 4294967296 := by omega
 have eYs : Y / 4294967296 * 4294967296 + Y % 4294967296 = Y := by omega
 obtain ⟨m, rfl⟩ : ∃ m, φ = m + 3 := ⟨φ - 3, by omega⟩
 rw [es]
 simp only [Option.bind_some, hs1, hs2, em1, em2, sh32, eY, hlo10, mY, mw, ef, eor, show (0 : Int) <= 32 by decide, if_true]
 rw [z8 (by omega), z8 (by omega), z8 (by omega), z8 (by omega), z8 (by omega)]
 obtain ⟨i1, i2, i3, i4, i5, i6⟩ := zlr (u := u) (d := w / 4294967296) b1.1 b1.2.1 b1.2.2.1 b1.2.2.2 b2.1 b2.2.1 hu0 (by omega)
 rw [i1] at i2 ⊢
 rw [i2]
 refine (znn (fun n q r => z56 (m + 3) n Y s (Y / 4294967296) (Y % 4294967296) u (w / 4294967296) (w % 4294967296) q r) (fun q => z5e (m + 3) Y s (Y / 4294967296) (Y % 4294967296) u (w / 4294967296) (w % 4294967296) q)
  b1.1 b1.2.1 b1.2.2.1 b1.2.2.2 b2.1 b2.2.1 hu0 (by omega) (fun n q r => by rw [z56]) (m + 2) _ _ i3 i4 i5 i6 (by omega)).trans ?_
 rw [eYs]
 unfold z5e
 rw [z8 (by omega)]
 have hQ1 : 0 <= (u * 4294967296 + w / 4294967296) / Y /\ (u * 4294967296 + w / 4294967296) / Y < 4294967296 := ⟨Int.ediv_nonneg (by omega) (by omega), Int.ediv_lt_of_lt_mul (by omega) (by omega)⟩
 have hR1 := Int.ediv_mul_add_emod (u * 4294967296 + w / 4294967296) Y
 have hR1a := Int.emod_nonneg (u * 4294967296 + w / 4294967296) (by omega : Y ≠ 0)
 have hR1b := Int.emod_lt_of_pos (u * 4294967296 + w / 4294967296) (by omega : 0 < Y)
 generalize (u * 4294967296 + w / 4294967296) / Y = q1 at *
 generalize (u * 4294967296 + w / 4294967296) % Y = r1 at *
 have eu21 : U (U (U (u * 4294967296) + w / 4294967296) - U (q1 * Y)) = r1 := by
  rw [y87, show u * 4294967296 + w / 4294967296 - q1 * Y = r1 by omega]; exact U_id hR1a (by omega)
 rw [eu21]
 obtain ⟨j1, j2, j3, j4, j5, j6⟩ := zlr (u := r1) (d := w % 4294967296) b1.1 b1.2.1 b1.2.2.1 b1.2.2.2 b2.2.2.1 b2.2.2.2 hR1a (by omega)
 rw [j1] at j2 ⊢
 rw [j2]
 refine (znn (fun n q r => z5i (m + 3) n Y s (Y / 4294967296) (Y % 4294967296) (w % 4294967296) q1 r r1 q) (fun q => z5b (m + 3) Y s (w % 4294967296) q1 r1 q)
  b1.1 b1.2.1 b1.2.2.1 b1.2.2.2 b2.2.2.1 b2.2.2.2 hR1a (by omega) (fun n q r => by rw [z5i]) (m + 2) _ _ j3 j4 j5 j6 (by omega)).trans ?_
 rw [eYs]
 unfold z5b
 rw [em1, z8 (by omega)]
 have hQ0 : 0 <= (r1 * 4294967296 + w % 4294967296) / Y /\ (r1 * 4294967296 + w % 4294967296) / Y < 4294967296 := ⟨Int.ediv_nonneg (by omega) (by omega), Int.ediv_lt_of_lt_mul (by omega) (by omega)⟩
 have hR0 := Int.ediv_mul_add_emod (r1 * 4294967296 + w % 4294967296) Y
 have hR0a := Int.emod_nonneg (r1 * 4294967296 + w % 4294967296) (by omega : Y ≠ 0)
 have hR0b := Int.emod_lt_of_pos (r1 * 4294967296 + w % 4294967296) (by omega : 0 < Y)
 generalize (r1 * 4294967296 + w % 4294967296) / Y = q0 at *
 generalize (r1 * 4294967296 + w % 4294967296) % Y = r0 at *
 rw [y87, show r1 * 4294967296 + w % 4294967296 - q0 * Y = r0 by omega, U_id (x := r0) hR0a (by omega), U_id (x := q1 * 4294967296) (by omega) (by omega), U_id (by omega) (by omega), Int.fdiv_eq_ediv_of_nonneg _ (by omega)]
 have hall : (hi * 18446744073709551616 + lo - (q1 * 4294967296 + q0) * y) * 2 ^ s = r0 := by
  rw [Int.sub_mul, <- hN, Int.mul_assoc, <- hYd, Int.add_mul, Int.mul_right_comm]; omega
 have hz0 : 0 <= hi * 18446744073709551616 + lo - (q1 * 4294967296 + q0) * y := by
  rcases Int.lt_or_le (hi * 18446744073709551616 + lo - (q1 * 4294967296 + q0) * y) 0 with h | h
  ·have := Int.mul_neg_of_neg_of_pos h hp; omega
  ·exact h
 have hz1 : hi * 18446744073709551616 + lo - (q1 * 4294967296 + q0) * y < y := by
  refine Int.lt_of_mul_lt_mul_right (a := 2 ^ s) ?_ (by omega)
  rw [hall, <- hYd]; exact hR0b
 have hr0 : r0 / 2 ^ s = hi * 18446744073709551616 + lo - (q1 * 4294967296 + q0) * y := by
  rw [<- hall]; exact Int.mul_ediv_cancel _ (by omega)
 have hdm : (hi * 18446744073709551616 + lo) / y = q1 * 4294967296 + q0 /\ (hi * 18446744073709551616 + lo) % y = hi * 18446744073709551616 + lo - (q1 * 4294967296 + q0) * y :=
  (Int.ediv_emod_unique (by omega)).2 ⟨by rw [Int.mul_comm y]; omega, hz0, hz1⟩
 rw [hr0, hdm.1, hdm.2]
end Px
end
section
namespace Px
open Go
set_option linter.unusedVariables false
set_option linter.unusedSimpArgs false
set_option maxRecDepth 100000
def PP : Nat := 2305843009213690799
def QQ : Nat := 1152921504606845399
def pw (b n : Nat) : Nat := b ^ n % PP
theorem y09 (b n : Nat) : pw b n < PP := Nat.mod_lt _ (by decide)
theorem yaq (b : Nat) : pw b 0 = 1 := by simp [pw, PP]
theorem y7j (b m n : Nat) : pw b m * pw b n % PP = pw b (m + n) := by
 unfold pw; rw [Nat.pow_add, <- Nat.mul_mod]
theorem ybr (b : Nat) : pw b 1 = b % PP := by simp [pw]
theorem ybh {a : Nat} (h : a < PP) : ((a : Int)).tmod 2305843009213690799 = (a : Int) := by
 unfold PP at h
 rw [Int.tmod_eq_emod_of_nonneg (by omega)]; omega
theorem yc0 (b : Nat) : ((b : Int)).tmod 2305843009213690799 = ((b % PP : Nat) : Int) := by
 rw [Int.tmod_eq_emod_of_nonneg (by omega)]; unfold PP; omega
theorem zzn {ρ : Type} {a b : Nat} (ha : a < PP) (hb : b < PP) (φ : Nat) (hφ : 5 < φ) (K : Int -> Option ρ) : ((z5w φ (a : Int) (b : Int)).bind fun y => (z5u φ y.1 y.2.1 2305843009213690799).bind fun z => K z.2.1) = K ((a * b % PP : Nat) : Int) := by
 have ha' : (a : Int) < 2305843009213690799 := by unfold PP at ha; omega
 have hb' : (b : Int) < 2305843009213690799 := by unfold PP at hb; omega
 have hp := zm8 (by omega : 0 <= (a : Int)) (by omega : 0 <= (b : Int)) (by omega : (a : Int) <= 2305843009213690798) (by omega : (b : Int) <= 2305843009213690798)
 rw [zv1 φ _ _ (by omega) (by omega) (by omega) (by omega), Option.bind_some]
 generalize hz : (a : Int) * (b : Int) = z at *
 show (z5u φ (z / 18446744073709551616) (z % 18446744073709551616) 2305843009213690799).bind _ = _
 rw [y6r φ hφ _ _ _ (by omega) (by omega) (by omega) (by omega) (by omega), Option.bind_some]
 congr 1
 have : z / 18446744073709551616 * 18446744073709551616 + z % 18446744073709551616 = z := by omega
 show (z / 18446744073709551616 * 18446744073709551616 + z % 18446744073709551616) % 2305843009213690799 = _
 rw [this, <- hz, Int.natCast_emod, Int.natCast_mul]; rfl
theorem z71.uniq {v m n : Nat} (hv : 0 < v) (h : z71 v m) (k : z71 v n) : m = n := by
 obtain ⟨h1, h2⟩ := h
 obtain ⟨k1, k2⟩ := k
 obtain ⟨h3, h4⟩ := h2 hv
 obtain ⟨k3, k4⟩ := k2 hv
 have a : m - 1 < n := (Nat.pow_lt_pow_iff_right (by decide : 1 < 2)).1 (Nat.lt_of_le_of_lt h4 k1)
 have b : n - 1 < m := (Nat.pow_lt_pow_iff_right (by decide : 1 < 2)).1 (Nat.lt_of_le_of_lt k4 h1)
 omega
section first
variable (φ : Nat) (b n a p : Int)
theorem y1b (v w : Int) (h : 0 <= v) (h' : v < 256) (hw : 0 <= w) (hw' : w <= 64) : ∃ m : Nat, z8a φ v w b n a p = z0h φ φ b n a (w + m) 0 p /\ m <= 8 /\ z71 v.toNat m := by
 obtain ⟨m, e, hm, x, y⟩ := zm3 h h'
 have e8 : IntKind.wrap .u8 v = v := by simp [IntKind.wrap, IntKind.bits, IntKind.signed]; omega
 refine ⟨m, ?_, hm, x, fun hv => y (by omega)⟩
 unfold z8a
 rw [e8, z8 ⟨h, h'⟩, e, W_id (x := (m : Int)) (by omega) (by omega), W_id (x := w + m) (by omega) (by omega)]
theorem zzq (v w : Int) (h : 0 <= v) (h' : v < 65536) (hw : 0 <= w) (hw' : w <= 48) : ∃ m : Nat, z8c φ v w b n a p = z0h φ φ b n a (w + m) 0 p /\ m <= 16 /\ z71 v.toNat m := by
 unfold z8c
 by_cases c : 256 <= v
 ·rw [if_pos (by simpa using c), if_pos (by decide), sh8, W_id (by omega) (by omega)]
  obtain ⟨m, e, hn, hl⟩ := y1b φ b n a p (v / 256) (w + 8) (by omega) (by omega) (by omega) (by omega)
  refine ⟨m + 8, by rw [e]; congr 1; omega, by omega, ?_⟩
  refine z71.up 8 ?_ (by omega)
  rwa [show v.toNat / 2 ^ 8 = (v / 256).toNat by omega]
 ·rw [if_neg (by simpa using c)]
  obtain ⟨m, e, hn, hl⟩ := y1b φ b n a p v w h (by omega) (by omega) (by omega)
  exact ⟨m, e, by omega, hl⟩
theorem y7b (v w : Int) (h : 0 <= v) (h' : v < 4294967296) (hw : 0 <= w) (hw' : w <= 32) : ∃ m : Nat, za0 φ v w b n a p = z0h φ φ b n a (w + m) 0 p /\ m <= 32 /\ z71 v.toNat m := by
 unfold za0
 by_cases c : 65536 <= v
 ·rw [if_pos (by simpa using c), if_pos (by decide), sh16, W_id (by omega) (by omega)]
  obtain ⟨m, e, hn, hl⟩ := zzq φ b n a p (v / 65536) (w + 16) (by omega) (by omega) (by omega) (by omega)
  refine ⟨m + 16, by rw [e]; congr 1; omega, by omega, ?_⟩
  refine z71.up 16 ?_ (by omega)
  rwa [show v.toNat / 2 ^ 16 = (v / 65536).toNat by omega]
 ·rw [if_neg (by simpa using c)]
  obtain ⟨m, e, hn, hl⟩ := zzq φ b n a p v w h (by omega) (by omega) (by omega)
  exact ⟨m, e, by omega, hl⟩
end first
def zhu (φ : Nat) (k : Int -> Int -> Int -> Int -> Int -> Int -> Option (Int × Unit)) (L x57 x58 x59 x60 x61 x62 x63 x64 : Int) : Option (Int × Unit) :=
 ck (0 <= (W ((W (L - 1)) - x60))) (if (((U ((BitVec.ofInt 64 ((x63 : Int).fdiv (2 ^ (min ((W ((W (L - 1)) - x60)) : Int).toNat 64))) &&& BitVec.ofInt 64 1).toNat)) : Int) == 1) = true then (ck (x64 ≠ 0) (ck (x64 ≠ 0) ((z5w φ ((x59 : Int).tmod x64) ((x57 : Int).tmod x64)).bind fun y66 => ((z5u φ y66.1 y66.2.1 x64).bind fun y67 => (k x57 x58 y67.2.1 x61 (W (x62 + 1)) x64))))) else (k x57 x58 x59 x61 (W (x62 + 1)) x64))
section second
variable (φ : Nat) (k : Int -> Int -> Int -> Int -> Int -> Int -> Option (Int × Unit)) (x57 x58 x59 x60 x61 x62 x63 x64 : Int)
theorem zy9 (v w : Int) (h : 0 <= v) (h' : v < 256) (hw : 0 <= w) (hw' : w <= 64) : ∃ m : Nat, z89 φ k v w x57 x58 x59 x60 x61 x62 x63 x64 = zhu φ k (w + m) x57 x58 x59 x60 x61 x62 x63 x64 /\ m <= 8 /\ z71 v.toNat m := by
 obtain ⟨m, e, hm, x, y⟩ := zm3 h h'
 have e8 : IntKind.wrap .u8 v = v := by simp [IntKind.wrap, IntKind.bits, IntKind.signed]; omega
 refine ⟨m, ?_, hm, x, fun hv => y (by omega)⟩
 unfold z89 zhu
 rw [e8, z8 ⟨h, h'⟩, e, W_id (x := (m : Int)) (by omega) (by omega), W_id (x := w + m) (by omega) (by omega)]
theorem y1c (v w : Int) (h : 0 <= v) (h' : v < 65536) (hw : 0 <= w) (hw' : w <= 48) : ∃ m : Nat, z8b φ k v w x57 x58 x59 x60 x61 x62 x63 x64 = zhu φ k (w + m) x57 x58 x59 x60 x61 x62 x63 x64 /\ m <= 16 /\ z71 v.toNat m := by
 unfold z8b
 by_cases c : 256 <= v
 ·rw [if_pos (by simpa using c), if_pos (by decide), sh8, W_id (by omega) (by omega)]
  obtain ⟨m, e, hn, hl⟩ := zy9 φ k x57 x58 x59 x60 x61 x62 x63 x64 (v / 256) (w + 8) (by omega) (by omega) (by omega) (by omega)
  refine ⟨m + 8, by rw [e]; congr 1; omega, by omega, ?_⟩
  refine z71.up 8 ?_ (by omega)
  rwa [show v.toNat / 2 ^ 8 = (v / 256).toNat by omega]
 ·rw [if_neg (by simpa using c)]
  obtain ⟨m, e, hn, hl⟩ := zy9 φ k x57 x58 x59 x60 x61 x62 x63 x64 v w h (by omega) (by omega) (by omega)
  exact ⟨m, e, by omega, hl⟩
theorem y1i (v w : Int) (h : 0 <= v) (h' : v < 4294967296) (hw : 0 <= w) (hw' : w <= 32) : ∃ m : Nat, z33 φ k v w x57 x58 x59 x60 x61 x62 x63 x64 = zhu φ k (w + m) x57 x58 x59 x60 x61 x62 x63 x64 /\ m <= 32 /\ z71 v.toNat m := by
 unfold z33
 by_cases c : 65536 <= v
 ·rw [if_pos (by simpa using c), if_pos (by decide), sh16, W_id (by omega) (by omega)]
  obtain ⟨m, e, hn, hl⟩ := y1c φ k x57 x58 x59 x60 x61 x62 x63 x64 (v / 65536) (w + 16) (by omega) (by omega) (by omega) (by omega)
  refine ⟨m + 16, by rw [e]; congr 1; omega, by omega, ?_⟩
  refine z71.up 16 ?_ (by omega)
  rwa [show v.toNat / 2 ^ 16 = (v / 65536).toNat by omega]
 ·rw [if_neg (by simpa using c)]
  obtain ⟨m, e, hn, hl⟩ := y1c φ k x57 x58 x59 x60 x61 x62 x63 x64 v w h (by omega) (by omega) (by omega)
  exact ⟨m, e, by omega, hl⟩
theorem ydd (v : Int) (h : 0 <= v) (h' : v < 18446744073709551616) : ∃ m : Nat, (if (decide ((4294967296 : Int) <= v)) = true then (if 0 <= (32 : Int) then (z33 φ k (((v : Int).fdiv (2 ^ (min (32 : Int).toNat 64)))) 32 x57 x58 x59 x60 x61 x62 x63 x64) else none) else (z33 φ k v 0 x57 x58 x59 x60 x61 x62 x63 x64)) =
  zhu φ k m x57 x58 x59 x60 x61 x62 x63 x64 /\ m <= 64 /\ z71 v.toNat m := by
 by_cases c : 4294967296 <= v
 ·rw [if_pos (by simpa using c), if_pos (by decide), sh32]
  obtain ⟨m, e, hn, hl⟩ := y1i φ k x57 x58 x59 x60 x61 x62 x63 x64 (v / 4294967296) 32 (by omega) (by omega) (by omega) (by omega)
  refine ⟨m + 32, by rw [e]; congr 1; omega, by omega, ?_⟩
  refine z71.up 32 ?_ (by omega)
  rwa [show v.toNat / 2 ^ 32 = (v / 4294967296).toNat by omega]
 ·rw [if_neg (by simpa using c)]
  obtain ⟨m, e, hn, hl⟩ := y1i φ k x57 x58 x59 x60 x61 x62 x63 x64 v 0 h (by omega) (by omega) (by omega)
  exact ⟨m, by rw [e]; simp, by omega, hl⟩
end second
theorem zsz (φ : Nat) (hφ : 100 < φ) (b n : Nat) (hn0 : 0 < n) (hn : n < 18446744073709551616) : zgn φ (b : Int) (n : Int) = some (((pw b n : Nat) : Int), ()) := by
 have hstart : ∃ L : Nat, zgn φ (b : Int) (n : Int) = z0h φ φ b n 1 L 0 2305843009213690799 /\ L <= 64 /\ z71 n L := by
  unfold zgn
  by_cases c : (4294967296 : Int) <= n
  ·rw [if_pos (by simpa using c), if_pos (by decide), sh32]
   obtain ⟨m, e, hm, hl⟩ := y7b φ b n 1 2305843009213690799 ((n : Int) / 4294967296) 32 (by omega) (by omega) (by omega) (by omega)
   refine ⟨m + 32, by rw [e]; congr 1; omega, by omega, ?_⟩
   refine z71.up 32 ?_ (by omega)
   rwa [show n / 2 ^ 32 = ((n : Int) / 4294967296).toNat by omega]
  ·rw [if_neg (by simpa using c)]
   obtain ⟨m, e, hm, hl⟩ := y7b φ b n 1 2305843009213690799 (n : Int) 0 (by omega) (by omega) (by omega) (by omega)
   exact ⟨m, by rw [e]; simp, by omega, by rwa [Int.toNat_natCast] at hl⟩
 obtain ⟨L, e0, hL, hlen⟩ := hstart
 rw [e0]
 obtain ⟨h1, h2⟩ := hlen
 refine zp (fun k i v => z0h φ k (b : Int) (n : Int) v (L : Int) i 2305843009213690799) L (fun i v => v = ((pw b (n / 2 ^ (L - i)) : Nat) : Int)) (fun o => o = some (((pw b n : Nat) : Int), ())) ?_ ?_ φ 1 ?_ (by omega)
 ·intro k i v hi hv hs
  rw [z0h, if_pos (by simp; omega), z8 (by decide), z8 (by decide)]
  subst hv
  rw [ybh (y09 _ _)]
  refine (zzn (y09 _ _) (y09 _ _) φ (by omega) (fun z => (if (decide ((4294967296 : Int) <= (n : Int))) = true then (if 0 <= (32 : Int) then (z33 φ (z0h φ k) ((((n : Int) : Int).fdiv (2 ^ (min (32 : Int).toNat 64)))) 32 b n z i L i n 2305843009213690799) else none) else (z33 φ (z0h φ k) n 0 b n z i L i n 2305843009213690799)))).trans ?_
  rw [y7j]
  obtain ⟨m, em, hm, hl⟩ := ydd φ (z0h φ k) b n ((pw b (n / 2 ^ (L - i) + n / 2 ^ (L - i)) : Nat) : Int) i L i n 2305843009213690799 (n : Int) (by omega) (by omega)
  refine em.trans ?_
  rw [Int.toNat_natCast] at hl
  have := z71.uniq hn0 hl ⟨h1, h2⟩
  subst this
  unfold zhu
  have hw1 : W ((m : Int) - 1) = (m : Int) - 1 := W_id (by omega) (by omega)
  have hw2 : W ((m : Int) - 1 - (i : Int)) = ((m - 1 - i : Nat) : Int) := by rw [W_id (by omega) (by omega)]; omega
  rw [hw1, hw2, z8 (by omega)]
  have hsh := ycv (c := (n : Int)) (k := ((m - 1 - i : Nat) : Int)) (by omega) (by omega) (by omega)
  have hone : U ((BitVec.ofInt 64 ((n : Int).fdiv (2 ^ (min (((m - 1 - i : Nat) : Int)).toNat 64))) &&& BitVec.ofInt 64 1).toNat) = ((n / 2 ^ (m - 1 - i) % 2 : Nat) : Int) := by
   rw [show ((n : Int).fdiv (2 ^ (min (((m - 1 - i : Nat) : Int)).toNat 64))) = _ from hsh, Int.toNat_natCast, Int.toNat_natCast]
   have hd : n / 2 ^ (m - 1 - i) <= n := Nat.div_le_self _ _
   rw [BitVec.toNat_and, z7n (Int.natCast_nonneg _) (by omega), z7n (by omega) (by omega), ya1 (y7f (by omega)), Int.toNat_natCast]
   show ((n / 2 ^ (m - 1 - i) &&& 1 : Nat) : Int) = _
   rw [Nat.and_one_is_mod]
  rw [hone]
  have hhalf : n / 2 ^ (m - i) = n / 2 ^ (m - 1 - i) / 2 := by
   rw [Nat.div_div_eq_div_mul, <- Nat.pow_succ]; congr 2; omega
  have hidx : m - (i + 1) = m - 1 - i := by omega
  have hW : W ((i : Int) + 1) = (i : Int) + 1 := W_id (by omega) (by omega)
  have hbit := Nat.mod_two_eq_zero_or_one (n / 2 ^ (m - 1 - i))
  rcases hbit with hbit | hbit
  ·rw [hbit, if_neg (by simp), hW]
   refine hs _ ?_
   rw [hidx, hhalf]; congr 2; omega
  ·rw [hbit, if_pos (by simp), ybh (y09 _ _), yc0, z8 (by decide), z8 (by decide), hW]
   refine (zzn (y09 _ _) (Nat.mod_lt b (by decide : 0 < PP)) φ (by omega) (fun z => z0h φ k b n z m ((i : Int) + 1) 2305843009213690799)).trans ?_
   refine hs _ ?_
   rw [<- ybr b, y7j, hidx, hhalf]; congr 2; omega
 ·intro k v hv
  rw [z0h, if_neg (by simp), hv]
  rw [Nat.sub_self, Nat.pow_zero, Nat.div_one]
 ·rw [Nat.sub_zero, Nat.div_eq_of_lt h1, yaq]; rfl
def ybd (x : Int) : Bool := decide (2 <= x) && decide (x < 2305843009213690799) && (pw x.toNat QQ == 1)
theorem zuh (a : Nat) : (((a : Nat) : Int) == 1) = (a == 1) := by
 rw [Bool.eq_iff_iff, beq_iff_eq, beq_iff_eq]; omega
theorem zpi (φ : Nat) (hφ : 100 < φ) (x : Int) : zey φ x = some (ybd x, ()) := by
 unfold zey ybd z1n
 cases h : decide (2 <= x) && decide (x < 2305843009213690799) with
 | false => rw [if_neg (by simp), Option.bind_some]; simp only [Bool.false_and]
 | true =>
  simp only [Bool.and_eq_true, decide_eq_true_eq] at h
  have := zsz φ hφ x.toNat QQ (by decide) (by decide)
  rw [show ((x.toNat : Nat) : Int) = x by omega, show ((QQ : Nat) : Int) = 1152921504606845399 by decide] at this
  rw [if_pos rfl, this, Option.bind_some, Bool.true_and, Bool.true_and]
  show some ((((pw x.toNat QQ : Nat) : Int) == 1), ()) = _
  rw [zuh]
end Px
end
section
namespace Px
open Go
set_option linter.unusedVariables false
set_option linter.unusedSimpArgs false
theorem gz_t {α : Type} {z : α} {p : Prop} [Decidable p] {x : Option α} (h : p) : z1n z p x = x := if_pos h
theorem gz_f {α : Type} {z : α} {p : Prop} [Decidable p] {x : Option α} (h : ¬ p) : z1n z p x = some z := if_neg h
def zdz (p : z4z) : Bool := bet p.kind 1 5 && bet p.railway 0 15 && (bif p.kind == 3 then bet p.other 0 15 && (p.other != p.railway) else p.other == (-1))
def zdj (n : Int) (e : Edge) : Bool := bet e.a 0 (n - 1) && bet e.b 0 (n - 1) && (e.a != e.b) && bet e.railway 0 15 && bet e.minutes 1 100000 && bet e.km 0 10000
def z9k (x : zg) : Int := bif decide (512 < x.places.length) || decide (2048 < x.edges.length) then 2 else bif x.places.all zdz && x.edges.all (zdj x.places.length) then 0 else 1
theorem zji (φ : Nat) (p : z4z) : z98 φ p = some (zdz p, ()) := by
 have hb : (((decide (p.kind < 1) || decide (5 < p.kind)) || decide (p.railway < 0)) || decide (16 <= p.railway)) = !(bet p.kind 1 5 && bet p.railway 0 15) := by
  rw [Bool.eq_iff_iff]; simp [bet]; omega
 unfold z98 zdz
 rw [hb]
 cases bet p.kind 1 5 && bet p.railway 0 15 with
 | false => rfl
 | true =>
  rw [if_neg (by simp)]
  by_cases h : p.kind = 3
  ·have : (decide (0 <= p.other) && decide (p.other < 16)) = bet p.other 0 15 := by rw [Bool.eq_iff_iff]; simp [bet]; omega
   rw [if_neg (by simp [h]), this]; simp [h]
  ·have h2 : (p.kind == 3) = false := by simpa using h
   rw [if_pos (by simp [h]), h2]; rfl
theorem zz1 (n : Int) (e : Edge) : ((((((decide ((min2 (min2 (min2 (e.a) (e.b)) (e.railway)) (e.km)) < 0) || decide (n <= (max2 (e.a) (e.b)))) || (e.a == e.b)) || decide (16 <= e.railway)) || decide (e.minutes < 1)) || decide (100000 < e.minutes)) || decide (10000 < e.km)) = !zdj n e := by
 have hm : ∀ x y z : Int, z <= max2 x y ↔ z <= x \/ z <= y := by intro x y z; unfold max2; split <;> omega
 have hok : zdj n e = true ↔ ((((((0 <= e.a /\ e.a <= n - 1) /\ 0 <= e.b /\ e.b <= n - 1) /\ ¬ e.a = e.b) /\ 0 <= e.railway /\ e.railway <= 15) /\ 1 <= e.minutes /\ e.minutes <= 100000) /\ 0 <= e.km /\ e.km <= 10000) := by
  simp only [zdj, Bool.and_eq_true, ztt, bne_iff_ne, ne_eq]
 rw [Bool.eq_iff_iff, Bool.not_eq_true', <- Bool.not_eq_true, hok]
 simp only [Bool.or_eq_true, decide_eq_true_eq, y1g, hm, beq_iff_eq]
 omega
theorem y5m (x : zg) : (decide (512 < (x.places.length : Int)) || decide (2048 < (x.edges.length : Int))) = (decide (512 < x.places.length) || decide (2048 < x.edges.length)) := by
 congr 1 <;> (apply decide_eq_decide.2; omega)
theorem z8s (φ : Nat) (hφ : 5000 < φ) (x : zg) : z5z φ x = some (z9k x, ()) := by
 unfold z5z z9k
 rw [y5m]
 cases h : decide (512 < x.places.length) || decide (2048 < x.edges.length) with
 | true => rfl
 | false =>
  simp only [Bool.or_eq_false_iff, decide_eq_false_iff_not, Nat.not_lt] at h
  rw [if_neg (by simp), zjs (fun n i => z2x φ n (x.places.length : Int) x.places (x.places.length : Int) i x) (z1j φ φ (x.places.length : Int) x.edges (x.edges.length : Int) 0) (some (1, ())) x.places (fun t => !zdz t) ?_ ?_ φ (by omega)]
  ·rw [zjs (fun n i => z1j φ n (x.places.length : Int) x.edges (x.edges.length : Int) i) (some (0, ())) (some (1, ())) x.edges (fun t => !zdj x.places.length t) ?_ ?_ φ (by omega)]
   ·simp only [List.any_eq_not_all_not, Bool.not_not]
    cases x.places.all zdz <;> cases x.edges.all (zdj x.places.length) <;> rfl
   ·intro n i hi
    rw [z1j, if_pos (by simp; omega), z8 ⟨by omega, by omega⟩, zz1, W_id (by omega) (by omega)]
    cases zdj x.places.length (gt x.edges i) <;> rfl
   ·intro n; rw [z1j, if_neg (by simp)]
  ·intro n i hi
   rw [z2x, if_pos (by simp; omega), z8 ⟨by omega, by omega⟩, zji, Option.bind_some, W_id (by omega) (by omega)]
   cases zdz (gt x.places i) <;> rfl
  ·intro n; rw [z2x, if_neg (by simp)]
theorem zkv {x : zg} (h : z9k x = 0) : x.places.length <= 512 /\ x.edges.length <= 2048 /\ (∀ p ∈ x.places, zdz p = true) /\ ∀ e ∈ x.edges, zdj x.places.length e = true := by
 unfold z9k at h
 cases h1 : decide (512 < x.places.length) || decide (2048 < x.edges.length) with
 | true => rw [h1] at h; cases h
 | false =>
  rw [h1] at h
  cases h2 : x.places.all zdz && x.edges.all (zdj x.places.length) with
  | false => rw [h2] at h; cases h
  | true =>
   simp only [Bool.or_eq_false_iff, decide_eq_false_iff_not, Nat.not_lt] at h1
   simp only [Bool.and_eq_true, List.all_eq_true] at h2
   exact ⟨h1.1, h1.2, h2⟩
def zyx : Int -> List Int -> Bool
 | _, [] => true
 | p, h :: t => decide (p < h) && decide (h <= 745654) && zyx h t
def zn7 (s : Span) : Bool := decide (0 <= s.from_) && decide (s.from_ <= s.to) && decide (s.to <= 1440)
def zua (c : z6h) : Bool := ((List.range 7).all fun i => zn7 (c.open_ i)) && zyx (-1) c.holidays
theorem y9v (φ : Nat) (c : z6h) : ∀ (n i : Nat) (p : Int), -1 <= p -> (i : Int) <= p + 1 -> p <= 745654 -> i <= c.holidays.length -> 745656 <= (n : Int) + p -> z21 φ n p c.holidays (c.holidays.length : Int) i = some (bif zyx p (c.holidays.drop i) then 0 else 1, ()) := by
 intro n
 induction n with
 | zero => intro i p _ _ _ _ _; omega
 | succ n ih =>
  intro i p hp hip hp2 hi hn
  by_cases h : i = c.holidays.length
  ·rw [h, z21, if_neg (by simp), List.drop_length]; rfl
  ·rw [z21, if_pos (by simp; omega), z8 ⟨by omega, by omega⟩, y2l _ _ (by omega)]
   by_cases hb : gt c.holidays i <= p \/ 745654 < gt c.holidays i
   ·have : (decide (p < gt c.holidays i) && decide (gt c.holidays i <= 745654)) = false := by simp; omega
    rw [if_pos (by simpa using hb)]
    simp [zyx, this]
   ·have h2 : (decide (p < gt c.holidays i) && decide (gt c.holidays i <= 745654)) = true := by simp; omega
    rw [if_neg (by simpa using hb), W_id (by omega) (by omega)]
    have := ih (i + 1) (gt c.holidays i) (by omega) (by omega) (by omega) (by omega) (by omega)
    rw [show ((i + 1 : Nat) : Int) = (i : Int) + 1 by omega] at this
    rw [this]
    simp [zyx, h2]
theorem zox (s : Span) : ((decide (s.from_ < 0) || decide (s.to < s.from_)) || decide (1440 < s.to)) = !zn7 s := by
 rw [Bool.eq_iff_iff]; simp [zn7]
 try omega
theorem zi0 (φ : Nat) (hφ : 800000 < φ) (c : z6h) : z7y φ c = some (bif zua c then 0 else 1, ()) := by
 unfold z7y
 refine zp (fun n i (_ : Unit) => z2i φ n c.open_ i c) 7 (fun i _ => ((List.range i).all fun j => zn7 (c.open_ j)) = true) (fun o => o = some (bif zua c then 0 else 1, ())) ?_ ?_ φ () (by simp) (by omega)
 ·intro n i _ hi h hs
  rw [z2i, if_pos (by simp; omega), z8 ⟨by omega, by omega⟩, Int.toNat_natCast, zox, W_id (by omega) (by omega)]
  cases ho : zn7 (c.open_ i) with
  | true =>
   rw [if_neg (by simp)]
   exact hs () (by rw [zfg, h, ho]; rfl)
  | false =>
   have : zua c = false := by
    unfold zua
    have : ((List.range 7).all fun j => zn7 (c.open_ j)) = false := by
     rw [List.all_eq_false]; exact ⟨i, by simp; omega, by simp [ho]⟩
    rw [this]; rfl
   rw [if_pos (by simp), this]; rfl
 ·intro n _ h
  rw [z2i, if_neg (by simp)]
  unfold zua
  rw [h, Bool.true_and]
  have := y9v φ c φ 0 (-1) (by omega) (by omega) (by omega) (by omega) (by omega)
  simpa using this
theorem zig {α ρ : Type} [Inhabited α] (L : Nat -> Bool -> Int -> Option ρ) (k : Bool -> Option ρ) (l : List α) (p : α -> Bool)
  (step : ∀ (n i : Nat) (s : Bool), i < l.length -> L (n + 1) s i = L n (s || p (gt l i)) ((i : Int) + 1)) (done : ∀ n s, L (n + 1) s l.length = k s) (n : Nat) (s : Bool) (hn : l.length < n) : L n s 0 = k (s || l.any p) := by
 refine zp (fun n i t => L n t i) l.length (fun i t => t = (s || (l.take i).any p)) (fun o => o = k (s || l.any p)) ?_ ?_ n s (by simp) hn
 ·intro n i t hi ht hs
  rw [step n i t hi]
  exact hs _ (by rw [zh9 _ _ _ hi, ht, Bool.or_assoc])
 ·intro n t ht
  rw [List.take_length] at ht
  rw [done, ht]
def zh0 (n : Int) (r : z18) : Bool := (((!bet r.place 0 (n - 1)) || decide (r.low < (-1000))) || decide (r.high < r.low)) || decide (1000 < r.high)
def zi8 (x : zg) (s : z7o) : Bool := (!bet s.place 0 ((x.places.length : Int) - 1)) || ((gt x.places s.place).kind != 4)
def ztq (r : z0y) : Bool := !zua r.calendar || !ybd r.key
def zhp (x : Pool) : Bool :=
 ((((((x.railways.length : Int) == 0) || x.readers.any (zh0 x.network.places.length)) || x.shippers.any (zi8 x.network)) || x.fleet.wagons.any (fun w => decide ((x.network.places.length : Int) <= w.home))) ||
 x.network.places.any (fun p => decide ((x.railways.length : Int) <= p.railway) || decide ((x.railways.length : Int) <= p.other))) || x.network.edges.any (fun e => decide ((x.railways.length : Int) <= e.railway)) || x.railways.any ztq
def zhs (x : Pool) : Bool := (decide (256 < (x.readers.length : Int)) || decide (256 < (x.shippers.length : Int))) || decide (16 < (x.railways.length : Int))
def z01 (x : Pool) : Int := if z9k x.network ≠ 0 then z9k x.network else if z6v x.fleet ≠ 0 then z6v x.fleet else bif zhs x then 2 else bif zhp x then 1 else 0
theorem zav (φ : Nat) (hφ : 800000 < φ) (x : Pool) : z4f φ x = some (z01 x, ()) := by
 unfold z4f z01
 rw [z8s _ (by omega), Option.bind_some]
 by_cases hn : z9k x.network = 0
 case neg => rw [if_pos (by simp [hn]), if_pos hn]
 rw [if_neg (by simp [hn]), if_neg (fun e : z9k x.network ≠ 0 => e hn), zmi _ (by omega), Option.bind_some]
 by_cases hf : z6v x.fleet = 0
 case neg => rw [if_pos (by simp [hf]), if_pos hf]
 rw [if_neg (by simp [hf]), if_neg (fun e : z6v x.fleet ≠ 0 => e hf)]
 cases hb : zhs x with
 | true =>
  have e : (((decide (256 < (x.readers.length : Int)) || decide (256 < (x.shippers.length : Int))) || decide (16 < (x.railways.length : Int)))) = zhs x := rfl
  rw [e, hb]; rfl
 | false =>
  have hb' : ¬ (((decide (256 < (x.readers.length : Int)) || decide (256 < (x.shippers.length : Int))) || decide (16 < (x.railways.length : Int))) = true) := by
   rw [show (((decide (256 < (x.readers.length : Int)) || decide (256 < (x.shippers.length : Int))) || decide (16 < (x.railways.length : Int)))) = zhs x from rfl, hb]; simp
  rw [if_neg hb']
  simp only [Bool.or_eq_true, decide_eq_true_eq, not_or] at hb'
  obtain ⟨n1, n2, _, _⟩ := zkv hn
  obtain ⟨f1, f2, _⟩ := zab hf
  have hp : W ((x.network.places.length : Int) - 1) = (x.network.places.length : Int) - 1 := W_id (by omega) (by omega)
  have a1 := zig (fun n s i => z1m φ n x.network.places (x.railways.length : Int) s x.readers (x.readers.length : Int) i x) (fun s => z0s φ φ x.network.places (x.railways.length : Int) s x.shippers (x.shippers.length : Int) 0 x) x.readers (zh0 x.network.places.length) (fun n i s hi => by
   rw [z1m, if_pos (by simp; omega), z8 ⟨by omega, by omega⟩, hp, W_id (by omega) (by omega)]
   unfold zh0
   cases s with
   | true => rw [gz_f (by simp)]; rfl
   | false => rw [gz_t rfl]; rfl) (fun n s => by rw [z1m, if_neg (by simp)]) φ ((x.railways.length : Int) == 0) (by omega)
  refine a1.trans ?_
  have a2 := fun s0 => zig (fun n s i => z0s φ n x.network.places (x.railways.length : Int) s x.shippers (x.shippers.length : Int) i x) (fun s => z0t φ φ x.network.places (x.railways.length : Int) s x.fleet.wagons (x.fleet.wagons.length : Int) 0 x) x.shippers (zi8 x.network) (fun n i s hi => by
   rw [z0s, if_pos (by simp; omega), z8 ⟨by omega, by omega⟩, hp, W_id (by omega) (by omega)]
   unfold zi8
   cases s with
   | true => rw [gz_f (by simp), Option.bind_some, z8 (by simp)]; rfl
   | false =>
    rw [gz_t rfl, z2w, Option.bind_some]
    cases hbt : bet (gt x.shippers i).place 0 ((x.network.places.length : Int) - 1) with
    | true => rw [z8 (fun _ => by have := y2o hbt; omega)]; rfl
    | false => rw [z8 (by simp)]; rfl) (fun n s => by rw [z0s, if_neg (by simp)]) φ s0 (by omega)
  refine (a2 _).trans ?_
  have a3 := fun s0 => zig (fun n s i => z0t φ n x.network.places (x.railways.length : Int) s x.fleet.wagons (x.fleet.wagons.length : Int) i x) (fun s => z0u φ φ (x.railways.length : Int) s x.network.places (x.network.places.length : Int) 0 x) x.fleet.wagons (fun w => decide ((x.network.places.length : Int) <= w.home)) (fun n i s hi => by
   rw [z0t, if_pos (by simp; omega), z8 ⟨by omega, by omega⟩, W_id (by omega) (by omega)]) (fun n s => by rw [z0t, if_neg (by simp)]) φ s0 (by omega)
  refine (a3 _).trans ?_
  have a4 := fun s0 => zig (fun n s i => z0u φ n (x.railways.length : Int) s x.network.places (x.network.places.length : Int) i x) (fun s => z0w φ φ (x.railways.length : Int) s x.network.edges (x.network.edges.length : Int) 0 x) x.network.places (fun p => decide ((x.railways.length : Int) <= p.railway) || decide ((x.railways.length : Int) <= p.other)) (fun n i s hi => by
   rw [z0u, if_pos (by simp; omega), z8 ⟨by omega, by omega⟩, W_id (by omega) (by omega), Bool.or_assoc]) (fun n s => by rw [z0u, if_neg (by simp)]) φ s0 (by omega)
  refine (a4 _).trans ?_
  have a5 := fun s0 => zig (fun n s i => z0w φ n (x.railways.length : Int) s x.network.edges (x.network.edges.length : Int) i x) (fun s => z0v φ φ s x.railways (x.railways.length : Int) 0) x.network.edges (fun e => decide ((x.railways.length : Int) <= e.railway)) (fun n i s hi => by
   rw [z0w, if_pos (by simp; omega), z8 ⟨by omega, by omega⟩, W_id (by omega) (by omega)]) (fun n s => by rw [z0w, if_neg (by simp)]) φ s0 (by omega)
  refine (a5 _).trans ?_
  have a6 := fun s0 => zig (fun n s i => z0v φ n s x.railways (x.railways.length : Int) i) (fun s => if s = true then some (1, ()) else some (0, ())) x.railways ztq (fun n i s hi => by
   rw [z0v, if_pos (by simp; omega), z8 ⟨by omega, by omega⟩, W_id (by omega) (by omega)]
   unfold ztq
   cases s with
   | true => rw [gz_f (by simp), Option.bind_some, gz_f (by simp)]; rfl
   | false =>
    rw [gz_t rfl, zi0 _ hφ, Option.bind_some]
    cases zua (gt x.railways i).calendar with
    | false => rw [gz_f (by simp)]; rfl
    | true => rw [gz_t (by simp), zpi _ (by omega)]; rfl) (fun n s => by rw [z0v, if_neg (by simp)]) φ s0 (by omega)
  refine (a6 _).trans ?_
  show (if zhp x = true then some ((1 : Int), ()) else some (0, ())) = _
  cases zhp x <;> rfl
theorem z9c {p : Pool} (h : z01 p = 0) : z9k p.network = 0 /\ z6v p.fleet = 0 /\ p.readers.length <= 256 /\ p.shippers.length <= 256 /\ p.railways.length <= 16 /\ zhp p = false := by
 unfold z01 at h
 by_cases hn : z9k p.network = 0
 case neg => rw [if_pos hn] at h; exact absurd h hn
 rw [if_neg (fun e : z9k p.network ≠ 0 => e hn)] at h
 by_cases hf : z6v p.fleet = 0
 case neg => rw [if_pos hf] at h; exact absurd h hf
 rw [if_neg (fun e : z6v p.fleet ≠ 0 => e hf)] at h
 cases hb : zhs p with
 | true => rw [hb] at h; cases h
 | false =>
  rw [hb] at h
  cases hd : zhp p with
  | true => rw [hd] at h; cases h
  | false =>
   simp only [zhs, Bool.or_eq_false_iff, decide_eq_false_iff_not] at hb
   exact ⟨hn, hf, by omega, by omega, by omega, rfl⟩
theorem zen {p : Pool} (h : z01 p = 0) : (∀ r ∈ p.readers, 0 <= r.place /\ r.place < (p.network.places.length : Int) /\ -1000 <= r.low /\ r.low <= r.high /\ r.high <= 1000) /\
  (∀ w ∈ p.fleet.wagons, 0 <= w.home /\ w.home < (p.network.places.length : Int)) /\ (∀ e ∈ p.network.edges, e.railway < (p.railways.length : Int)) /\ 0 < p.railways.length := by
 obtain ⟨hn, hf, h1, h2, h3, hb⟩ := z9c h
 simp only [zhp, Bool.or_eq_false_iff] at hb
 obtain ⟨⟨⟨⟨⟨⟨b0, b1⟩, b2⟩, b3⟩, b4⟩, b5⟩, b6⟩ := hb
 obtain ⟨_, _, _, _, _, hw, _, _⟩ := zab hf
 refine ⟨fun r hr => ?_, fun w hw' => ?_, fun e he => ?_, ?_⟩
 ·have := List.any_eq_false.1 b1 r hr
  simp only [zh0, Bool.not_eq_true, Bool.or_eq_false_iff, Bool.not_eq_false', decide_eq_false_iff_not] at this
  obtain ⟨⟨⟨c1, c2⟩, c3⟩, c4⟩ := this
  have := y2o c1
  omega
 ·have := List.any_eq_false.1 b3 w hw'
  have h3 := hw w hw'
  simp only [zg1, Bool.and_eq_true] at h3
  have := y2o h3.1.1.2
  simp at *
  omega
 ·have := List.any_eq_false.1 b5 e he
  simp at this; omega
 ·simp at b0
  exact List.length_pos_iff.2 b0
end Px
end
section
namespace Px
open Go
set_option linter.unusedVariables false
set_option linter.unusedSimpArgs false
theorem y7y {n b : Nat} (h : n <= 100000) (hb : b <= 1000) : fits n b := by
 unfold fits
 have : n * b <= 100000 * 1000 := Nat.mul_le_mul h hb
 omega
abbrev Ln := List ((Nat -> Int) × Int)
abbrev keyP (a b : Int) : Nat -> Int := upd (upd (fun _ => (default : Int)) 0 a) 1 b
abbrev lget (m : Ln) (a b : Int) : Option Int := @mget _ _ ⟨beqA 2⟩ m (keyP a b)
abbrev lset (m : Ln) (a b i : Int) : Ln := @mset _ _ ⟨beqA 2⟩ m (keyP a b) i
theorem y40 (f g : Nat -> Int) : beqA 2 f g = (f 0 == g 0 && f 1 == g 1) := by
 simp [beqA, List.range_succ]
theorem y9o (a b : Int) : keyP a b 0 = a := rfl
theorem y8w (a b : Int) : keyP a b 1 = b := rfl
theorem zls (m : Ln) (a b i c d : Int) : lget (lset m a b i) c d = if c = a /\ d = b then some i else lget m c d := by
 induction m with
 | nil =>
  show (bif beqA 2 (keyP c d) (keyP a b) then some i else none) = _
  rw [y40]
  simp only [y9o, y8w]
  by_cases h : c = a /\ d = b
  ·rw [if_pos h]; simp [h]
  ·rw [if_neg h]
   have : (c == a && d == b) = false := by rw [<- Bool.not_eq_true]; simpa using h
   rw [this]; rfl
 | cons p m ih =>
  obtain ⟨k, v⟩ := p
  show lget (bif beqA 2 (keyP a b) k then (keyP a b, i) :: m else (k, v) :: lset m a b i) c d = _
  have e1 : lget ((k, v) :: m) c d = bif beqA 2 (keyP c d) k then some v else lget m c d := rfl
  cases h1 : beqA 2 (keyP a b) k with
  | true =>
   rw [y40] at h1
   simp only [y9o, y8w, Bool.and_eq_true, beq_iff_eq] at h1
   show (bif beqA 2 (keyP c d) (keyP a b) then some i else lget m c d) = _
   rw [e1, y40, y40]
   simp only [y9o, y8w]
   by_cases h : c = a /\ d = b
   ·rw [if_pos h]; simp [h]
   ·rw [if_neg h]
    have h2 : (c == a && d == b) = false := by rw [<- Bool.not_eq_true]; simpa using h
    have h3 : (c == k 0 && d == k 1) = false := by rw [<- h1.1, <- h1.2]; exact h2
    rw [h2, h3]; rfl
  | false =>
   show (bif beqA 2 (keyP c d) k then some v else lget (lset m a b i) c d) = _
   rw [ih, e1]
   cases h2 : beqA 2 (keyP c d) k with
   | false => rfl
   | true =>
    by_cases h : c = a /\ d = b
    ·obtain ⟨rfl, rfl⟩ := h
     rw [h1] at h2; cases h2
    ·show some v = _
     rw [if_neg h]; rfl
theorem y5z {b : Bool} (h : ¬ (!b) = true) : b = true := by cases b <;> simp_all
def ent1 (es : List Edge) (i a b : Int) (s : List (List Int) × Ln) : List (List Int) × Ln :=
 (if (!(lget s.2 a b).isSome) = true then zz s.1 a (gt s.1 a ++ [b]) else s.1,
  if (!(lget s.2 a b).isSome || decide ((gt es i).minutes < (gt es ((lget s.2 a b).getD default)).minutes)) = true then lset s.2 a b i else s.2)
def entE (es : List Edge) (i : Int) (s : List (List Int) × Ln) : List (List Int) × Ln := ent1 es i (gt es i).b (gt es i).a (ent1 es i (gt es i).a (gt es i).b s)
structure GI (es : List Edge) (P k : Nat) (s : List (List Int) × Ln) : Prop where
 len : s.1.length = P
 near : ∀ a b : Int, 0 <= a -> a < (P : Int) -> (b ∈ gt s.1 a ↔ (lget s.2 a b).isSome = true)
 line : ∀ a b i : Int, lget s.2 a b = some i -> 0 <= i /\ i < (k : Int) /\ (((gt es i).a = a /\ (gt es i).b = b) \/ ((gt es i).a = b /\ (gt es i).b = a))
 size : ∀ a : Int, 0 <= a -> a < (P : Int) -> (gt s.1 a).length <= 2 * k
structure HI (es : List Edge) (P k : Nat) (s : List (List Int) × Ln) : Prop extends GI es P k s where
 sym : ∀ a b : Int, lget s.2 a b = lget s.2 b a
theorem y77 (es : List Edge) (P : Nat) : HI es P 0 (List.replicate P (default : List Int), []) where
 len := by simp
 near := fun a b h0 h1 => by
  rw [z3l _ _ _ h0 (by omega)]
  show b ∈ ([] : List Int) ↔ _
  simp [lget, mget]
 line := fun a b i h => by simp [lget, mget] at h
 size := fun a h0 h1 => by rw [z3l _ _ _ h0 (by omega)]; simp; rfl
 sym := fun a b => rfl
theorem y9t {es : List Edge} {P k : Nat} {s : List (List Int) × Ln} (h : GI es P k s) {a b : Int} (ha : 0 <= a) (ha' : a < (P : Int)) (he : ((gt es (k : Int)).a = a /\ (gt es (k : Int)).b = b) \/ ((gt es (k : Int)).a = b /\ (gt es (k : Int)).b = a)) :
  (ent1 es k a b s).1.length = P /\ (∀ c d : Int, 0 <= c -> c < (P : Int) -> (d ∈ gt (ent1 es k a b s).1 c ↔ (lget (ent1 es k a b s).2 c d).isSome = true)) /\
  (∀ c d i : Int, lget (ent1 es k a b s).2 c d = some i -> 0 <= i /\ i < ((k + 1 : Nat) : Int) /\ (((gt es i).a = c /\ (gt es i).b = d) \/ ((gt es i).a = d /\ (gt es i).b = c))) /\
  (∀ c : Int, 0 <= c -> c < (P : Int) -> (gt (ent1 es k a b s).1 c).length <= (gt s.1 c).length + 1) /\
  (∀ c d : Int, ¬ (c = a /\ d = b) -> lget (ent1 es k a b s).2 c d = lget s.2 c d) /\
  lget (ent1 es k a b s).2 a b = (if (!(lget s.2 a b).isSome || decide ((gt es (k : Int)).minutes < (gt es ((lget s.2 a b).getD default)).minutes)) = true then some (k : Int) else lget s.2 a b) := by
 have hl2 : ∀ c d : Int, lget (ent1 es k a b s).2 c d = if (c = a /\ d = b) then (if (!(lget s.2 a b).isSome || decide ((gt es (k : Int)).minutes < (gt es ((lget s.2 a b).getD default)).minutes)) = true then some (k : Int) else lget s.2 a b) else lget s.2 c d := by
  intro c d
  unfold ent1
  simp only []
  split
  ·rw [zls]
  ·split
   ·rename_i q; rw [q.1, q.2]
   ·rfl
 have hsm : (lget (ent1 es k a b s).2 a b).isSome = true := by
  rw [hl2, if_pos ⟨rfl, rfl⟩]
  split
  ·rfl
  ·rename_i q
   simp only [Bool.or_eq_true, not_or] at q
   exact y5z q.1
 refine ⟨?_, ?_, ?_, ?_, fun c d hcd => by rw [hl2, if_neg hcd], by rw [hl2, if_pos ⟨rfl, rfl⟩]⟩
 ·unfold ent1
  simp only []
  split
  ·rw [z1z]; exact h.len
  ·exact h.len
 ·intro c d hc hc'
  by_cases hcd : c = a /\ d = b
  ·obtain ⟨rfl, rfl⟩ := hcd
   rw [hsm]
   refine ⟨fun _ => rfl, fun _ => ?_⟩
   unfold ent1
   simp only []
   split
   ·rw [z0q _ _ _ _ hc (by rw [h.len]; exact hc') hc, if_pos rfl]; simp
   ·rename_i q
    exact (h.near c d hc hc').2 (y5z q)
  ·rw [hl2, if_neg hcd, <- h.near c d hc hc']
   unfold ent1
   simp only []
   split
   ·rw [z0q _ _ _ _ ha (by rw [h.len]; exact ha') hc]
    by_cases e : c = a
    ·subst e
     rw [if_pos rfl]
     simp only [List.mem_append, List.mem_singleton]
     exact ⟨fun q => q.resolve_right (fun e => hcd ⟨rfl, e⟩), .inl⟩
    ·rw [if_neg e]
   ·exact Iff.rfl
 ·intro c d i hi
  rw [hl2] at hi
  split at hi
  ·rename_i q
   obtain ⟨rfl, rfl⟩ := q
   split at hi
   ·have := Option.some.inj hi
    subst this
    exact ⟨by omega, by omega, he⟩
   ·obtain ⟨h1, h2, h3⟩ := h.line _ _ _ hi
    exact ⟨h1, by omega, h3⟩
  ·obtain ⟨h1, h2, h3⟩ := h.line _ _ _ hi
   exact ⟨h1, by omega, h3⟩
 ·intro c hc hc'
  unfold ent1
  simp only []
  split
  ·rw [z0q _ _ _ _ ha (by rw [h.len]; exact ha') hc]
   split
   ·rename_i e; subst e; simp
   ·omega
  ·omega
theorem y8s {es : List Edge} {P k : Nat} {s : List (List Int) × Ln} (h : HI es P k s) (ha : 0 <= (gt es (k : Int)).a) (ha' : (gt es (k : Int)).a < (P : Int)) (hb : 0 <= (gt es (k : Int)).b) (hb' : (gt es (k : Int)).b < (P : Int)) (hne : (gt es (k : Int)).a ≠ (gt es (k : Int)).b) :
  HI es P (k + 1) (entE es k s) := by
 obtain ⟨a1, a2, a3, a4, a5, a6⟩ := y9t h.toGI ha ha' (.inl ⟨rfl, rfl⟩)
 unfold entE
 generalize hs1 : ent1 es k (gt es (k : Int)).a (gt es (k : Int)).b s = s1 at *
 generalize (gt es (k : Int)).a = a at *
 generalize (gt es (k : Int)).b = b at *
 -- the second end, by the same law: only the zcm on the numbers has moved
 have hl2 : ∀ c d : Int, lget (ent1 es k b a s1).2 c d = if (c = b /\ d = a) then (if (!(lget s1.2 b a).isSome || decide ((gt es (k : Int)).minutes < (gt es ((lget s1.2 b a).getD default)).minutes)) = true then some (k : Int) else lget s1.2 b a) else lget s1.2 c d := by
  intro c d
  unfold ent1
  simp only []
  split
  ·rw [zls]
  ·split
   ·rename_i q; rw [q.1, q.2]
   ·rfl
 have hba : lget s1.2 b a = lget s.2 a b := by rw [a5 b a (fun q => hne q.2), h.sym]
 have hsm : (lget (ent1 es k b a s1).2 b a).isSome = true := by
  rw [hl2, if_pos ⟨rfl, rfl⟩]
  split
  ·rfl
  ·rename_i q
   simp only [Bool.or_eq_true, not_or] at q
   exact y5z q.1
 have hlab : lget (ent1 es k b a s1).2 a b = lget s1.2 a b := by rw [hl2, if_neg (fun q => hne q.1)]
 have hlba : lget (ent1 es k b a s1).2 b a = lget s1.2 a b := by
  rw [hl2, if_pos ⟨rfl, rfl⟩, hba, a6]
 have hab : ((gt es (k : Int)).a = a /\ (gt es (k : Int)).b = b) \/ ((gt es (k : Int)).a = b /\ (gt es (k : Int)).b = a) -> True := fun _ => trivial
 refine ⟨⟨?_, ?_, ?_, ?_⟩, ?_⟩
 ·unfold ent1
  simp only []
  split
  ·rw [z1z]; exact a1
  ·exact a1
 ·intro c d hc hc'
  by_cases hcd : c = b /\ d = a
  ·obtain ⟨rfl, rfl⟩ := hcd
   rw [hsm]
   refine ⟨fun _ => rfl, fun _ => ?_⟩
   unfold ent1
   simp only []
   split
   ·rw [z0q _ _ _ _ hc (by rw [a1]; exact hc') hc, if_pos rfl]; simp
   ·rename_i q
    exact (a2 c d hc hc').2 (y5z q)
  ·rw [hl2, if_neg hcd, <- a2 c d hc hc']
   unfold ent1
   simp only []
   split
   ·rw [z0q _ _ _ _ hb (by rw [a1]; exact hb') hc]
    by_cases e : c = b
    ·subst e
     rw [if_pos rfl]
     simp only [List.mem_append, List.mem_singleton]
     exact ⟨fun q => q.resolve_right (fun e => hcd ⟨rfl, e⟩), .inl⟩
    ·rw [if_neg e]
   ·exact Iff.rfl
 ·intro c d i hi
  by_cases hcd : c = b /\ d = a
  ·obtain ⟨rfl, rfl⟩ := hcd
   rw [hlba] at hi
   obtain ⟨h1, h2, h3⟩ := a3 _ _ _ hi
   exact ⟨h1, h2, h3.elim .inr .inl⟩
  ·rw [hl2, if_neg hcd] at hi
   exact a3 _ _ _ hi
 ·intro c hc hc'
  have h1 := a4 c hc hc'
  have h0 := h.size c hc hc'
  have h2 : (gt (ent1 es k b a s1).1 c).length <= (gt s1.1 c).length + 1 := by
   unfold ent1
   simp only []
   split
   ·rw [z0q _ _ _ _ hb (by rw [a1]; exact hb') hc]
    split
    ·rename_i e; subst e; simp
    ·omega
   ·omega
  omega
 ·intro c d
  by_cases h1 : c = b /\ d = a
  ·obtain ⟨rfl, rfl⟩ := h1
   rw [hlba, hlab]
  ·by_cases h2 : c = a /\ d = b
   ·obtain ⟨rfl, rfl⟩ := h2
    rw [hlab, hlba]
   ·rw [hl2, if_neg h1, hl2, if_neg (fun q => h2 ⟨q.2, q.1⟩), a5 c d h2, a5 d c (fun q => h1 ⟨q.2, q.1⟩), h.sym]
def zit (es : List Edge) (P : Nat) : Nat -> List (List Int) × Ln
 | 0 => (List.replicate P default, [])
 | k + 1 => entE es k (zit es P k)
structure zl3 (x : zg) : Prop where
 places : x.places.length <= 512
 edges : x.edges.length <= 2048
 edge : ∀ i : Int, 0 <= i -> i < (x.edges.length : Int) -> zdj x.places.length (gt x.edges i) = true
theorem y8o {x : zg} (h : z9k x = 0) : zl3 x := by
 obtain ⟨h1, h2, _, h4⟩ := zkv h
 exact ⟨h1, h2, fun i h0 hi => h4 _ (z1d h0 hi)⟩
theorem zl3.ends {x : zg} (h : zl3 x) {i : Int} (h0 : 0 <= i) (hi : i < (x.edges.length : Int)) : 0 <= (gt x.edges i).a /\ (gt x.edges i).a < (x.places.length : Int) /\ 0 <= (gt x.edges i).b /\ (gt x.edges i).b < (x.places.length : Int) /\
  (gt x.edges i).a ≠ (gt x.edges i).b /\ 0 <= (gt x.edges i).railway /\ (gt x.edges i).railway <= 15 /\ 1 <= (gt x.edges i).minutes /\ (gt x.edges i).minutes <= 100000 /\ 0 <= (gt x.edges i).km /\ (gt x.edges i).km <= 10000 := by
 have := h.edge i h0 hi
 simp only [zdj, Bool.and_eq_true, ztt, bne_iff_ne, ne_eq] at this
 obtain ⟨⟨⟨⟨⟨q1, q2⟩, q3⟩, q4⟩, q5⟩, q6⟩ := this
 exact ⟨q1.1, by omega, q2.1, by omega, q3, q4.1, q4.2, q5.1, q5.2, q6.1, q6.2⟩
theorem zf3 {x : zg} (h : zl3 x) : ∀ k, k <= x.edges.length -> HI x.edges x.places.length k (zit x.edges x.places.length k)
 | 0, _ => y77 _ _
 | k + 1, hk => by
  obtain ⟨a1, a2, a3, a4, a5, _⟩ := h.ends (i := (k : Int)) (by omega) (by omega)
  exact y8s (zf3 h k (by omega)) a1 a2 a3 a4 a5
structure Gr (P : Nat) (near : List (List Int)) (wt : Int -> Int -> Int) : Prop where
 len : near.length = P
 small : P <= 512
 size : ∀ a : Int, 0 <= a -> a < (P : Int) -> (gt near a).length <= 5000
 rng : ∀ a b : Int, 0 <= a -> a < (P : Int) -> b ∈ gt near a -> 0 <= b /\ b < (P : Int)
 sym : ∀ a b : Int, 0 <= a -> a < (P : Int) -> b ∈ gt near a -> a ∈ gt near b /\ wt b a = wt a b
 wt : ∀ a b : Int, 0 <= a -> a < (P : Int) -> b ∈ gt near a -> 1 <= wt a b /\ wt a b <= 100000
def zac (x : zg) : Ln := (zit x.edges x.places.length x.edges.length).2
def wtN (x : zg) (a b : Int) : Int := (gt x.edges ((lget (zac x) a b).getD default)).minutes
def zgc (x : zg) : List (List Int) := (zit x.edges x.places.length x.edges.length).1
def z41 (x : zg) : List (List Int) := (zgc x).map fun l => ze7 (fun a b => decide (a < b)) l
theorem y2m {α β : Type} [Inhabited α] [Inhabited β] (f : α -> β) (l : List α) {i : Int} (h0 : 0 <= i) (h : i < (l.length : Int)) : gt (l.map f) i = f (gt l i) := by
 obtain ⟨n, rfl⟩ : ∃ n : Nat, i = (n : Int) := ⟨i.toNat, by omega⟩
 rw [z1g (by simp; omega), z1g (by omega)]
 simp
theorem zon {x : zg} (h : zl3 x) {a b : Int} (ha : 0 <= a) (ha' : a < (x.places.length : Int)) (hb : b ∈ gt (z41 x) a) : ∃ i, lget (zac x) a b = some i /\ 0 <= i /\ i < (x.edges.length : Int) /\ (((gt x.edges i).a = a /\ (gt x.edges i).b = b) \/ ((gt x.edges i).a = b /\ (gt x.edges i).b = a)) := by
 have H := zf3 h x.edges.length (Nat.le_refl _)
 unfold z41 at hb
 rw [y2m _ _ ha (by show a < ((zgc x).length : Int); rw [show (zgc x).length = _ from H.len]; exact ha')] at hb
 have hb := (z1h _ _).mem_iff.1 hb
 have := (H.near a b ha ha').1 hb
 obtain ⟨i, hi⟩ := Option.isSome_iff_exists.1 this
 obtain ⟨h1, h2, h3⟩ := H.line _ _ _ hi
 exact ⟨i, hi, h1, h2, h3⟩
theorem grN {x : zg} (h : zl3 x) : Gr x.places.length (z41 x) (wtN x) := by
 have H := zf3 h x.edges.length (Nat.le_refl _)
 have hlen : (z41 x).length = x.places.length := by unfold z41; rw [List.length_map]; exact H.len
 have hl0 : (zgc x).length = x.places.length := H.len
 have hmem : ∀ a b : Int, 0 <= a -> a < (x.places.length : Int) -> (b ∈ gt (z41 x) a ↔ (lget (zac x) a b).isSome = true) := by
  intro a b ha ha'
  unfold z41
  rw [y2m _ _ ha (by rw [hl0]; exact ha')]
  exact ((z1h _ _).mem_iff).trans (H.near a b ha ha')
 refine ⟨hlen, h.places, ?_, ?_, ?_, ?_⟩
 ·intro a ha ha'
  unfold z41
  rw [y2m _ _ ha (by rw [hl0]; exact ha'), (z1h _ _).length_eq]
  have := H.size a ha ha'
  have := h.edges
  show (gt (zit x.edges x.places.length x.edges.length).1 a).length <= _
  omega
 ·intro a b ha ha' hb
  obtain ⟨i, _, h1, h2, h3⟩ := zon h ha ha' hb
  obtain ⟨e1, e2, e3, e4, _⟩ := h.ends h1 h2
  rcases h3 with ⟨rfl, rfl⟩ | ⟨rfl, rfl⟩
  ·exact ⟨e3, e4⟩
  ·exact ⟨e1, e2⟩
 ·intro a b ha ha' hb
  obtain ⟨i, hi, h1, h2, h3⟩ := zon h ha ha' hb
  obtain ⟨e1, e2, e3, e4, _⟩ := h.ends h1 h2
  have hbr : 0 <= b /\ b < (x.places.length : Int) := by
   rcases h3 with ⟨rfl, rfl⟩ | ⟨rfl, rfl⟩
   ·exact ⟨e3, e4⟩
   ·exact ⟨e1, e2⟩
  have hs : lget (zac x) b a = lget (zac x) a b := H.sym b a
  refine ⟨(hmem b a hbr.1 hbr.2).2 (by rw [hs, hi]; rfl), ?_⟩
  unfold wtN
  rw [hs]
 ·intro a b ha ha' hb
  obtain ⟨i, hi, h1, h2, _⟩ := zon h ha ha' hb
  obtain ⟨_, _, _, _, _, _, _, e1, e2, _⟩ := h.ends h1 h2
  unfold wtN
  rw [hi]
  exact ⟨e1, e2⟩
structure DI (P : Nat) (near : List (List Int)) (wt : Int -> Int -> Int) (s : Int) (k : Nat) (t : List Int) (d : List Bool) : Prop where
 lt : t.length = P
 ld : d.length = P
 src : gt t s = 0
 bd : ∀ i : Int, 0 <= i -> i < (P : Int) -> gt t i = -1 \/ (0 <= gt t i /\ gt t i <= 100000 * k)
 don : ∀ i : Int, 0 <= i -> i < (P : Int) -> gt d i = true -> 0 <= gt t i
 pre : ∀ a : Int, 0 <= a -> a < (P : Int) -> a ≠ s -> 0 <= gt t a -> ∃ q, 0 <= q /\ q < (P : Int) /\ gt d q = true /\ q ∈ gt near a /\ gt t a = gt t q + wt q a
 mon : ∀ q i : Int, 0 <= q -> q < (P : Int) -> 0 <= i -> i < (P : Int) -> gt d q = true -> gt d i = false -> 0 <= gt t i -> gt t q <= gt t i
 nbr : ∀ q i : Int, 0 <= q -> q < (P : Int) -> gt d q = true -> i ∈ gt near q -> 0 <= gt t i /\ gt t i <= gt t q + wt q i
 cnt : d.count true = k
structure RndI (P : Nat) (near : List (List Int)) (wt : Int -> Int -> Int) (s p : Int) (k : Nat) (t0 : List Int) (d : List Bool) (seen : List Int) (t : List Int) : Prop where
 lt : t.length = P
 own : gt t p = gt t0 p
 val : ∀ i : Int, 0 <= i -> i < (P : Int) -> gt t i = gt t0 i \/ (i ∈ seen /\ gt t i = gt t0 p + wt p i /\ (gt t0 i < 0 \/ gt t0 p + wt p i < gt t0 i))
 got : ∀ i ∈ seen, 0 <= i -> 0 <= gt t i /\ gt t i <= gt t p + wt p i
end Px
end
section
namespace Px
open Go
set_option linter.unusedVariables false
set_option linter.unusedSimpArgs false
section
variable {P : Nat} {near : List (List Int)} {wt : Int -> Int -> Int} {s : Int}
theorem zxu {α : Type} [Inhabited α] (l : List α) {i : Int} (h0 : 0 <= i) (h : i < (l.length : Int)) : zz l i (gt l i) = l := by
 obtain ⟨n, rfl⟩ : ∃ n : Nat, i = (n : Int) := ⟨i.toNat, by omega⟩
 rw [z1g (by omega)]
 simp [zz]
theorem y0d {p : Int} {k : Nat} {t0 : List Int} {d : List Bool} (h : DI P near wt s k t0 d) : RndI P near wt s p k t0 d [] t0 :=
 ⟨h.lt, rfl, fun i _ _ => .inl rfl, fun i hi => by cases hi⟩
theorem y72 (hG : Gr P near wt) {p : Int} (hp : 0 <= p) (hp' : p < (P : Int)) {k : Nat} {t0 : List Int} {d : List Bool} (hp0 : 0 <= gt t0 p) {seen t : List Int} (h : RndI P near wt s p k t0 d seen t) {q : Int} (hq : q ∈ gt near p) :
  RndI P near wt s p k t0 d (seen ++ [q]) (if (decide (gt t q < 0) || decide (gt t p + wt p q < gt t q)) = true then zz t q (gt t p + wt p q) else t) := by
 obtain ⟨q0, q1⟩ := hG.rng p q hp hp' hq
 obtain ⟨w0, w1⟩ := hG.wt p q hp hp' hq
 have hown := h.own
 by_cases c : gt t q < 0 \/ gt t p + wt p q < gt t q
 ·rw [if_pos (by simpa using c)]
  have hqp : q ≠ p := fun e => by subst e; omega
  refine ⟨by rw [z1z]; exact h.lt, ?_, fun i h0 h1 => ?_, fun i hi hneg => ?_⟩
  ·rw [z0q _ _ _ _ q0 (by rw [h.lt]; exact q1) hp, if_neg (fun e => hqp e.symm)]; exact hown
  ·rw [z0q _ _ _ _ q0 (by rw [h.lt]; exact q1) h0]
   by_cases e : i = q
   ·subst e
    rw [if_pos rfl]
    refine .inr ⟨by simp, by rw [hown], ?_⟩
    rcases h.val i h0 h1 with h2 | ⟨_, h2, _⟩
    ·rw [h2, hown] at c; exact c
    ·rw [h2, hown] at c; exfalso; omega
   ·rw [if_neg e]
    rcases h.val i h0 h1 with h2 | ⟨h2, h3, h4⟩
    ·exact .inl h2
    ·exact .inr ⟨List.mem_append_left _ h2, h3, h4⟩
  ·by_cases e : i = q
   ·subst e
    rw [z0q _ _ _ _ q0 (by rw [h.lt]; exact q1) q0, if_pos rfl, z0q _ _ _ _ q0 (by rw [h.lt]; exact q1) hp, if_neg (fun e => hqp e.symm)]
    omega
   ·have hi : i ∈ seen := by
     rcases List.mem_append.1 hi with hi | hi
     ·exact hi
     ·exact absurd (List.mem_singleton.1 hi) e
    rw [z0q _ _ _ _ q0 (by rw [h.lt]; exact q1) hneg, if_neg e, z0q _ _ _ _ q0 (by rw [h.lt]; exact q1) hp, if_neg (fun e => hqp e.symm)]
    exact h.got i hi hneg
 ·rw [if_neg (by simpa using c)]
  refine ⟨h.lt, hown, fun i h0 h1 => ?_, fun i hi hneg => ?_⟩
  ·rcases h.val i h0 h1 with h2 | ⟨h2, h3, h4⟩
   ·exact .inl h2
   ·exact .inr ⟨List.mem_append_left _ h2, h3, h4⟩
  ·rcases List.mem_append.1 hi with hi | hi
   ·exact h.got i hi hneg
   ·rw [List.mem_singleton.1 hi]; omega
theorem ztb {d : List Bool} {p : Int} (hp : 0 <= p) (hp' : p < (d.length : Int)) (h : gt d p = false) : (zz d p true).count true = d.count true + 1 := by
 obtain ⟨n, rfl⟩ : ∃ n : Nat, p = (n : Int) := ⟨p.toNat, by omega⟩
 have hn : n < d.length := by omega
 rw [z1g hn] at h
 unfold zz
 rw [Int.toNat_natCast, List.count_set hn, h]
 simp
theorem y62 (hG : Gr P near wt) {p : Int} (hp : 0 <= p) (hp' : p < (P : Int)) {k : Nat} {t0 : List Int} {d : List Bool} (h : DI P near wt s k t0 d) (hs : 0 <= s) (hs' : s < (P : Int)) (hp0 : 0 <= gt t0 p) (hd : gt d p = false)
  (hmin : ∀ i : Int, 0 <= i -> i < (P : Int) -> 0 <= gt t0 i -> gt d i = false -> gt t0 p <= gt t0 i) {t : List Int} (hr : RndI P near wt s p k t0 d (gt near p) t) : DI P near wt s (k + 1) t (zz d p true) := by
 have hds : ∀ i : Int, 0 <= i -> gt (zz d p true) i = if i = p then true else gt d i := fun i hi => z0q _ _ _ _ hp (by rw [h.ld]; exact hp') hi
 have hw : ∀ i, i ∈ gt near p -> 1 <= wt p i /\ wt p i <= 100000 := fun i hi => hG.wt p i hp hp' hi
 -- what is done stays
 have hdone : ∀ i : Int, 0 <= i -> i < (P : Int) -> gt d i = true -> gt t i = gt t0 i := by
  intro i h0 h1 hdi
  rcases hr.val i h0 h1 with h2 | ⟨h2, h3, h4⟩
  ·exact h2
  ·have := hw i h2
   have := h.don i h0 h1 hdi
   have := h.mon i p h0 h1 hp hp' hdi hd hp0
   omega
 have hbdp := (h.bd p hp hp').resolve_left (by omega)
 refine ⟨hr.lt, by rw [z1z]; exact h.ld, ?_, fun i h0 h1 => ?_, fun i h0 h1 hdi => ?_, fun a h0 h1 has hta => ?_, fun q i q0 q1 h0 h1 hdq hdi hti => ?_, fun q i q0 q1 hdq hin => ?_, ?_⟩
 ·rcases hr.val s hs hs' with h2 | ⟨h2, h3, h4⟩
  ·rw [h2, h.src]
  ·have := hw s h2
   have := h.src
   omega
 ·rcases hr.val i h0 h1 with h2 | ⟨h2, h3, h4⟩
  ·rw [h2]
   rcases h.bd i h0 h1 with h5 | h5
   ·exact .inl h5
   ·right; omega
  ·have := hw i h2
   right; omega
 ·rw [hds i h0] at hdi
  by_cases e : i = p
  ·subst e; rw [hr.own]; exact hp0
  ·rw [if_neg e] at hdi
   rw [hdone i h0 h1 hdi]; exact h.don i h0 h1 hdi
 ·rcases hr.val a h0 h1 with h2 | ⟨h2, h3, h4⟩
  ·rw [h2] at hta ⊢
   obtain ⟨q, q0, q1, hdq, hqn, he⟩ := h.pre a h0 h1 has hta
   refine ⟨q, q0, q1, ?_, hqn, by rw [hdone q q0 q1 hdq]; exact he⟩
   rw [hds q q0]; split
   ·rfl
   ·exact hdq
  ·obtain ⟨hsy, hwt⟩ := hG.sym p a hp hp' h2
   exact ⟨p, hp, hp', by rw [hds p hp, if_pos rfl], hsy, by rw [hr.own, h3]⟩
 ·rw [hds q q0] at hdq
  rw [hds i h0] at hdi
  have hip : i ≠ p := fun e => by rw [if_pos e] at hdi; cases hdi
  rw [if_neg hip] at hdi
  have hge : gt t0 p <= gt t i := by
   rcases hr.val i h0 h1 with h2 | ⟨h2, h3, h4⟩
   ·rw [h2] at hti ⊢; exact hmin i h0 h1 hti hdi
   ·have := hw i h2; omega
  by_cases e : q = p
  ·subst e; rw [hr.own]; exact hge
  ·rw [if_neg e] at hdq
   have := h.mon q p q0 q1 hp hp' hdq hd hp0
   rw [hdone q q0 q1 hdq]; omega
 ·rw [hds q q0] at hdq
  by_cases e : q = p
  ·subst e; exact hr.got i hin (hG.rng q i hp hp' hin).1
  ·rw [if_neg e] at hdq
   obtain ⟨i0, i1⟩ := hG.rng q i q0 q1 hin
   have := h.nbr q i q0 q1 hdq hin
   rw [hdone q q0 q1 hdq]
   rcases hr.val i i0 i1 with h2 | ⟨h2, h3, h4⟩
   ·rw [h2]; exact this
   ·have := hw i h2; omega
 ·rw [ztb hp (by rw [h.ld]; exact hp') hd, h.cnt]
structure DF (P : Nat) (near : List (List Int)) (wt : Int -> Int -> Int) (s : Int) (t : List Int) : Prop where
 lt : t.length = P
 src : gt t s = 0
 bd : ∀ i : Int, 0 <= i -> i < (P : Int) -> gt t i = -1 \/ (0 <= gt t i /\ gt t i <= 51200000)
 pre : ∀ a : Int, 0 <= a -> a < (P : Int) -> a ≠ s -> 0 <= gt t a -> ∃ q, 0 <= q /\ q < (P : Int) /\ q ∈ gt near a /\ 0 <= gt t q /\ gt t a = gt t q + wt q a
 nbr : ∀ q i : Int, 0 <= q -> q < (P : Int) -> 0 <= gt t q -> i ∈ gt near q -> 0 <= gt t i /\ gt t i <= gt t q + wt q i
theorem ydq (hG : Gr P near wt) {k : Nat} {t : List Int} {d : List Bool} (h : DI P near wt s k t d) (hall : ∀ i : Int, 0 <= i -> i < (P : Int) -> 0 <= gt t i -> gt d i = true) : DF P near wt s t := by
 have hk : k <= P := by rw [<- h.cnt, <- h.ld]; exact List.count_le_length
 have := hG.small
 refine ⟨h.lt, h.src, fun i h0 h1 => ?_, fun a h0 h1 ha hta => ?_, fun q i q0 q1 hq hi => h.nbr q i q0 q1 (hall q q0 q1 hq) hi⟩
 ·rcases h.bd i h0 h1 with h2 | h2
  ·exact .inl h2
  ·right; omega
 ·obtain ⟨q, q0, q1, hdq, hqn, he⟩ := h.pre a h0 h1 ha hta
  exact ⟨q, q0, q1, hqn, h.don q q0 q1 hdq, he⟩
theorem y3o (hs : 0 <= s) (hs' : s < (P : Int)) (t : List Int) (ht : t.length = P) (hall : ∀ i : Int, 0 <= i -> i < (P : Int) -> gt t i = if i = s then 0 else -1) : DI P near wt s 0 t (List.replicate P (default : Bool)) := by
 have hd : ∀ i : Int, 0 <= i -> i < (P : Int) -> gt (List.replicate P (default : Bool)) i = false := fun i h0 h1 => by rw [z3l _ _ _ h0 (by omega)]; rfl
 refine ⟨ht, by simp, by rw [hall s hs hs', if_pos rfl], fun i h0 h1 => ?_, fun i h0 h1 h => ?_, fun a h0 h1 ha hta => ?_, fun q i q0 q1 h0 h1 hdq => ?_, fun q i q0 q1 hdq => ?_, ?_⟩
 ·rw [hall i h0 h1]; split <;> omega
 ·rw [hd i h0 h1] at h; cases h
 ·rw [hall a h0 h1, if_neg ha] at hta; omega
 ·rw [hd q q0 q1] at hdq; cases hdq
 ·rw [hd q q0 q1] at hdq; cases hdq
 ·simp [List.count_replicate]
end
section walk
variable {ρ : Type} {P : Nat} {near : List (List Int)} {wt : Int -> Int -> Int} {s : Int}
theorem yd3 (hP : P <= 512) (A : Nat -> Int -> Int -> Option ρ) (fin : Int -> Option ρ) (t : List Int) (d : List Bool) (ht : t.length = P) (hd : d.length = P)
  (stp : ∀ n p i, A (n + 1) p i = (if (decide ((i : Int) < (P : Int))) = true then (ck ((0 : Int) <= i /\ i < (t.length : Int)) (ck (((decide ((0 : Int) <= (gt t i))) = true) -> (0 : Int) <= i /\ i < (d.length : Int)) (ck ((((decide ((0 : Int) <= (gt t i))) && (!(gt d i))) = true /\ (decide ((p : Int) < 0)) = false) -> (0 : Int) <= i /\ i < (t.length : Int)) (ck ((((decide ((0 : Int) <= (gt t i))) && (!(gt d i))) = true /\ (decide ((p : Int) < 0)) = false) -> (0 : Int) <= p /\ p < (t.length : Int)) (if (((decide ((0 : Int) <= (gt t i))) && (!(gt d i))) && ((decide ((p : Int) < 0)) || (decide (((gt t i) : Int) < (gt t p))))) = true then (A n i (W (i + 1))) else (A n p (W (i + 1)))))))) else fin p)) (n : Nat) (hn : P < n) :
  ∃ p, A n (-1) 0 = fin p /\ ((p = -1 /\ ∀ i : Int, 0 <= i -> i < (P : Int) -> 0 <= gt t i -> gt d i = true) \/ (0 <= p /\ p < (P : Int) /\ 0 <= gt t p /\ gt d p = false /\ ∀ i : Int, 0 <= i -> i < (P : Int) -> 0 <= gt t i -> gt d i = false -> gt t p <= gt t i)) := by
 refine zp (fun n i (p : Int) => A n p i) P (fun i p => (p = -1 /\ ∀ j : Int, 0 <= j -> j < (i : Int) -> 0 <= gt t j -> gt d j = true) \/ (0 <= p /\ p < (i : Int) /\ 0 <= gt t p /\ gt d p = false /\ ∀ j : Int, 0 <= j -> j < (i : Int) -> 0 <= gt t j -> gt d j = false -> gt t p <= gt t j))
  (fun o => ∃ p, o = fin p /\ ((p = -1 /\ ∀ i : Int, 0 <= i -> i < (P : Int) -> 0 <= gt t i -> gt d i = true) \/ (0 <= p /\ p < (P : Int) /\ 0 <= gt t p /\ gt d p = false /\ ∀ i : Int, 0 <= i -> i < (P : Int) -> 0 <= gt t i -> gt d i = false -> gt t p <= gt t i))) ?_ ?_ n (-1) (.inl ⟨rfl, fun j h0 h1 => by omega⟩) hn
 ·intro n i p hi hI hs
  rw [stp, if_pos (by simp; omega), z8 ⟨by omega, by omega⟩, z8 (fun _ => ⟨by omega, by omega⟩), z8 (fun _ => ⟨by omega, by omega⟩), W_id (by omega) (by omega)]
  have hpr : (decide ((p : Int) < 0)) = false -> (0 : Int) <= p /\ p < (t.length : Int) := by
   intro h
   simp only [decide_eq_false_iff_not] at h
   rcases hI with ⟨rfl, _⟩ | ⟨h1, h2, _⟩
   ·omega
   ·exact ⟨h1, by omega⟩
  rw [z8 (fun h => hpr h.2)]
  have split_j : ∀ j : Int, j < ((i + 1 : Nat) : Int) -> j < (i : Int) \/ j = (i : Int) := fun j h => by omega
  by_cases c : (0 <= gt t (i : Int) /\ gt d (i : Int) = false) /\ (p < 0 \/ gt t (i : Int) < gt t p)
  ·rw [if_pos (by simpa using c)]
   refine hs _ (.inr ⟨by omega, by omega, c.1.1, c.1.2, fun j h0 h1 htj hdj => ?_⟩)
   rcases split_j j h1 with h2 | rfl
   ·rcases hI with ⟨_, h3⟩ | ⟨q0, _, _, _, h3⟩
    ·have := h3 j h0 h2 htj; rw [hdj] at this; cases this
    ·have := h3 j h0 h2 htj hdj
     have := c.2.resolve_left (by omega)
     omega
   ·exact Int.le_refl _
  ·rw [if_neg (by simpa using c)]
   refine hs p ?_
   rcases hI with ⟨rfl, h3⟩ | ⟨q0, q1, q2, q3, h3⟩
   ·refine .inl ⟨rfl, fun j h0 h1 htj => ?_⟩
    rcases split_j j h1 with h2 | rfl
    ·exact h3 j h0 h2 htj
    ·cases hdi : gt d (i : Int) with
     | true => rfl
     | false => exact absurd ⟨⟨htj, hdi⟩, .inl (by omega)⟩ c
   ·refine .inr ⟨q0, by omega, q2, q3, fun j h0 h1 htj hdj => ?_⟩
    rcases split_j j h1 with h2 | rfl
    ·exact h3 j h0 h2 htj hdj
    ·rcases Int.lt_or_le (gt t (i : Int)) (gt t p) with h4 | h4
     ·exact absurd ⟨⟨htj, hdj⟩, .inr h4⟩ c
     ·exact h4
 ·intro n p hI
  rw [stp, if_neg (by simp)]
  exact ⟨p, rfl, hI⟩
theorem ydj (hG : Gr P near wt) {p : Int} (hp : 0 <= p) (hp' : p < (P : Int)) {k : Nat} (hk : k <= 512) {t0 : List Int} {d : List Bool} (hD : DI P near wt s k t0 d) (hp0 : 0 <= gt t0 p) (B : Nat -> Int -> List Int -> Option ρ) (K : List Int -> Option ρ) (nb : List Int) (hnb : nb = gt near p) (E : Nat) (lg : Int -> Int) (mins : Int -> Int)
  (hlg : ∀ q ∈ nb, 0 <= lg q /\ lg q < (E : Int) /\ mins (lg q) = wt p q)
  (stp : ∀ n i t, B (n + 1) i t = (if (decide ((i : Int) < (nb.length : Int))) = true then (ck ((0 : Int) <= i /\ i < (nb.length : Int)) (ck ((0 : Int) <= p /\ p < (t.length : Int)) (ck ((0 : Int) <= lg (gt nb i) /\ lg (gt nb i) < (E : Int)) (ck ((0 : Int) <= (gt nb i) /\ (gt nb i) < (t.length : Int)) (ck (((decide (((gt t (gt nb i)) : Int) < 0)) = false) -> (0 : Int) <= (gt nb i) /\ (gt nb i) < (t.length : Int)) (if ((decide (((gt t (gt nb i)) : Int) < 0)) || (decide (((W ((gt t p) + mins (lg (gt nb i)))) : Int) < (gt t (gt nb i))))) = true then (ck ((0 : Int) <= (gt nb i) /\ (gt nb i) < (t.length : Int)) (B n (W (i + 1)) (zz t (gt nb i) (W ((gt t p) + mins (lg (gt nb i))))))) else (B n (W (i + 1)) t))))))) else K t)) (n : Nat) (hn : nb.length < n) :
  ∃ t, B n 0 t0 = K t /\ RndI P near wt s p k t0 d nb t := by
 have hsz : nb.length <= 5000 := by rw [hnb]; exact hG.size p hp hp'
 have hbp := (hD.bd p hp hp').resolve_left (by omega)
 refine zp (fun n i t => B n i t) nb.length (fun i t => RndI P near wt s p k t0 d (nb.take i) t) (fun o => ∃ t, o = K t /\ RndI P near wt s p k t0 d nb t) ?_ ?_ n t0 (y0d hD) hn
 ·intro n i t hi hI hs
  have hm : gt nb (i : Int) ∈ gt near p := by rw [<- hnb]; exact z1d (by omega) (by omega)
  obtain ⟨q0, q1⟩ := hG.rng p _ hp hp' hm
  obtain ⟨w0, w1⟩ := hG.wt p _ hp hp' hm
  obtain ⟨l0, l1, l2⟩ := hlg (gt nb (i : Int)) (by rw [hnb]; rw [hnb] at hm; exact hm)
  have hlt := hI.lt
  have hst := y72 hG hp hp' hp0 hI hm
  rw [<- z07 nb i hi] at hst
  have hr := hs _ hst
  have hown := hI.own
  rw [stp, if_pos (by simp; omega), z8 ⟨by omega, by omega⟩, z8 ⟨by omega, by omega⟩, z8 ⟨l0, l1⟩, z8 ⟨by omega, by omega⟩, z8 (fun _ => ⟨by omega, by omega⟩), l2, W_id (x := gt t p + _) (by omega) (by omega), W_id (by omega) (by omega)]
  generalize gt nb (i : Int) = q at *
  by_cases c : (decide (gt t q < 0) || decide (gt t p + wt p q < gt t q)) = true
  ·rw [if_pos c] at hr ⊢
   rw [z8 ⟨by omega, by omega⟩]
   exact hr
  ·rw [if_neg c] at hr ⊢
   exact hr
 ·intro n t hI
  rw [stp, if_neg (by simp)]
  rw [List.take_length] at hI
  exact ⟨t, rfl, hI⟩
theorem y6q (hG : Gr P near wt) (hs : 0 <= s) (hs' : s < (P : Int)) (M : Nat -> List Int -> List Bool -> Option ρ) (fin : List Int -> Option ρ) (φ : Nat)
  (rnd : ∀ n k t d, k <= 512 -> DI P near wt s k t d -> (∃ t', DF P near wt s t' /\ M (n + 1) t d = fin t') \/ (∃ t' p, 0 <= p /\ p < (P : Int) /\ DI P near wt s (k + 1) t' (zz d p true) /\ M (n + 1) t d = M n t' (zz d p true))) :
  ∀ n k t d, DI P near wt s k t d -> P < n + k -> ∃ t', DF P near wt s t' /\ M n t d = fin t' := by
 intro n
 induction n with
 | zero =>
  intro k t d h hn
  have hk : k <= P := by rw [<- h.cnt, <- h.ld]; exact List.count_le_length
  omega
 | succ n ih =>
  intro k t d h hn
  have hk : k <= P := by rw [<- h.cnt, <- h.ld]; exact List.count_le_length
  have := hG.small
  rcases rnd n k t d (by omega) h with h1 | ⟨t', p, _, _, h2, h3⟩
  ·exact h1
  ·rw [h3]
   exact ih (k + 1) t' _ h2 (by omega)
end walk
end Px
end
section
namespace Px
open Go
set_option linter.unusedVariables false
set_option linter.unusedSimpArgs false
section zu
variable (φ : Nat) (K : List Edge -> Int -> Int -> Int -> Int -> zg -> zg -> List (List Int) -> Ln -> Option (Int × Int × Unit)) (x : zg) (a0 b0 : Int)
theorem z79 {i : Nat} (hi : i < x.edges.length) {P : Nat} {near : List (List Int)} {line : Ln} {a b : Int} (hl : near.length = P) (ha : 0 <= a) (ha' : a < (P : Int)) (hsz : (gt near a).length <= 10000) (hx : x.edges.length <= 2048) (hold : ∀ o, lget line a b = some o -> 0 <= o /\ o < (x.edges.length : Int)) :
  (if (!(lget line a b).isSome) = true then (ck ((0 : Int) <= a /\ a < (near.length : Int)) (ck ((0 : Int) <= a /\ a < (near.length : Int)) (ck ((a : Int) = a) (ck (fits ((gt near a).length + ([b]).length) 8) (ck ((0 : Int) <= a /\ a < (near.length : Int)) (ck ((a : Int) = a) (z2o φ K i ((lget line a b).getD default) ((lget line a b).isSome) x.edges (x.edges.length : Int) i a0 b0 x (keyP a b) x (zz near a (gt near a ++ [b])) line))))))) else (z2o φ K i ((lget line a b).getD default) ((lget line a b).isSome) x.edges (x.edges.length : Int) i a0 b0 x (keyP a b) x near line)) =
  K x.edges (x.edges.length : Int) ((i : Int) + 1) a0 b0 x x (ent1 x.edges i a b (near, line)).1 (ent1 x.edges i a b (near, line)).2 := by
 have hW : W ((i : Int) + 1) = (i : Int) + 1 := W_id (by omega) (by omega)
 unfold z2o ent1
 simp only []
 cases h : lget line a b with
 | none =>
  simp only [Option.isSome_none, Bool.not_false, if_true, Option.getD_none, Bool.true_or]
  rw [z8 ⟨ha, by omega⟩, z8 ⟨ha, by omega⟩, z8 trivial, z8 (y7y (by simp; omega) (by omega)), z8 ⟨ha, by omega⟩, z8 trivial, z8 (by simp), z8 (by simp), hW]
 | some o =>
  have ho := hold o h
  simp only [Option.isSome_some, Bool.not_true, Bool.false_eq_true, if_false, Option.getD_some, Bool.false_or]
  rw [z8 (fun _ => ⟨by omega, by omega⟩), z8 (fun _ => ho), hW]
  by_cases c : decide ((gt x.edges (i : Int)).minutes < (gt x.edges o).minutes) = true
  ·rw [if_pos c, if_pos c]
  ·rw [if_neg c, if_neg c]
theorem zd5 {i : Nat} (hi : i < x.edges.length) {P : Nat} {near : List (List Int)} {line : Ln} {a b : Int} (hl : near.length = P) (ha : 0 <= a) (ha' : a < (P : Int)) (hsz : (gt near a).length <= 10000) (hx : x.edges.length <= 2048) (hold : ∀ o, lget line a b = some o -> 0 <= o /\ o < (x.edges.length : Int)) :
  (if (!(lget line a b).isSome) = true then (ck ((0 : Int) <= a /\ a < (near.length : Int)) (ck ((0 : Int) <= a /\ a < (near.length : Int)) (ck ((a : Int) = a) (ck (fits ((gt near a).length + ([b]).length) 8) (ck ((0 : Int) <= a /\ a < (near.length : Int)) (ck ((a : Int) = a) (z2m φ K i ((lget line a b).getD default) ((lget line a b).isSome) x.edges (x.edges.length : Int) i a0 b0 x (keyP a b) x (zz near a (gt near a ++ [b])) line))))))) else (z2m φ K i ((lget line a b).getD default) ((lget line a b).isSome) x.edges (x.edges.length : Int) i a0 b0 x (keyP a b) x near line)) =
  K x.edges (x.edges.length : Int) ((i : Int) + 1) a0 b0 x x (ent1 x.edges i a b (near, line)).1 (ent1 x.edges i a b (near, line)).2 := z79 φ K x a0 b0 hi hl ha ha' hsz hx hold
theorem z72 (hx : zl3 x) {i : Nat} (hi : i < x.edges.length) {near near1 : List (List Int)} {line : Ln} (old : Int) (sm : Bool) (hl : near1.length = x.places.length) (ho : sm = true -> 0 <= old /\ old < (x.edges.length : Int))
  (hsz : (gt near1 (gt x.edges (i : Int)).b).length <= 10000) (hline : ∀ a b o, lget line a b = some o -> 0 <= o /\ o < (x.edges.length : Int)) (line1 : Ln) (h1 : line1 = if (!sm || decide ((gt x.edges (i : Int)).minutes < (gt x.edges old).minutes)) = true then lset line (gt x.edges (i : Int)).a (gt x.edges (i : Int)).b i else line) :
  z2n φ K i old sm i x.edges (x.edges.length : Int) i a0 b0 x (keyP (gt x.edges (i : Int)).a (gt x.edges (i : Int)).b) (gt x.edges (i : Int)) x near1 line =
  K x.edges (x.edges.length : Int) ((i : Int) + 1) a0 b0 x x (ent1 x.edges i (gt x.edges (i : Int)).b (gt x.edges (i : Int)).a (near1, line1)).1 (ent1 x.edges i (gt x.edges (i : Int)).b (gt x.edges (i : Int)).a (near1, line1)).2 := by
 obtain ⟨e1, e2, e3, e4, e5, _⟩ := hx.ends (i := (i : Int)) (by omega) (by omega)
 unfold z2n
 rw [z8 (fun _ => ⟨by omega, by omega⟩), z8 (fun h => ho (by simpa using h))]
 by_cases c : (!sm || decide ((gt x.edges (i : Int)).minutes < (gt x.edges old).minutes)) = true
 ·rw [if_pos c] at h1 ⊢
  subst h1
  refine z79 φ K x a0 b0 hi hl e3 e4 hsz hx.edges fun o h => ?_
  rw [zls, if_neg (fun q => e5 q.1.symm)] at h
  exact hline _ _ o h
 ·rw [if_neg c] at h1 ⊢
  subst h1
  exact zd5 φ K x a0 b0 hi hl e3 e4 hsz hx.edges fun o h => hline _ _ o h
end zu
section zu
variable (φ : Nat) (x : zg) (a0 b0 : Int)
theorem zfa (hx : zl3 x) (n : Nat) {i : Nat} (hi : i < x.edges.length) {s : List (List Int) × Ln} (h : HI x.edges x.places.length i s) :
  zk φ (n + 1) x.edges (x.edges.length : Int) i a0 b0 x x s.1 s.2 = zk φ n x.edges (x.edges.length : Int) ((i : Int) + 1) a0 b0 x x (entE x.edges i s).1 (entE x.edges i s).2 := by
 obtain ⟨e1, e2, e3, e4, e5, _⟩ := hx.ends (i := (i : Int)) (by omega) (by omega)
 have hE := hx.edges
 have hline : ∀ a b o, lget s.2 a b = some o -> 0 <= o /\ o < (x.edges.length : Int) := fun a b o ho => by
  obtain ⟨h1, h2, _⟩ := h.line _ _ _ ho
  exact ⟨h1, by omega⟩
 have hsa := h.size _ e1 e2
 have hsb := h.size _ e3 e4
 have hlen := h.len
 rw [zk, if_pos (by simp; omega), z8 ⟨by omega, by omega⟩]
 unfold entE
 generalize hs1 : ent1 x.edges i (gt x.edges (i : Int)).a (gt x.edges (i : Int)).b s = s1
 have hs1' := hs1
 unfold ent1 at hs1'
 cases hg : lget s.2 (gt x.edges (i : Int)).a (gt x.edges (i : Int)).b with
 | none =>
  have hg' : @mget (Nat -> Int) Int ⟨beqA 2⟩ s.2 (upd (upd (fun _ => (default : Int)) 0 (gt x.edges (i : Int)).a) 1 (gt x.edges (i : Int)).b) = none := hg
  rw [hg] at hs1'
  simp only [Option.isSome_none, Bool.not_false, if_true, Option.getD_none, Bool.true_or] at hs1'
  rw [hg']
  simp only [Option.isSome_none, Bool.not_false, if_true, Option.getD_none]
  rw [z8 ⟨e1, by omega⟩, z8 ⟨e1, by omega⟩, z8 trivial, z8 (y7y (by simp; omega) (by omega)), z8 ⟨e1, by omega⟩, z8 trivial, <- hs1']
  refine z72 φ (zk φ n) x a0 b0 hx hi (near := s.1) _ _ (by rw [z1z]; exact hlen) (fun h => by cases h) ?_ hline _ (by simp)
  rw [z0q _ _ _ _ e1 (by omega) e3, if_neg (fun q => e5 q.symm)]
  omega
 | some o =>
  have hg' : @mget (Nat -> Int) Int ⟨beqA 2⟩ s.2 (upd (upd (fun _ => (default : Int)) 0 (gt x.edges (i : Int)).a) 1 (gt x.edges (i : Int)).b) = some o := hg
  rw [hg] at hs1'
  simp only [Option.isSome_some, Bool.not_true, Bool.false_eq_true, if_false, Option.getD_some, Bool.false_or] at hs1'
  rw [hg']
  simp only [Option.isSome_some, Bool.not_true, Bool.false_eq_true, if_false, Option.getD_some]
  rw [<- hs1']
  exact z72 φ (zk φ n) x a0 b0 hx hi (near := s.1) _ _ hlen (fun _ => hline _ _ _ hg) (by omega) hline _ (by simp)
theorem zfb (hx : zl3 x) (hφ : 5000 < φ) (line : Ln) : z0x φ φ ((zgc x).length : Int) 0 a0 b0 (zgc x) x line = (ck (z4o (x.places.length : Int) 8) (ck (z4o (((List.replicate ((x.places.length : Int) : Int).toNat (default : Int)).length : Int)) 1) (zw φ φ a0 (((List.replicate ((x.places.length : Int) : Int).toNat (default : Int)).length : Int)) 0 b0 x (List.replicate ((x.places.length : Int) : Int).toNat (default : Int)) ((List.replicate (((List.replicate ((x.places.length : Int) : Int).toNat (default : Int)).length : Int) : Int).toNat (default : Bool))) (z41 x) line))) := by
 have hl0 : (zgc x).length = x.places.length := (zf3 hx x.edges.length (Nat.le_refl _)).len
 have hP := hx.places
 have hE := hx.edges
 obtain ⟨n0, hn0⟩ : ∃ n0, n0 = x.places.length := ⟨_, rfl⟩
 rw [<- hn0] at hl0 hP
 rw [hl0]
 have hfin : ∀ o : List (List Int), o.length = n0 -> (∀ w : Nat, w < n0 -> gt o (w : Int) = ze7 (fun a b => decide (a < b)) (gt (zgc x) (w : Int))) -> o = z41 x := by
  intro o ho hw
  unfold z41
  refine List.ext_getElem (by simp [ho, hl0]) fun i h1 h2 => ?_
  have := hw i (by omega)
  rw [z1g h1, z1g (by omega)] at this
  simpa using this
 refine zp (fun n i o => z0x φ n (n0 : Int) i a0 b0 o x line) n0 (fun i o => o.length = n0 /\ ∀ w : Nat, w < n0 -> gt o (w : Int) = if w < i then ze7 (fun a b => decide (a < b)) (gt (zgc x) (w : Int)) else gt (zgc x) (w : Int)) (fun o => o = (ck (z4o (x.places.length : Int) 8) (ck (z4o (((List.replicate ((x.places.length : Int) : Int).toNat (default : Int)).length : Int)) 1) (zw φ φ a0 (((List.replicate ((x.places.length : Int) : Int).toNat (default : Int)).length : Int)) 0 b0 x (List.replicate ((x.places.length : Int) : Int).toNat (default : Int)) ((List.replicate (((List.replicate ((x.places.length : Int) : Int).toNat (default : Int)).length : Int) : Int).toNat (default : Bool))) (z41 x) line)))) ?_ ?_ φ (zgc x) ⟨hl0, fun w hw => by rw [if_neg (by omega)]⟩ (by omega)
 ·intro n i o hi ⟨ho1, ho2⟩ hs
  have hsz := (zf3 hx x.edges.length (Nat.le_refl _)).size (i : Int) (by omega) (by omega)
  have hsz : (gt (zgc x) (i : Int)).length <= 2 * x.edges.length := hsz
  have hso : zns (gt (zgc x) (i : Int)) = some (ze7 (fun a b => decide (a < b)) (gt (zgc x) (i : Int))) := by
   unfold zns zjp; rw [if_pos (by omega)]
  rw [z0x, if_pos (by simp; omega), z8 ⟨by omega, by omega⟩, z8 ⟨by omega, by omega⟩, z8 rfl, ho2 i hi, if_neg (by omega), hso, Option.bind_some, W_id (by omega) (by omega)]
  refine hs _ ⟨by rw [z1z]; exact ho1, fun w hw => ?_⟩
  rw [z0q _ _ _ _ (by omega) (by omega) (by omega)]
  by_cases e : w = i
  ·subst e; rw [if_pos rfl, if_pos (by omega)]
  ·rw [if_neg (by omega), ho2 w hw]
   by_cases h2 : w < i
   ·rw [if_pos h2, if_pos (by omega)]
   ·rw [if_neg h2, if_neg (by omega)]
 ·intro n o ⟨ho1, ho2⟩
  have := hfin o ho1 fun w hw => by rw [ho2 w hw, if_pos hw]
  subst this
  rw [z0x, if_neg (by simp)]
theorem z87 (hx : zl3 x) (hφ : 5000 < φ) : zk φ φ x.edges (x.edges.length : Int) 0 a0 b0 x x (List.replicate ((x.places.length : Int)).toNat (default : List Int)) [] = (ck (z4o (x.places.length : Int) 8) (ck (z4o (((List.replicate ((x.places.length : Int) : Int).toNat (default : Int)).length : Int)) 1) (zw φ φ a0 (((List.replicate ((x.places.length : Int) : Int).toNat (default : Int)).length : Int)) 0 b0 x (List.replicate ((x.places.length : Int) : Int).toNat (default : Int)) ((List.replicate (((List.replicate ((x.places.length : Int) : Int).toNat (default : Int)).length : Int) : Int).toNat (default : Bool))) (z41 x) (zac x)))) := by
 have hE := hx.edges
 have h0 : (List.replicate ((x.places.length : Int)).toNat (default : List Int), ([] : Ln)) = zit x.edges x.places.length 0 := by simp [zit]
 refine zp (fun n i (s : List (List Int) × Ln) => zk φ n x.edges (x.edges.length : Int) i a0 b0 x x s.1 s.2) x.edges.length (fun i s => s = zit x.edges x.places.length i) (fun o => o = (ck (z4o (x.places.length : Int) 8) (ck (z4o (((List.replicate ((x.places.length : Int) : Int).toNat (default : Int)).length : Int)) 1) (zw φ φ a0 (((List.replicate ((x.places.length : Int) : Int).toNat (default : Int)).length : Int)) 0 b0 x (List.replicate ((x.places.length : Int) : Int).toNat (default : Int)) ((List.replicate (((List.replicate ((x.places.length : Int) : Int).toNat (default : Int)).length : Int) : Int).toNat (default : Bool))) (z41 x) (zac x))))) ?_ ?_ φ (List.replicate ((x.places.length : Int)).toNat (default : List Int), []) h0 (by omega)
 ·intro n i s hi hs hk
  subst hs
  rw [zfa φ x a0 b0 hx n hi (zf3 hx i (by omega))]
  exact hk _ rfl
 ·intro n s hs
  subst hs
  rw [zk, if_neg (by simp)]
  exact zfb φ x a0 b0 hx hφ (zac x)
end zu
section network_Route
variable (φ : Nat) (K : List Edge -> Int -> Int -> Int -> Int -> zg -> zg -> List (List Int) -> Ln -> Option ((List Int) × Int × Unit)) (x : zg) (a0 b0 : Int)
end network_Route
section network_Route
variable (φ : Nat) (x : zg) (a0 b0 : Int)
end network_Route
section network_Shares
end network_Shares
section network_Shares
end network_Shares
end Px
end
section
namespace Px
open Go
set_option linter.unusedVariables false
set_option linter.unusedSimpArgs false
section zu
variable (φ : Nat) (x : zg) (a0 b0 : Int)
theorem z85 (hx : zl3 x) (hφ : 800000 < φ) (hs : 0 <= a0) (hs' : a0 < (x.places.length : Int)) : ∃ t, DF x.places.length (z41 x) (wtN x) a0 t /\
  zw φ φ a0 (((List.replicate ((x.places.length : Int) : Int).toNat (default : Int)).length : Int)) 0 b0 x (List.replicate ((x.places.length : Int) : Int).toNat (default : Int)) ((List.replicate (((List.replicate ((x.places.length : Int) : Int).toNat (default : Int)).length : Int) : Int).toNat (default : Bool)))  (z41 x) (zac x) = (ck ((0 : Int) <= b0 /\ b0 < (t.length : Int)) (if (decide (((gt t b0) : Int) < 0)) = true then (some (0, 80, ())) else (some ((gt t b0), 0, ())))) := by
 have hG := grN hx
 have hP := hx.places
 have hrep : (List.replicate ((x.places.length : Int) : Int).toNat (default : Int)).length = x.places.length := by simp
 rw [hrep]
 have e1 : ((x.places.length : Int)).toNat = x.places.length := by simp
 rw [e1]
 -- the search
 have search : ∀ t : List Int, t.length = x.places.length -> (∀ i : Int, 0 <= i -> i < (x.places.length : Int) -> gt t i = if i = a0 then 0 else -1) ->
   ∃ t', DF x.places.length (z41 x) (wtN x) a0 t' /\ zo φ φ b0 x t (List.replicate x.places.length (default : Bool))  (z41 x) (zac x) = (ck ((0 : Int) <= b0 /\ b0 < (t'.length : Int)) (if (decide (((gt t' b0) : Int) < 0)) = true then (some (0, 80, ())) else (some ((gt t' b0), 0, ())))) := by
  intro t ht hall
  refine y6q hG hs hs' (fun n t d => zo φ n b0 x t d  (z41 x) (zac x)) (fun t' => (ck ((0 : Int) <= b0 /\ b0 < (t'.length : Int)) (if (decide (((gt t' b0) : Int) < 0)) = true then (some (0, 80, ())) else (some ((gt t' b0), 0, ()))))) φ ?_ φ 0 t _ (y3o hs hs' t ht hall) (by omega)
  intro n k t d hk hD
  obtain ⟨p, hp1, hp2⟩ := yd3 hP (fun m p i => z0j φ (zo φ n) m p (x.places.length : Int) i b0 x t d  (z41 x) (zac x))
   (fun p => (if (decide ((p : Int) < 0)) = true then (ck ((0 : Int) <= b0 /\ b0 < (t.length : Int)) (if (decide (((gt t b0) : Int) < 0)) = true then (some (0, 80, ())) else (some ((gt t b0), 0, ())))) else (ck ((0 : Int) <= p /\ p < (d.length : Int)) (ck ((0 : Int) <= p /\ p < ((z41 x).length : Int)) (ck ((0 : Int) <= p /\ p < ((z41 x).length : Int)) (ck ((p : Int) = p) (z0l φ (zo φ n) φ p ((gt (z41 x) p).length : Int) 0 b0 x t (zz d p true) (gt (z41 x) p)  (z41 x) p (zac x))))))))
   t d hD.lt hD.ld (fun m p i => by rw [z0j]) φ (by omega)
  have hM : zo φ (n + 1) b0 x t d  (z41 x) (zac x) = z0j φ (zo φ n) φ (-1) (x.places.length : Int) 0 b0 x t d  (z41 x) (zac x) := by
   rw [zo, hD.lt]
  simp only [] at hp1
  simp only [hM]
  rw [hp1]
  rcases hp2 with ⟨rfl, hall⟩ | ⟨p0, p1, p2, p3, p4⟩
  ·left
   refine ⟨t, ydq hG hD hall, ?_⟩
   rw [if_pos (by decide)]
  ·right
   rw [if_neg (by simp; omega), z8 ⟨p0, by rw [hD.ld]; exact p1⟩, z8 ⟨p0, by rw [hG.len]; exact p1⟩, z8 ⟨p0, by rw [hG.len]; exact p1⟩, z8 trivial]
   obtain ⟨t', h1, h2⟩ := ydj hG p0 p1 hk hD p2 (fun m i t => z0l φ (zo φ n) m p ((gt (z41 x) p).length : Int) i b0 x t (zz d p true) (gt (z41 x) p)  (z41 x) p (zac x))
    (fun t => zo φ n b0 x t (zz d p true)  (zz (z41 x) p (gt (z41 x) p)) (zac x)) (gt (z41 x) p) rfl x.edges.length (fun q => (lget (zac x) p q).getD default) (fun i => (gt x.edges i).minutes)
    (fun q hq => by
     obtain ⟨i, hi, i0, i1, _⟩ := zon hx p0 p1 hq
     rw [hi]
     exact ⟨i0, i1, by unfold wtN; rw [hi]⟩) (fun m i t => by rw [z0l]) φ (by have := hG.size p p0 p1; omega)
   refine ⟨t', p, p0, p1, y62 hG p0 p1 hD hs hs' p2 p3 p4 h2, ?_⟩
   rw [zxu _ p0 (by rw [hG.len]; exact p1)] at h1
   exact h1
 -- all times are unknown at first
 refine zp (fun n i t => zw φ n a0 (x.places.length : Int) i b0 x t (List.replicate x.places.length (default : Bool))  (z41 x) (zac x)) x.places.length (fun i t => t.length = x.places.length /\ ∀ j : Int, 0 <= j -> j < (i : Int) -> gt t j = -1) (fun o => ∃ t, DF x.places.length (z41 x) (wtN x) a0 t /\ o = (ck ((0 : Int) <= b0 /\ b0 < (t.length : Int)) (if (decide (((gt t b0) : Int) < 0)) = true then (some (0, 80, ())) else (some ((gt t b0), 0, ()))))) ?_ ?_ φ (List.replicate x.places.length (default : Int)) ⟨by simp, fun j h0 h1 => by omega⟩ (by omega)
 ·intro n i t hi ⟨h1, h2⟩ hs
  rw [zw, if_pos (by simp; omega), z8 ⟨by omega, by omega⟩, W_id (by omega) (by omega)]
  refine hs _ ⟨by rw [z1z]; exact h1, fun j j0 j1 => ?_⟩
  rw [z0q _ _ _ _ (by omega) (by omega) j0]
  by_cases e : j = (i : Int)
  ·rw [if_pos e]
  ·rw [if_neg e]; exact h2 j j0 (by omega)
 ·intro n t ⟨h1, h2⟩
  rw [zw, if_neg (by simp), z8 ⟨hs, by omega⟩]
  obtain ⟨t', h3, h4⟩ := search (zz t a0 0) (by rw [z1z]; exact h1) (fun i i0 i1 => by
   rw [z0q _ _ _ _ hs (by omega) i0]
   split
   ·rfl
   ·exact h2 i i0 i1)
  exact ⟨t', h3, h4⟩
end zu
section network_Route
variable (φ : Nat) (x : zg) (a0 b0 : Int)
end network_Route
theorem zgj {n b : Nat} (h : n <= 100000000) (hb : b <= 1000) : fits n b := by
 unfold fits
 have : n * b <= 100000000 * 1000 := Nat.mul_le_mul h hb
 omega
theorem zn3 (φ : Nat) (hφ : 800000 < φ) (x : zg) (a b : Int) : ∃ t e, zu φ x a b = some (t, e, ()) /\ 0 <= t /\ t <= 51200000 := by
 unfold zu
 rw [z8s _ (by omega), Option.bind_some]
 by_cases hn : z9k x = 0
 case neg =>
  rw [if_pos (by simpa using hn), if_pos (by simpa using hn)]
  exact ⟨0, _, rfl, by omega, by omega⟩
 have hx := y8o hn
 have hP := hx.places
 rw [if_neg (by simp [hn])]
 obtain ⟨m, rfl⟩ : ∃ m, φ = m + 3 := ⟨φ - 3, by omega⟩
 have g0 : gt [a, b] 0 = a := rfl
 have g1 : gt [a, b] 1 = b := rfl
 have L : ((([a, b] : List Int).length : Nat) : Int) = 2 := rfl
 have step : ∀ n i, z09 (m + 3) (n + 1) 2 i a b x [a, b] x [] = (if (decide ((i : Int) < 2)) = true then (ck ((0 : Int) <= i /\ i < (2 : Int)) (if ((decide (((gt [a, b] i) : Int) < 0)) || (decide (((x.places.length : Int) : Int) <= (gt [a, b] i)))) = true then (some (0, 1, ())) else (z09 (m + 3) n 2 (W (i + 1)) a b x [a, b] x []))) else (ck (z4o (x.places.length : Int) 24) (zk (m + 3) (m + 3) x.edges (x.edges.length : Int) 0 a b x x (List.replicate ((x.places.length : Int) : Int).toNat (default : (List Int))) ([] : List ((Nat -> Int) × Int))))) := fun n i => by rw [z09]; rfl
 rw [L, show m + 3 = (m + 2) + 1 from rfl, step, if_pos (by decide), z8 (by decide), g0]
 by_cases ha : 0 <= a /\ a < (x.places.length : Int)
 case neg =>
  rw [if_pos (by simp; omega)]
  exact ⟨0, 1, rfl, by omega, by omega⟩
 rw [if_neg (by simp; omega), show W (0 + 1) = 1 by rfl, show m + 2 = (m + 1) + 1 from rfl, step, if_pos (by decide), z8 (by decide), g1]
 by_cases hb : 0 <= b /\ b < (x.places.length : Int)
 case neg =>
  rw [if_pos (by simp; omega)]
  exact ⟨0, 1, rfl, by omega, by omega⟩
 rw [if_neg (by simp; omega), show W (1 + 1) = 2 by rfl, step, if_neg (by decide), z8 (mk_t _ _ (by omega) (by omega) (by omega)), z87 (m + 3) x a b hx (by omega), z8 (mk_t _ _ (by omega) (by omega) (by omega)), z8 (mk_t _ _ (by omega) (by simp; omega) (by omega))]
 obtain ⟨t, h1, h2⟩ := z85 (m + 3) x a b hx (by omega) ha.1 ha.2
 rw [h2, z8 ⟨hb.1, by rw [h1.lt]; exact hb.2⟩]
 rcases h1.bd b hb.1 hb.2 with h3 | ⟨h3, h4⟩
 ·rw [if_pos (by simp; omega)]
  exact ⟨0, 80, rfl, by omega, by omega⟩
 ·rw [if_neg (by simp; omega)]
  exact ⟨_, 0, rfl, h3, h4⟩
end Px
end
section
namespace Px
set_option linter.unusedVariables false
namespace BF
section
variable {β : Type} (si sj : β -> Nat) (sw : β -> Int)
abbrev X := Nat -> Option Int
def ltO (a : Int) : Option Int -> Bool
 | none => true
 | some b => decide (a < b)
def imp (x : X) (b : β) : Bool := match x (si b) with
 | none => false
 | some a => ltO (a + sw b) (x (sj b))
def rlx (x : X) (b : β) : X := match x (si b) with
 | none => x
 | some a => if ltO (a + sw b) (x (sj b)) = true then fun v => if v = sj b then some (a + sw b) else x v else x
def rnd (L : List β) (x : X) : X := L.foldl (rlx si sj sw) x
def rnds (L : List β) (x : X) : Nat -> X
 | 0 => x
 | n + 1 => rnd si sj sw L (rnds L x n)
inductive Wk (x0 : X) (L : List β) : Nat -> Nat -> Int -> Prop where
 | nil {v : Nat} {c : Int} : x0 v = some c -> Wk x0 L 0 v c
 | step {m : Nat} {c : Int} {b : β} : Wk x0 L m (si b) c -> b ∈ L -> Wk x0 L (m + 1) (sj b) (c + sw b)
def le (o : Option Int) (c : Int) : Prop := ∃ a, o = some a /\ a <= c
variable {si sj sw}
theorem rlx_not {x : X} {b : β} (h : imp si sj sw x b = false) : rlx si sj sw x b = x := by
 unfold imp at h; unfold rlx
 cases hx : x (si b) with
 | none => rfl
 | some a => rw [hx] at h; simp only at h ⊢; rw [if_neg (by rw [h]; simp)]
theorem rlx_imp {x : X} {b : β} (h : imp si sj sw x b = true) : ∃ a, x (si b) = some a /\ ltO (a + sw b) (x (sj b)) = true /\ rlx si sj sw x b = fun v => if v = sj b then some (a + sw b) else x v := by
 unfold imp at h; unfold rlx
 cases hx : x (si b) with
 | none => rw [hx] at h; cases h
 | some a => rw [hx] at h; simp only at h ⊢; exact ⟨a, rfl, h, by rw [if_pos h]⟩
theorem rlx_mono {x : X} {b : β} {v : Nat} {c : Int} (h : le (x v) c) : le (rlx si sj sw x b v) c := by
 cases hi : imp si sj sw x b with
 | false => rw [rlx_not hi]; exact h
 | true =>
  obtain ⟨a, ha, hl, e⟩ := rlx_imp hi
  rw [e]
  simp only
  split
  ·rename_i hv; subst hv
   obtain ⟨d, hd, hc⟩ := h
   rw [hd] at hl
   simp only [ltO, decide_eq_true_eq] at hl
   exact ⟨_, rfl, by omega⟩
  ·exact h
theorem rlx_new {x : X} {b : β} {c : Int} (h : le (x (si b)) c) : le (rlx si sj sw x b (sj b)) (c + sw b) := by
 obtain ⟨a, ha, hc⟩ := h
 cases hi : imp si sj sw x b with
 | false =>
  rw [rlx_not hi]
  unfold imp at hi
  rw [ha] at hi
  simp only at hi
  cases hx : x (sj b) with
  | none => rw [hx] at hi; cases hi
  | some d => rw [hx] at hi; simp only [ltO, decide_eq_false_iff_not] at hi; exact ⟨d, rfl, by omega⟩
 | true =>
  obtain ⟨a', ha', hl, e⟩ := rlx_imp hi
  rw [ha] at ha'; cases ha'
  rw [e]
  exact ⟨_, if_pos rfl, by omega⟩
theorem rnd_mono {v : Nat} {c : Int} : ∀ (L : List β) (x : X), le (x v) c -> le (rnd si sj sw L x v) c
 | [], x, h => h
 | b :: L, x, h => rnd_mono L _ (rlx_mono h)
theorem rnd_new {c : Int} : ∀ (L : List β) (x : X) (b : β), b ∈ L -> le (x (si b)) c -> le (rnd si sj sw L x (sj b)) (c + sw b)
 | b' :: L, x, b, hb, h => by
  rcases List.mem_cons.1 hb with rfl | hb
  ·exact rnd_mono L _ (rlx_new h)
  ·exact rnd_new L _ b hb (rlx_mono h)
theorem rnds_mono (L : List β) {x : X} {v : Nat} {c : Int} (h : le (x v) c) : ∀ n, le (rnds si sj sw L x n v) c
 | 0 => h
 | n + 1 => rnd_mono L _ (rnds_mono L h n)
theorem rnds_low {L : List β} {x0 : X} : ∀ (k m v : Nat) (c : Int), Wk si sj sw x0 L m v c -> m <= k -> le (rnds si sj sw L x0 k v) c
 | k, 0, v, c, h, hm => by cases h with | nil h => exact rnds_mono L ⟨c, h, Int.le_refl _⟩ k
 | k + 1, m + 1, v, c, h, hm => by
  cases h with
  | step h hb => exact rnd_new L _ _ hb (rnds_low k m _ _ h (by omega))
def Inv (si sj : β -> Nat) (sw : β -> Int) (x0 : X) (L : List β) (x : X) : Prop := ∀ v a, x v = some a -> ∃ m, Wk si sj sw x0 L m v a
theorem Inv.rlx {x0 x : X} {L : List β} {b : β} (h : Inv si sj sw x0 L x) (hb : b ∈ L) : Inv si sj sw x0 L (rlx si sj sw x b) := by
 cases hi : imp si sj sw x b with
 | false => rw [rlx_not hi]; exact h
 | true =>
  obtain ⟨a, ha, hl, e⟩ := rlx_imp hi
  intro v d hv
  rw [e] at hv
  simp only at hv
  split at hv
  ·rename_i hj; subst hj
   cases hv
   obtain ⟨m, hm⟩ := h _ _ ha
   exact ⟨_, .step hm hb⟩
  ·exact h v d hv
theorem Inv.rnd {x0 : X} {L : List β} : ∀ (M : List β) (x : X), (∀ b ∈ M, b ∈ L) -> Inv si sj sw x0 L x -> Inv si sj sw x0 L (rnd si sj sw M x)
 | [], x, _, h => h
 | b :: M, x, hM, h => Inv.rnd M _ (fun b hb => hM b (List.mem_cons_of_mem _ hb)) (h.rlx (hM b (List.mem_cons_self ..)))
theorem Inv.rnds {x0 : X} {L : List β} : ∀ n, Inv si sj sw x0 L (rnds si sj sw L x0 n)
 | 0 => fun v a h => ⟨0, .nil h⟩
 | n + 1 => Inv.rnd L _ (fun _ h => h) (Inv.rnds n)
theorem least {Q : Nat -> Prop} : ∀ n, Q n -> ∃ m, Q m /\ ∀ k, Q k -> m <= k := by
 intro n
 induction n using Nat.strongRecOn with
 | _ n ih =>
  intro h
  by_cases hk : ∃ k, k < n /\ Q k
  ·obtain ⟨k, hk, hq⟩ := hk; exact ih k hk hq
  ·exact ⟨n, h, fun k hq => Nat.le_of_not_lt fun hl => hk ⟨k, hl, hq⟩⟩
structure Feas (si sj : β -> Nat) (sw : β -> Int) (x0 : X) (L : List β) (n : Nat) : Prop where
 ex : ∃ (p : Nat -> Int) (C : Int), (∀ b ∈ L, p (sj b) <= p (si b) + sw b) /\ ∀ v c, x0 v = some c -> p v - c <= C
 j : ∀ b ∈ L, sj b < n
 z : ∀ v c, x0 v = some c -> v < n
theorem Wk.lt {x0 : X} {L : List β} {n : Nat} (F : Feas si sj sw x0 L n) {m v : Nat} {c : Int} (h : Wk si sj sw x0 L m v c) : v < n := by
 cases h with
 | nil h => exact F.z _ _ h
 | step h hb => exact F.j _ hb
theorem Wk.low {x0 : X} {L : List β} {p : Nat -> Int} {C : Int} (h1 : ∀ b ∈ L, p (sj b) <= p (si b) + sw b) (h2 : ∀ v c, x0 v = some c -> p v - c <= C) : ∀ {m v : Nat} {c : Int}, Wk si sj sw x0 L m v c -> p v - c <= C
 | 0, _, _, .nil h => h2 _ _ h
 | _ + 1, _, _, .step h hb => by have := Wk.low h1 h2 h; have := h1 _ hb; omega
structure Mn (si sj : β -> Nat) (sw : β -> Int) (x0 : X) (L : List β) (v m : Nat) (c : Int) : Prop where
 w : Wk si sj sw x0 L m v c
 lo : ∀ m' c', Wk si sj sw x0 L m' v c' -> c <= c'
 sh : ∀ m', Wk si sj sw x0 L m' v c -> m <= m'
theorem Mn.ex {x0 : X} {L : List β} {n : Nat} (F : Feas si sj sw x0 L n) {m v : Nat} {c : Int} (h : Wk si sj sw x0 L m v c) : ∃ m c, Mn si sj sw x0 L v m c := by
 obtain ⟨p, C, h1, h2⟩ := F.ex
 obtain ⟨k, ⟨m1, c1, hk, hw⟩, hl⟩ := least (Q := fun k => ∃ m c, (C - (p v - c)).toNat = k /\ Wk si sj sw x0 L m v c) _ ⟨m, c, rfl, h⟩
 obtain ⟨m2, hm, hm2⟩ := least (Q := fun m => Wk si sj sw x0 L m v c1) m1 hw
 refine ⟨m2, c1, hm, fun m' c' h' => ?_, hm2⟩
 have := hl _ ⟨m', c', rfl, h'⟩
 have := Wk.low h1 h2 hw
 have := Wk.low h1 h2 h'
 omega
theorem Mn.pred {x0 : X} {L : List β} {v m : Nat} {c : Int} (h : Mn si sj sw x0 L v (m + 1) c) : ∃ u d, Mn si sj sw x0 L u m d := by
 obtain ⟨w, hc, hm⟩ := h
 cases w with
 | @step _ d b hw hb =>
  refine ⟨si b, d, hw, fun m' c' h' => ?_, fun m' h' => ?_⟩
  ·have := hc _ _ (.step h' hb); omega
  ·have := hm _ (.step h' hb); omega
theorem Mn.all {x0 : X} {L : List β} : ∀ {m v : Nat} {c : Int}, Mn si sj sw x0 L v m c -> ∀ k, k <= m -> ∃ u d, Mn si sj sw x0 L u k d
 | 0, v, c, h, k, hk => by
  have : k = 0 := by omega
  subst this
  exact ⟨v, c, h⟩
 | m + 1, v, c, h, k, hk => by
  by_cases e : k = m + 1
  ·subst e; exact ⟨v, c, h⟩
  ·obtain ⟨u, d, h'⟩ := h.pred; exact Mn.all h' k (by omega)
theorem Mn.uniq {x0 : X} {L : List β} {v m m' : Nat} {c c' : Int} (h : Mn si sj sw x0 L v m c) (h' : Mn si sj sw x0 L v m' c') : c = c' /\ m = m' := by
 have e : c = c' := Int.le_antisymm (h.lo _ _ h'.w) (h'.lo _ _ h.w)
 subst e
 exact ⟨rfl, Nat.le_antisymm (h.sh _ h'.w) (h'.sh _ h.w)⟩
theorem holes : ∀ (n M : Nat) (R : Nat -> Nat -> Prop), (∀ k k' u, R k u -> R k' u -> k = k') -> (∀ k, k < M -> ∃ u, u < n /\ R k u) -> M <= n
 | 0, M, R, _, h => by
  cases M with
  | zero => exact Nat.le_refl _
  | succ M => obtain ⟨u, hu, _⟩ := h 0 (by omega); omega
 | n + 1, M, R, hR, h => by
  by_cases hk : ∃ k, k < M /\ R k n
  ·obtain ⟨k0, hk0, hr⟩ := hk
   have := holes n (M - 1) (fun k u => R (if k < k0 then k else k + 1) u) (fun k k' u h1 h2 => by
    have := hR _ _ _ h1 h2
    split at this <;> split at this <;> omega) fun k hk => by
    obtain ⟨u, hu, hru⟩ := h (if k < k0 then k else k + 1) (by split <;> omega)
    refine ⟨u, ?_, hru⟩
    by_cases e : u = n
    ·subst e
     have := hR _ _ _ hru hr
     split at this <;> omega
    ·omega
   omega
  ·have := holes n M R hR fun k hk' => by
    obtain ⟨u, hu, hru⟩ := h k hk'
    exact ⟨u, by
     by_cases e : u = n
     ·subst e; exact (hk ⟨k, hk', hru⟩).elim
     ·omega, hru⟩
   omega
theorem Mn.short {x0 : X} {L : List β} {n : Nat} (F : Feas si sj sw x0 L n) {m v : Nat} {c : Int} (h : Mn si sj sw x0 L v m c) : m < n :=
 holes n (m + 1) (fun k u => ∃ d, Mn si sj sw x0 L u k d) (fun k k' u ⟨_, a⟩ ⟨_, b⟩ => (a.uniq b).2) fun k hk => by
  obtain ⟨u, d, hu⟩ := h.all k (by omega)
  exact ⟨u, hu.w.lt F, d, hu⟩
theorem done {x0 : X} {L : List β} {n : Nat} (F : Feas si sj sw x0 L n) {k : Nat} (hk : n <= k + 1) : ∀ b ∈ L, imp si sj sw (rnds si sj sw L x0 k) b = false := by
 intro b hb
 unfold imp
 cases hx : rnds si sj sw L x0 k (si b) with
 | none => rfl
 | some a =>
  obtain ⟨m, hm⟩ := Inv.rnds k _ _ hx
  obtain ⟨m', d, hd⟩ := Mn.ex F (.step hm hb)
  obtain ⟨e, he, hed⟩ := rnds_low k m' _ _ hd.w (by have := hd.short F; omega)
  have := hd.lo _ _ (.step hm hb)
  rw [he]
  simp only [ltO, decide_eq_false_iff_not]
  omega
def Fix (si sj : β -> Nat) (sw : β -> Int) (L : List β) (x : X) : Prop := ∀ b ∈ L, imp si sj sw x b = false
theorem Fix.le {L : List β} {x : X} (h : Fix si sj sw L x) {b : β} (hb : b ∈ L) {a : Int} (ha : x (si b) = some a) : ∃ d, x (sj b) = some d /\ d <= a + sw b := by
 have := h b hb
 unfold imp at this
 rw [ha] at this
 simp only at this
 cases hx : x (sj b) with
 | none => rw [hx] at this; cases this
 | some d => rw [hx] at this; simp only [ltO, decide_eq_false_iff_not] at this; exact ⟨d, rfl, by omega⟩
end
end BF
end Px
end
section
namespace Px
open Go
set_option linter.unusedVariables false
set_option linter.unusedSimpArgs false
def y6i (e : Edge) (a b : Int) : Prop := (e.a = a /\ e.b = b) \/ (e.a = b /\ e.b = a)
instance (e : Edge) (a b : Int) : Decidable (y6i e a b) := inferInstanceAs (Decidable (_ \/ _))
def ryl (t : List Int) (a b m : Int) : List Int := if 0 <= gt t a /\ (gt t b < 0 \/ gt t a + m < gt t b) then zz t b (gt t a + m) else t
def rst (t : List Int) (e : Edge) : List Int := ryl (ryl t e.a e.b e.minutes) e.b e.a e.minutes
end Px
end
section
namespace Px
open Go
set_option linter.unusedVariables false
set_option linter.unusedSimpArgs false
def chF (t : List Int) (e : Edge) : Bool := (gt (rst t e) e.a != gt t e.a) || (gt (rst t e) e.b != gt t e.b)
def rnT (es : List Edge) (t : List Int) : Nat -> List Int
 | 0 => t
 | m + 1 => rst (rnT es t m) (gt es (m : Int))
def fl (es : List Edge) (t : List Int) : Nat -> Bool
 | 0 => false
 | m + 1 => fl es t m || chF (rnT es t m) (gt es (m : Int))
end Px
end
section
namespace Px
open Go
set_option linter.unusedVariables false
set_option linter.unusedSimpArgs false
theorem zwy (φ : Nat) (hφ : 800000 < φ) {x : zg} (hn : z9k x = 0) {a b : Int} (ha : 0 <= a /\ a < (x.places.length : Int)) (hb : 0 <= b /\ b < (x.places.length : Int)) :
  ∃ t, DF x.places.length (z41 x) (wtN x) a t /\ zu φ x a b = some (if gt t b < 0 then (0, 80, ()) else (gt t b, 0, ())) := by
 unfold zu
 rw [z8s _ (by omega), Option.bind_some]
 have hx := y8o hn
 have hP := hx.places
 rw [if_neg (by simp [hn])]
 obtain ⟨m, rfl⟩ : ∃ m, φ = m + 3 := ⟨φ - 3, by omega⟩
 have g0 : gt [a, b] 0 = a := rfl
 have g1 : gt [a, b] 1 = b := rfl
 have L : ((([a, b] : List Int).length : Nat) : Int) = 2 := rfl
 rw [L, show m + 3 = (m + 2) + 1 from rfl, z09, if_pos (by decide), z8 (by rw [L]; decide), g0]
 rw [if_neg (by simp; omega), show W (0 + 1) = 1 by rfl, show m + 2 = (m + 1) + 1 from rfl, z09, if_pos (by decide), z8 (by rw [L]; decide), g1]
 rw [if_neg (by simp; omega), show W (1 + 1) = 2 by rfl, z09, if_neg (by decide), z8 (mk_t _ _ (by omega) (by omega) (by omega))]
 have hbuild := z87 (m + 3) x a b hx (by omega)
 obtain ⟨t, h1, h2⟩ := z85 (m + 3) x a b hx (by omega) ha.1 ha.2
 refine ⟨t, h1, ?_⟩
 refine hbuild.trans ?_
 rw [z8 (mk_t _ _ (by omega) (by omega) (by omega)), z8 (mk_t _ _ (by omega) (by simp; omega) (by omega)), h2, z8 ⟨hb.1, by rw [h1.lt]; exact hb.2⟩]
 by_cases h3 : gt t b < 0
 ·rw [if_pos (by simpa using h3), if_pos h3]
 ·rw [if_neg (by simpa using h3), if_neg h3]
  try rfl
end Px
end
section
namespace Px
open Go
set_option linter.unusedVariables false
set_option linter.unusedSimpArgs false
theorem y7r {P : Nat} {near : List (List Int)} {wt : Int -> Int -> Int} (hG : Gr P near wt) {s b : Int} {t u : List Int} (hT : DF P near wt s t) (hU : DF P near wt b u) (hb : 0 <= gt t b) :
  ∀ (n : Nat) (c : Int), 0 <= c -> c < (P : Int) -> 0 <= gt u c -> (gt u c).toNat = n -> 0 <= gt t c /\ gt t c <= gt t b + gt u c := by
 intro n
 induction n using Nat.strongRecOn with
 | _ n ih =>
  intro c c0 c1 hc hn
  by_cases e : c = b
  ·subst e; rw [hU.src]; omega
  ·obtain ⟨q, q0, q1, q2, q3, q4⟩ := hU.pre c c0 c1 e hc
   obtain ⟨s1, s2⟩ := hG.sym c q c0 c1 q2
   have w := (hG.wt q c q0 q1 s1).1
   obtain ⟨i1, i2⟩ := ih (gt u q).toNat (by omega) q q0 q1 q3 rfl
   obtain ⟨n1, n2⟩ := hT.nbr q c q0 q1 i1 s1
   omega
theorem y95 {P : Nat} {near : List (List Int)} {wt : Int -> Int -> Int} (hG : Gr P near wt) {s : Int} {t u : List Int} (hT : DF P near wt s t) (hU : DF P near wt s u) {c : Int} (c0 : 0 <= c) (c1 : c < (P : Int)) : gt t c = gt u c := by
 have t0 := hT.src
 have u0 := hU.src
 have key : ∀ {t u : List Int}, DF P near wt s t -> DF P near wt s u -> 0 <= gt u c -> 0 <= gt t c /\ gt t c <= gt u c := fun {t u} hT hU h => by
  have := y7r hG hT hU (by rw [hT.src]; omega) _ c c0 c1 h rfl
  rw [hT.src] at this
  omega
 rcases hT.bd c c0 c1 with h1 | h1
 ·rcases hU.bd c c0 c1 with h2 | h2
  ·omega
  ·have := key hT hU h2.1; omega
 ·have a := key hU hT h1.1
  have b := key hT hU a.1
  omega
def Dst (φ : Nat) (x : zg) (a b : Int) : Option Int := match zu φ x a b with
 | some (t, e, _) => if e = 0 then some t else none
 | none => none
def okPl (x : zg) (a : Int) : Prop := 0 <= a /\ a < (x.places.length : Int)
section
variable {φ : Nat} (hφ : 800000 < φ) {x : zg} (hn : z9k x = 0)
include hφ hn
theorem y07 {a b : Int} (ha : okPl x a) (hb : okPl x b) : ∃ t, DF x.places.length (z41 x) (wtN x) a t /\ Dst φ x a b = if gt t b < 0 then none else some (gt t b) := by
 obtain ⟨t, h1, h2⟩ := zwy φ hφ hn ha hb
 refine ⟨t, h1, ?_⟩
 unfold Dst
 rw [h2]
 by_cases q : gt t b < 0
 ·rw [if_pos q, if_pos q]; rfl
 ·rw [if_neg q, if_neg q]; rfl
theorem y9j {a b c p q : Int} (ha : okPl x a) (hb : okPl x b) (hc : okPl x c) (h1 : Dst φ x a b = some p) (h2 : Dst φ x b c = some q) : ∃ r, Dst φ x a c = some r /\ r <= p + q := by
 obtain ⟨t, d1, e1⟩ := y07 hφ hn ha hb
 obtain ⟨t', d1', e3⟩ := y07 hφ hn ha hc
 obtain ⟨u, d2, e2⟩ := y07 hφ hn hb hc
 have hG := grN (y8o hn)
 rw [e1] at h1
 rw [e2] at h2
 split at h1
 ·cases h1
 split at h2
 ·cases h2
 cases h1; cases h2
 have := y7r hG d1 d2 (by omega) _ c hc.1 hc.2 (by omega) rfl
 have e := y95 hG d1' d1 hc.1 hc.2
 rw [e3, e, if_neg (by omega)]
 exact ⟨_, rfl, this.2⟩
end
end Px
end
