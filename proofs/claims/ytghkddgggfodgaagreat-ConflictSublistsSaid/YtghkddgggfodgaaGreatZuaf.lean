/- A part of the proof of conflictSublists_holds. Conditions: none. -/
import Derived.Test.YtghkddgggfodgaaGreatZuae
import Derived.Test.YtghkddgggfodgaaGreatProg
import Derived.Ground.SlsfProg
import Derived.Ground.NamesProg
import Derived.KernelRfl
section
namespace Go.Proofs
open Go.Shelf
def Tryz.sortEv_ren : Go.Shelf.Ren := ⟨fun | 6 => 68 | 15 => 93 | 14 => 92 | 28 => 125 | 29 => 114 | 20 => 117 | 21 => 118 | 22 => 119 | 23 => 120 | 24 => 121 | 25 => 122 | 26 => 123 | 27 => 124 | 46 => 149 | 47 => 150 | 48 => 151 | 49 => 152 | 50 => 153 | 57 => 166 | n => n, fun | 22 => 93 | 24 => 97 | 25 => 147 | 3 => 3 | 39 => 182 | 0 => 0 | 53 => 209 | 55 => 118 | 4 => 4 | 46 => 203 | 45 => 202 | 50 => 100 | 5 => 5 | 9 => 9 | 66 => 230 | 70 => 226 | 76 => 242 | 77 => 243 | n => n, fun | n => n⟩
theorem Tryz.sortEv : Go.Proofs.SlLaysF0.n6 Tryz.prog Tryz.sortEv_ren := {
 mixed := by kernel_rfl
 f6 := ⟨Tryz.f68.name, by decide, Tryz.func68.trans (congrArg some (by kernel_rfl))⟩
 f14 := ⟨Tryz.f92.name, by decide, Tryz.func92.trans (congrArg some (by kernel_rfl))⟩
 f15 := Tryz.func93.trans (congrArg some (by kernel_rfl))
 f20 := ⟨Tryz.f117.name, by decide, Tryz.func117.trans (congrArg some (by kernel_rfl))⟩
 f21 := ⟨Tryz.f118.name, by decide, Tryz.func118.trans (congrArg some (by kernel_rfl))⟩
 f22 := ⟨Tryz.f119.name, by decide, Tryz.func119.trans (congrArg some (by kernel_rfl))⟩
 f23 := ⟨Tryz.f120.name, by decide, Tryz.func120.trans (congrArg some (by kernel_rfl))⟩
 f24 := ⟨Tryz.f121.name, by decide, Tryz.func121.trans (congrArg some (by kernel_rfl))⟩
 f25 := ⟨Tryz.f122.name, by decide, Tryz.func122.trans (congrArg some (by kernel_rfl))⟩
 f26 := ⟨Tryz.f123.name, by decide, Tryz.func123.trans (congrArg some (by kernel_rfl))⟩
 f27 := ⟨Tryz.f124.name, by decide, Tryz.func124.trans (congrArg some (by kernel_rfl))⟩
 f28 := Tryz.func125.trans (congrArg some (by kernel_rfl))
 f29 := Tryz.func114.trans (congrArg some (by kernel_rfl))
 f46 := ⟨Tryz.f149.name, by decide, Tryz.func149.trans (congrArg some (by kernel_rfl))⟩
 f47 := Tryz.func150.trans (congrArg some (by kernel_rfl))
 f48 := Tryz.func151.trans (congrArg some (by kernel_rfl))
 f49 := ⟨Tryz.f152.name, by decide, Tryz.func152.trans (congrArg some (by kernel_rfl))⟩
 f50 := ⟨Tryz.f153.name, by decide, Tryz.func153.trans (congrArg some (by kernel_rfl))⟩
 f57 := ⟨Tryz.f166.name, by decide, Tryz.func166.trans (congrArg some (by kernel_rfl))⟩
 t0 := Tryz.underlying0
 a0 := Tryz.isAgg0
 z0 := Tryz.sizeOf0
 v0 := Tryz.zeroValue0
 t3 := Tryz.underlying3
 a3 := Tryz.isAgg3
 z3 := Tryz.sizeOf3
 v3 := Tryz.zeroValue3
 t4 := Tryz.underlying4
 a4 := Tryz.isAgg4
 z4 := Tryz.sizeOf4
 v4 := Tryz.zeroValue4
 t5 := Tryz.underlying5
 a5 := Tryz.isAgg5
 z5 := Tryz.sizeOf5
 v5 := Tryz.zeroValue5
 t9 := Tryz.underlying9
 a9 := Tryz.isAgg9
 z9 := Tryz.sizeOf9
 v9 := Tryz.zeroValue9
 t22 := Tryz.underlying93
 a22 := Tryz.isAgg93
 z22 := Tryz.sizeOf93
 v22 := Tryz.zeroValue93
 t25 := Tryz.underlying147
 a25 := Tryz.isAgg147
 z25 := Tryz.sizeOf147
 v25 := Tryz.zeroValue147
 t39 := Tryz.underlying182
 a39 := Tryz.isAgg182
 z39 := Tryz.sizeOf182
 v39 := Tryz.zeroValue182
 t45 := Tryz.underlying202
 a45 := Tryz.isAgg202
 z45 := Tryz.sizeOf202
 v45 := Tryz.zeroValue202
 t46 := Tryz.underlying203
 a46 := Tryz.isAgg203
 z46 := Tryz.sizeOf203
 v46 := Tryz.zeroValue203
 t50 := Tryz.underlying100
 a50 := Tryz.isAgg100
 z50 := Tryz.sizeOf100
 v50 := Tryz.zeroValue100
 t53 := Tryz.underlying209
 a53 := Tryz.isAgg209
 z53 := Tryz.sizeOf209
 v53 := Tryz.zeroValue209
 t55 := Tryz.underlying118
 a55 := Tryz.isAgg118
 z55 := Tryz.sizeOf118
 v55 := Tryz.zeroValue118
 t66 := Tryz.underlying230
 a66 := Tryz.isAgg230
 z66 := Tryz.sizeOf230
 v66 := Tryz.zeroValue230
 t70 := Tryz.underlying226
 a70 := Tryz.isAgg226
 z70 := Tryz.sizeOf226
 v70 := Tryz.zeroValue226
 t76 := Tryz.underlying242
 a76 := Tryz.isAgg242
 z76 := Tryz.sizeOf242
 v76 := Tryz.zeroValue242
 t77 := Tryz.underlying243
 a77 := Tryz.isAgg243
 z77 := Tryz.sizeOf243
 v77 := Tryz.zeroValue243 }
def Tryz.lays189_ren : Go.Shelf.Ren := ⟨fun | 189 => 127 | 125 => 93 | 257 => 154 | 128 => 125 | 129 => 114 | 294 => 167 | 295 => 168 | 296 => 169 | 297 => 170 | 298 => 171 | 299 => 172 | 216 => 173 | 300 => 174 | 301 => 175 | 328 => 176 | 329 => 150 | 330 => 151 | 331 => 177 | 332 => 178 | 215 => 58 | 343 => 179 | n => n, fun | 28 => 62 | 3 => 3 | 46 => 182 | 0 => 0 | 51 => 209 | 53 => 118 | 4 => 4 | 183 => 203 | 182 => 202 | 131 => 100 | 5 => 5 | 9 => 9 | 218 => 230 | 222 => 226 | 228 => 242 | 229 => 243 | n => n, fun | n => n⟩
theorem Tryz.lays189 : Go.Proofs.Lays.n189 Tryz.prog Tryz.lays189_ren := {
 mixed := by kernel_rfl
 f125 := Tryz.func93.trans (congrArg some (by kernel_rfl))
 f128 := Tryz.func125.trans (congrArg some (by kernel_rfl))
 f129 := Tryz.func114.trans (congrArg some (by kernel_rfl))
 f189 := Tryz.func127.trans (congrArg some (by kernel_rfl))
 f215 := Tryz.func58.trans (congrArg some (by kernel_rfl))
 f216 := Tryz.func173.trans (congrArg some (by kernel_rfl))
 f257 := Tryz.func154.trans (congrArg some (by kernel_rfl))
 f294 := Tryz.func167.trans (congrArg some (by kernel_rfl))
 f295 := Tryz.func168.trans (congrArg some (by kernel_rfl))
 f296 := Tryz.func169.trans (congrArg some (by kernel_rfl))
 f297 := Tryz.func170.trans (congrArg some (by kernel_rfl))
 f298 := Tryz.func171.trans (congrArg some (by kernel_rfl))
 f299 := Tryz.func172.trans (congrArg some (by kernel_rfl))
 f300 := Tryz.func174.trans (congrArg some (by kernel_rfl))
 f301 := Tryz.func175.trans (congrArg some (by kernel_rfl))
 f328 := Tryz.func176.trans (congrArg some (by kernel_rfl))
 f329 := Tryz.func150.trans (congrArg some (by kernel_rfl))
 f330 := Tryz.func151.trans (congrArg some (by kernel_rfl))
 f331 := Tryz.func177.trans (congrArg some (by kernel_rfl))
 f332 := Tryz.func178.trans (congrArg some (by kernel_rfl))
 f343 := Tryz.func179.trans (congrArg some (by kernel_rfl))
 t0 := Tryz.underlying0
 a0 := Tryz.isAgg0
 z0 := Tryz.sizeOf0
 v0 := Tryz.zeroValue0
 t3 := Tryz.underlying3
 a3 := Tryz.isAgg3
 z3 := Tryz.sizeOf3
 v3 := Tryz.zeroValue3
 t4 := Tryz.underlying4
 a4 := Tryz.isAgg4
 z4 := Tryz.sizeOf4
 v4 := Tryz.zeroValue4
 t5 := Tryz.underlying5
 a5 := Tryz.isAgg5
 z5 := Tryz.sizeOf5
 v5 := Tryz.zeroValue5
 t9 := Tryz.underlying9
 a9 := Tryz.isAgg9
 z9 := Tryz.sizeOf9
 v9 := Tryz.zeroValue9
 t28 := Tryz.underlying62
 a28 := Tryz.isAgg62
 z28 := Tryz.sizeOf62
 v28 := Tryz.zeroValue62
 t46 := Tryz.underlying182
 a46 := Tryz.isAgg182
 z46 := Tryz.sizeOf182
 v46 := Tryz.zeroValue182
 t51 := Tryz.underlying209
 a51 := Tryz.isAgg209
 z51 := Tryz.sizeOf209
 v51 := Tryz.zeroValue209
 t53 := Tryz.underlying118
 a53 := Tryz.isAgg118
 z53 := Tryz.sizeOf118
 v53 := Tryz.zeroValue118
 t131 := Tryz.underlying100
 a131 := Tryz.isAgg100
 z131 := Tryz.sizeOf100
 v131 := Tryz.zeroValue100
 t182 := Tryz.underlying202
 a182 := Tryz.isAgg202
 z182 := Tryz.sizeOf202
 v182 := Tryz.zeroValue202
 t183 := Tryz.underlying203
 a183 := Tryz.isAgg203
 z183 := Tryz.sizeOf203
 v183 := Tryz.zeroValue203
 t218 := Tryz.underlying230
 a218 := Tryz.isAgg230
 z218 := Tryz.sizeOf230
 v218 := Tryz.zeroValue230
 t222 := Tryz.underlying226
 a222 := Tryz.isAgg226
 z222 := Tryz.sizeOf226
 v222 := Tryz.zeroValue226
 t228 := Tryz.underlying242
 a228 := Tryz.isAgg242
 z228 := Tryz.sizeOf242
 v228 := Tryz.zeroValue242
 t229 := Tryz.underlying243
 a229 := Tryz.isAgg243
 z229 := Tryz.sizeOf243
 v229 := Tryz.zeroValue243 }
end Go.Proofs
end
section
namespace Px
open Go
set_option linter.unusedVariables false
set_option linter.unusedSimpArgs false
theorem zwq {σ ρ : Type} (L : Nat -> Int -> σ -> Option ρ) (len : Nat) (Inv : Nat -> σ -> Prop) (G : Option ρ -> Prop)
  (step : ∀ n i s, i < len -> Inv i s -> (∀ s', Inv (i + 1) s' -> G (L n ((i : Int) + 1) s')) -> G (L (n + 1) i s))
  (done : ∀ n s, Inv len s -> G (L (n + 1) len s)) : ∀ n i s, i <= len -> Inv i s -> len - i < n -> G (L n i s) := by
 intro n
 induction n with
 | zero => intro i s _ _ h; omega
 | succ n ih =>
  intro i s hi hI hn
  by_cases h : i = len
  ·subst h; exact done n s hI
  ·refine step n i s (by omega) hI fun s' hs' => ?_
   have := ih (i + 1) s' (by omega) hs' (by omega)
   simpa using this
theorem z0k {σ ρ : Type} (L : Nat -> Int -> σ -> Option ρ) (len : Nat) (Inv : Nat -> σ -> Prop) (G : Option ρ -> Prop)
  (step : ∀ n i s, i < len -> Inv i s -> (∀ s', Inv (i + 1) s' -> G (L n ((i : Int) + 1) s')) -> G (L (n + 1) i s))
  (done : ∀ n s, Inv len s -> G (L (n + 1) len s)) (n : Nat) (s : σ) (h : Inv 0 s) (hn : len < n) : G (L n 0 s) := by
 simpa using zwq L len Inv G step done n 0 s (Nat.zero_le _) h (by omega)
theorem yan (x : Int) : W x = if x % 18446744073709551616 >= 9223372036854775808 then x % 18446744073709551616 - 18446744073709551616 else x % 18446744073709551616 := by
 simp [W, IntKind.wrap, IntKind.bits, IntKind.signed]
theorem y05 (x : Int) : U x = x % 18446744073709551616 := by
 simp [U, IntKind.wrap, IntKind.bits, IntKind.signed]
theorem W_id {x : Int} (h : -9223372036854775808 <= x) (h' : x <= 9223372036854775807) : W x = x := by
 rw [yan]; split <;> omega
theorem U_id {x : Int} (h : 0 <= x) (h' : x <= 18446744073709551615) : U x = x := by
 rw [y05]; omega
theorem znt {α : Type} [Inhabited α] (ok : α -> Bool) (l : List α) (i : Nat) (h : i < l.length) : (l.take (i + 1)).all ok = ((l.take i).all ok && ok (gt l (i : Int))) := by
 rw [List.take_succ_eq_append_getElem h, List.all_append]
 simp [gt, h]
theorem zfx {α : Type} [Inhabited α] (ok : α -> Bool) (l : List α) (i : Nat) (h : i < l.length) : (l.take (i + 1)).any ok = ((l.take i).any ok || ok (gt l (i : Int))) := by
 rw [List.take_succ_eq_append_getElem h, List.any_append]
 simp [gt, h]
theorem z0w {α : Type} [Inhabited α] (l : List α) (i : Nat) (h : i < l.length) : l.take (i + 1) = l.take i ++ [gt l (i : Int)] := by
 rw [List.take_succ_eq_append_getElem h]
 simp [gt, h]
theorem z21 {α : Type} [Inhabited α] {l : List α} {i : Int} (h0 : 0 <= i) (h : i < (l.length : Int)) : gt l i ∈ l := by
 have hlt : i.toNat < l.length := by omega
 simp [gt, hlt]
theorem z1m {α : Type} [Inhabited α] {l : List α} {i : Nat} (h : i < l.length) : gt l (i : Int) = l[i] := by
 simp [gt, h]
theorem zyb {α : Type} [Inhabited α] (l : List α) (i : Nat) (h : i < l.length) : l.drop i = gt l (i : Int) :: l.drop (i + 1) := by
 rw [z1m h, List.getElem_cons_drop]
theorem zf9 {α : Type} [Inhabited α] {l : List α} {x : α} (h : x ∈ l) : ∃ i : Nat, i < l.length /\ gt l (i : Int) = x := by
 obtain ⟨i, hi, e⟩ := List.getElem_of_mem h
 exact ⟨i, hi, by rw [z1m hi, e]⟩
theorem z0j {α : Type} [Inhabited α] (l : List α) (i j : Int) (x : α) (hi : 0 <= i) (h : i < (l.length : Int)) (hj : 0 <= j) : gt (z05 l i x) j = if j = i then x else gt l j := by
 unfold gt z05
 by_cases e : j = i
 ·subst e
  have : j.toNat < l.length := by omega
  simp [List.getD, List.getElem?_set, this]
 ·have : i.toNat ≠ j.toNat := by omega
  simp [List.getD, List.getElem?_set, this, e]
theorem z2w {α : Type} [Inhabited α] (n : Nat) (x : α) (j : Int) (hj : 0 <= j) (h : j < n) : gt (List.replicate n x) j = x := by
 have : j.toNat < n := by omega
 simp [gt, List.getD, List.getElem?_replicate, this]
theorem zif {α ρ : Type} [Inhabited α] (L : Nat -> Int -> Int -> Option ρ) (k : Int -> Option ρ) (l : List α) (ok : α -> Bool)
  (step : ∀ (n i : Nat) (s : Int), i < l.length -> L (n + 1) i s = L n ((i : Int) + 1) (bif ok (gt l i) then s else 1)) (done : ∀ n s, L (n + 1) l.length s = k s) :
  ∀ n s, l.length < n -> L n 0 s = k (bif l.all ok then s else 1) := by
 intro n s hn
 refine zwq L l.length (fun i t => t = bif (l.take i).all ok then s else 1) (fun o => o = k (bif l.all ok then s else 1)) ?_ ?_ n 0 s (Nat.zero_le _) (by simp) (by omega)
 ·intro n i t hi ht hs
  rw [step n i t hi]
  refine hs _ ?_
  rw [znt ok l i hi, ht]
  cases (l.take i).all ok <;> cases ok (gt l (i : Int)) <;> simp
 ·intro n t ht
  rw [done, ht, List.take_length]
theorem zyk {α ρ : Type} [Inhabited α] (L : Nat -> Int -> Option ρ) (k : Option ρ) (l : List α) (p : α -> Bool) (g : α -> Option ρ)
  (step : ∀ n i : Nat, i < l.length -> L (n + 1) i = bif p (gt l i) then g (gt l i) else L n ((i : Int) + 1)) (done : ∀ n, L (n + 1) l.length = k) :
  ∀ n, l.length < n -> L n 0 = match l.find? p with | some x => g x | none => k := by
 intro n hn
 refine z0k (fun n i (_ : Unit) => L n i) l.length (fun i _ => ∀ x ∈ l.take i, p x = false) (fun o => o = match l.find? p with | some x => g x | none => k) ?_ ?_ n () (by simp) hn
 ·intro n i _ hi hI hs
  simp only [step n i hi]
  cases e : p (gt l (i : Int)) with
  | false =>
   refine hs () ?_
   rw [z0w l i hi]
   intro x hx
   rcases List.mem_append.1 hx with h | h
   ·exact hI x h
   ·simp at h; rw [h]; exact e
  | true =>
   have : l.find? p = some (gt l (i : Int)) := by
    have h1 : l = l.take i ++ (gt l (i : Int) :: l.drop (i + 1)) := by
     rw [z1m hi, List.getElem_cons_drop, List.take_append_drop]
    generalize gt l (i : Int) = y at *
    rw [h1, List.find?_append, List.find?_eq_none.2 (fun x hx => by simp [hI x hx])]
    simp [List.find?_cons, e]
   rw [this]; rfl
 ·intro n _ hI
  simp only [done]
  rw [List.take_length] at hI
  rw [List.find?_eq_none.2 (fun x hx => by simp [hI x hx])]
theorem y0j {α ρ : Type} (l : List α) (p : α -> Bool) (r k : ρ) : (match l.find? p with | some _ => r | none => k) = bif l.any p then r else k := by
 induction l with
 | nil => rfl
 | cons x l ih =>
  rw [List.find?_cons, List.any_cons]
  cases p x
  ·simpa using ih
  ·rfl
theorem zij {α ρ : Type} [Inhabited α] (L : Nat -> Int -> Option ρ) (k r : Option ρ) (l : List α) (p : α -> Bool)
  (step : ∀ n i : Nat, i < l.length -> L (n + 1) i = bif p (gt l i) then r else L n ((i : Int) + 1)) (done : ∀ n, L (n + 1) l.length = k)
  (n : Nat) (hn : l.length < n) : L n 0 = bif l.any p then r else k := by
 rw [zyk L k l p (fun _ => r) step done n hn, y0j]
def bet (a b c : Int) : Bool := decide (b <= a) && decide (a <= c)
theorem zrz {a b c : Int} : bet a b c = true ↔ b <= a /\ a <= c := by simp [bet]
theorem zzk {a b c : Int} (h : bet a b c = true) : b <= a /\ a <= c := zrz.1 h
theorem mk_t (n : Int) (b : Nat) (h0 : 0 <= n) (h : n <= 100000) (hb : b <= 1000000) : z52 n b := by
 refine ⟨h0, ?_, by omega⟩
 have : (b : Int) * n <= 1000000 * 100000 := Int.mul_le_mul (by omega) h h0 (by omega)
 omega
theorem zw3 {x y z : Int} : min2 x y < z ↔ x < z \/ y < z := by unfold min2; split <;> omega
theorem y7b {x y z : Int} : z < max2 x y ↔ z < x \/ z < y := by unfold max2; split <;> omega
end Px
end
section
namespace Px
open Go
set_option linter.unusedVariables false
set_option linter.unusedSimpArgs false
theorem zrk {a b : Int} : cmpI a b < 0 ↔ a < b := by unfold cmpI; (repeat' split) <;> omega
theorem zry {a b : Int} : cmpI a b = 0 ↔ a = b := by unfold cmpI; (repeat' split) <;> omega
theorem ya0 {a b c d e : Int} : or5 a b c d e < 0 ↔ a < 0 \/ (a = 0 /\ (b < 0 \/ (b = 0 /\ (c < 0 \/ (c = 0 /\ (d < 0 \/ (d = 0 /\ e < 0))))))) := by
 unfold or5
 by_cases h1 : a = 0
 ·by_cases h2 : b = 0
  ·by_cases h3 : c = 0
   ·by_cases h4 : d = 0
    ·simp [h1, h2, h3, h4]
    ·simp [h1, h2, h3, h4]
   ·simp [h1, h2, h3]
  ·simp [h1, h2]
 ·simp [h1]
theorem zae {a b : z6} : cfEv a b < 0 ↔ a.visit.early < b.visit.early \/ (a.visit.early = b.visit.early /\ (a.visit.ref.railway < b.visit.ref.railway \/ (a.visit.ref.railway = b.visit.ref.railway /\ (a.visit.ref.no < b.visit.ref.no \/ (a.visit.ref.no = b.visit.ref.no /\
  (ordB a.second < ordB b.second \/ (ordB a.second = ordB b.second /\ a.report < b.report))))))) := by
 unfold cfEv
 rw [ya0, zrk, zrk, zrk, zry, zry, zry]
 have e1 : ∀ x y : Int, (x - y < 0) = (x < y) := fun x y => propext ⟨fun h => by omega, fun h => by omega⟩
 have e2 : ∀ x y : Int, (x - y = 0) = (x = y) := fun x y => propext ⟨fun h => by omega, fun h => by omega⟩
 rw [e1, e1, e2]
theorem y0r : Sort.SWO (Proofs.ltOf fun a b : {y : z6 // okEv y = true} => cfEv a.1 b.1) where
 irrefl := fun x => by
  simp only [Proofs.ltOf, decide_eq_false_iff_not]
  rw [zae]
  omega
 trans := fun x y z h1 h2 => by
  simp only [Proofs.ltOf, decide_eq_true_eq] at *
  rw [zae] at *
  omega
 ntrans := fun x y z h1 h2 => by
  simp only [Proofs.ltOf, decide_eq_false_iff_not] at *
  rw [zae] at *
  omega
theorem zvj (φ : Nat) (a b : Int) : z2z φ a b = some (cmpI a b, ()) := by
 unfold z2z cmpI
 simp only [bne_self_eq_false, Bool.false_eq_true, if_false, decide_eq_true_eq]
 split
 ·rfl
 ·split <;> rfl
theorem y2j (φ : Nat) (b : Bool) : z97 φ b = some (ordB b, ()) := by
 unfold z97 ordB
 split <;> rfl
theorem ybe (φ : Nat) (h : 6 <= φ) (a b c d e : Int) : zox φ [a, b, c, d, e] = some (or5 a b c d e, ()) := by
 obtain ⟨n, rfl⟩ : ∃ n, φ = n + 6 := ⟨φ - 6, by omega⟩
 unfold zox or5
 simp only [zf5, List.length_cons, List.length_nil]
 have w : ∀ x : Int, 0 <= x -> x < 100 -> W (x + 1) = x + 1 := fun x h1 h2 => W_id (by omega) (by omega)
 have g0 : gt [a, b, c, d, e] 0 = a := rfl
 have g1 : gt [a, b, c, d, e] 1 = b := rfl
 have g2 : gt [a, b, c, d, e] 2 = c := rfl
 have g3 : gt [a, b, c, d, e] 3 = d := rfl
 have g4 : gt [a, b, c, d, e] 4 = e := rfl
 rw [w 0 (by omega) (by omega), show (0 : Int) + 1 = 1 by rfl, w 1 (by omega) (by omega), show (1 : Int) + 1 = 2 by rfl, w 2 (by omega) (by omega), show (2 : Int) + 1 = 3 by rfl, w 3 (by omega) (by omega), show (3 : Int) + 1 = 4 by rfl, w 4 (by omega) (by omega), show (4 : Int) + 1 = 5 by rfl, g0, g1, g2, g3, g4]
 simp [ck]
 repeat' (split; try rfl)
 all_goals simp_all
theorem zq1 (φ : Nat) (h : 6 <= φ) (a b : z6) (ha : okEv a = true) (hb : okEv b = true) : z7g φ a b = some (cfEv a b, ()) := by
 simp only [okEv, decide_eq_true_eq] at ha hb
 unfold z7g cfEv
 simp only [zvj, y2j, Option.bind_some]
 have w1 : W (ordB a.second - ordB b.second) = ordB a.second - ordB b.second := by
  have : ∀ x : Bool, 0 <= ordB x /\ ordB x <= 1 := fun x => by cases x <;> decide
  have h1 := this a.second
  have h2 := this b.second
  exact W_id (by omega) (by omega)
 rw [w1, W_id (by omega) (by omega), ybe φ h]
 rfl
theorem zsn (a b : z6) (ha : okEv a = true) (hb : okEv b = true) : z7g 10 a b = some (cfEv a b, ()) := zq1 10 (by omega) a b ha hb
end Px
end
section
set_option linter.unusedVariables false
set_option linter.unusedSimpArgs false
set_option maxHeartbeats 4000000
set_option maxRecDepth 100000
namespace Px
open Go Go.RowKit Go.Proofs
def z89 (φ : Nat) : H TV (RTup TT [.val 0]) := .x
def zb0 (P : Program) (φ : Nat) : Env TV := ⟨P, lk [], lk [], lk []⟩
theorem znb (φ : Nat) (a) : (z8g φ).F a = fnX TV (zb0 Tryz.prog φ) φ Tryz.f37 [0, 0] [.val 0] (z89 φ) a := by kernel_rfl
theorem znk (φ : Nat) : fnO TV (zb0 Tryz.prog φ) φ Tryz.f37 [.val 0] (z89 φ) := by
 unfold fnO
 show obl _ _ _ _ _ _ _
 unfold z89
 repeat' (first | exact trivial | (refine ⟨?_, ?_⟩) | (intro _) | kernel_rfl)
theorem zfp (φ : Nat) : z13 TV Tryz.prog 37 (z8g φ) :=
 z1k (N := zb0 Tryz.prog φ) (zx trivial trivial trivial) (z89 φ) Tryz.func37 (by kernel_rfl) (znb φ) (znk φ)
def zpo : Msp TV := ⟨3, 0, [], zmm⟩
theorem zx9 : y06 TV Tryz.prog 127 zpo := fun l l' sv h => zpj (ρ := Tryz.lays189_ren) Tryz.lays189 h
def z8k (φ : Nat) : H TV (RTup TT [.val 0]) := .x
def zbp (P : Program) (φ : Nat) : Env TV := ⟨P, lk [], lk [], lk []⟩
theorem zm2 (φ : Nat) (a) : (zba φ).F a = fnX TV (zbp Tryz.prog φ) φ Tryz.f70 [2] [.val 0] (z8k φ) a := by kernel_rfl
theorem znc (φ : Nat) : fnO TV (zbp Tryz.prog φ) φ Tryz.f70 [.val 0] (z8k φ) := by
 unfold fnO
 show obl _ _ _ _ _ _ _
 unfold z8k
 repeat' (first | exact trivial | (refine ⟨?_, ?_⟩) | (intro _) | kernel_rfl)
theorem znx (φ : Nat) : z13 TV Tryz.prog 70 (zba φ) :=
 z1k (N := zbp Tryz.prog φ) (zx trivial trivial trivial) (z8k φ) Tryz.func70 (by kernel_rfl) (zm2 φ) (znc φ)
def zie (φ : Nat) : H TV (RTup TT [.val 0]) := (.seq .x (.seq .x (.seq (.seq .x (.body (.loop ⟨[(18, [(3, .val 0), (6, .val 5), (7, .val 0), (8, .val 0)])], []⟩ (fun n z => zf5 φ n z.1 z.2.1 z.2.2.1 z.2.2.2.1) (fun zk6 => .x)))) .x)))
def zm8 (P : Program) (φ : Nat) : Env TV := ⟨P, lk [], lk [], lk []⟩
theorem y3m (φ : Nat) (a) : (zih φ).F a = fnX TV (zm8 Tryz.prog φ) φ Tryz.f36 [5] [.val 0] (zie φ) a := by kernel_rfl
theorem y1e (φ : Nat) : fnO TV (zm8 Tryz.prog φ) φ Tryz.f36 [.val 0] (zie φ) := by
 unfold fnO
 show obl _ _ _ _ _ _ _
 unfold zie
 repeat' (first | exact trivial | (refine ⟨?_, ?_⟩) | (intro _) | kernel_rfl)
theorem zsq (φ : Nat) : z13 TV Tryz.prog 36 (zih φ) :=
 z1k (N := zm8 Tryz.prog φ) (zx trivial trivial trivial) (zie φ) Tryz.func36 (by kernel_rfl) (y3m φ) (y1e φ)
def z4u (φ : Nat) : H TV (RTup TT [.val 0]) := .x
def z85 (P : Program) (φ : Nat) : Env TV := ⟨P, lk [(37, z8g φ), (70, zba φ), (36, zih φ)], lk [], lk []⟩
theorem zi7 (φ : Nat) (a) : (zbz φ).F a = fnX TV (z85 Tryz.prog φ) φ Tryz.f69 [4, 4] [.val 0] (z4u φ) a := by kernel_rfl
theorem zi5 (φ : Nat) : fnO TV (z85 Tryz.prog φ) φ Tryz.f69 [.val 0] (z4u φ) := by
 unfold fnO
 show obl _ _ _ _ _ _ _
 unfold z4u
 repeat' (first | exact trivial | (refine ⟨?_, ?_⟩) | (intro _) | kernel_rfl)
theorem zi1 (φ : Nat) : z13 TV Tryz.prog 69 (zbz φ) :=
 z1k (N := z85 Tryz.prog φ) (zx ⟨zfp φ, znx φ, zsq φ, trivial⟩ trivial trivial) (z4u φ) Tryz.func69 (by kernel_rfl) (zi7 φ) (zi5 φ)
def zty : Msp TV := ⟨97, 4, [69], sortEv⟩
theorem y2i : y06 TV Tryz.prog 68 zty :=
 y09 (V := TV) (c := 4) (ρ := Tryz.sortEv_ren) Tryz.sortEv Tryz.isAgg97 (by rw [show TV.sz 4 = 11 by kernel_rfl]; exact Tryz.sizeOf97) (by kernel_rfl) (by kernel_rfl) ⟨Tryz.f69, Tryz.func69, by kernel_rfl, by kernel_rfl⟩ y0r fun a b ha hb =>
  (zi1 10 (a, b, ()) (cfEv a b, ()) (zsn a b ha hb)).mono fun x news ⟨B, hB, h1, h2⟩ => by
   cases B with
   | nil => exact ⟨h1, h2⟩
   | cons y B => cases hB
def z8b (φ : Nat) : H TV (RTup TT [.val 6]) := (.seq .x (.seq .x (.seq (.body (.loop ⟨[(26, [(0, .val 6), (1, .val 6), (2, .val 6), (7, .val 6)])], []⟩ (fun n z => z7e φ n z.1 z.2.1 z.2.2.1 z.2.2.2.1) (fun zk8 => (.seq .x (.seq (.body (.seq (.join ⟨[(26, [(0, .val 6), (1, .val 6), (2, .val 6), (7, .val 6)])], []⟩ (fun z => z8w φ (fun a0 a1 a2 a3 => zk8 (a0, a1, a2, a3, ())) z.1 z.2.1 z.2.2.1 z.2.2.2.1) (.seq .x .x)) .x)) .x))))) .x)))
def zaz (P : Program) (φ : Nat) : Env TV := ⟨P, lk [], lk [], lk []⟩
theorem zmj (φ : Nat) (a) : (zb4 φ).F a = fnX TV (zaz Tryz.prog φ) φ Tryz.f130 [6, 6, 6] [.val 6] (z8b φ) a := by kernel_rfl
theorem zmy (φ : Nat) : fnO TV (zaz Tryz.prog φ) φ Tryz.f130 [.val 6] (z8b φ) := by
 unfold fnO
 show obl _ _ _ _ _ _ _
 unfold z8b
 repeat' (first | exact trivial | (refine ⟨?_, ?_⟩) | (intro _) | kernel_rfl)
theorem zmz (φ : Nat) : z13 TV Tryz.prog 130 (zb4 φ) :=
 z1k (N := zaz Tryz.prog φ) (zx trivial trivial trivial) (z8b φ) Tryz.func130 (by kernel_rfl) (zmj φ) (zmy φ)
def zbd (φ : Nat) : H TV (RTup TT [.val 6]) := (.seq .x (.seq .x (.seq (.seq .x (.body (.loop ⟨[(22, [(0, .val 6), (1, .val 6), (5, .val 6)])], []⟩ (fun n z => z9m φ n z.1 z.2.1 z.2.2.1) (fun zk6 => (.seq .x (.seq (.body (.seq (.join ⟨[(22, [(0, .val 6), (1, .val 6), (5, .val 6)])], []⟩ (fun z => zbn φ (fun a0 a1 a2 => zk6 (a0, a1, a2, ())) z.1 z.2.1 z.2.2.1) (.seq .x .x)) .x)) .x)))))) .x)))
def zet (P : Program) (φ : Nat) : Env TV := ⟨P, lk [(130, zb4 φ)], lk [], lk []⟩
theorem zqt (φ : Nat) (a) : (zey φ).F a = fnX TV (zet Tryz.prog φ) φ Tryz.f97 [6, 6] [.val 6] (zbd φ) a := by kernel_rfl
theorem zra (φ : Nat) : fnO TV (zet Tryz.prog φ) φ Tryz.f97 [.val 6] (zbd φ) := by
 unfold fnO
 show obl _ _ _ _ _ _ _
 unfold zbd
 repeat' (first | exact trivial | (refine ⟨?_, ?_⟩) | (intro _) | kernel_rfl)
theorem zs0 (φ : Nat) : z13 TV Tryz.prog 97 (zey φ) :=
 z1k (N := zet Tryz.prog φ) (zx ⟨zmz φ, trivial⟩ trivial trivial) (zbd φ) Tryz.func97 (by kernel_rfl) (zqt φ) (zra φ)
def z7c (φ : Nat) : H TV (RTup TT [.val 6, .val 0]) := .x
def zac (P : Program) (φ : Nat) : Env TV := ⟨P, lk [(97, zey φ)], lk [], lk []⟩
theorem zkw (φ : Nat) (a) : (zad φ).F a = fnX TV (zac Tryz.prog φ) φ Tryz.f76 [6] [.val 6, .val 0] (z7c φ) a := by kernel_rfl
theorem zl0 (φ : Nat) : fnO TV (zac Tryz.prog φ) φ Tryz.f76 [.val 6, .val 0] (z7c φ) := by
 unfold fnO
 show obl _ _ _ _ _ _ _
 unfold z7c
 repeat' (first | exact trivial | (refine ⟨?_, ?_⟩) | (intro _) | kernel_rfl)
theorem zku (φ : Nat) : z13 TV Tryz.prog 76 (zad φ) :=
 z1k (N := zac Tryz.prog φ) (zx ⟨zs0 φ, trivial⟩ trivial trivial) (z7c φ) Tryz.func76 (by kernel_rfl) (zkw φ) (zl0 φ)
def z5n (φ : Nat) : H TV (RTup TT [.val 30]) := (.seq .x (.seq .x (.seq .x (.seq .x (.seq .x (.seq .x (.seq .x (.seq .x (.seq (.seq .x (.body (.loop ⟨[(50, [(0, .ptr 0 0), (1, .ptr 1 0), (2, .val 0)])], [.box 36 [.own 2, .own 3, .own 4, .own 5, .own 6, .own 7, .own 8, .own 9, .own 10], .box 36 [.own 11, .own 12, .own 13, .own 14, .own 15, .own 16, .own 17, .own 18, .own 19], .row 138 7, .row 112 9, .row 155 12, .row 140 14, .row 172 16, .row 176 18, .row 99 21, .row 136 23, .row 120 28, .row 138 7, .row 112 9, .row 155 12, .row 140 14, .row 172 16, .row 176 18, .row 99 21, .row 136 23, .row 120 28]⟩ (fun n z => z6v φ n z.1 z.2.1 z.2.2.1 z.2.2.2.1 z.2.2.2.2.1 z.2.2.2.2.2.1 z.2.2.2.2.2.2.1 z.2.2.2.2.2.2.2.1 z.2.2.2.2.2.2.2.2.1 z.2.2.2.2.2.2.2.2.2.1 z.2.2.2.2.2.2.2.2.2.2.1 z.2.2.2.2.2.2.2.2.2.2.2.1 z.2.2.2.2.2.2.2.2.2.2.2.2.1 z.2.2.2.2.2.2.2.2.2.2.2.2.2.1 z.2.2.2.2.2.2.2.2.2.2.2.2.2.2.1 z.2.2.2.2.2.2.2.2.2.2.2.2.2.2.2.1 z.2.2.2.2.2.2.2.2.2.2.2.2.2.2.2.2.1 z.2.2.2.2.2.2.2.2.2.2.2.2.2.2.2.2.2.1 z.2.2.2.2.2.2.2.2.2.2.2.2.2.2.2.2.2.2.1) (fun zk20 => .x)))) .x)))))))))
def z8s (P : Program) (φ : Nat) : Env TV := ⟨P, lk [(76, zad φ)], lk [], lk []⟩
theorem zjm (φ : Nat) (a) : (z9d φ).F a = fnX TV (z8s Tryz.prog φ) φ Tryz.f47 [] [.val 30] (z5n φ) a := by kernel_rfl
theorem zkg (φ : Nat) : fnO TV (z8s Tryz.prog φ) φ Tryz.f47 [.val 30] (z5n φ) := by
 unfold fnO
 show obl _ _ _ _ _ _ _
 unfold z5n
 repeat' (first | exact trivial | (refine ⟨?_, ?_⟩) | (intro _) | kernel_rfl)
theorem zkd (φ : Nat) : z13 TV Tryz.prog 47 (z9d φ) :=
 z1k (N := z8s Tryz.prog φ) (zx ⟨zku φ, trivial⟩ trivial trivial) (z5n φ) Tryz.func47 (by kernel_rfl) (zjm φ) (zkg φ)
def z64 (φ : Nat) : H TV (RTup TT [.val 30]) := .x
def z93 (P : Program) (φ : Nat) : Env TV := ⟨P, lk [(47, z9d φ)], lk [], lk []⟩
theorem zke (φ : Nat) (a) : (z8o φ).F a = fnX TV (z93 Tryz.prog φ) φ Tryz.f27 [] [.val 30] (z64 φ) a := by kernel_rfl
theorem zk2 (φ : Nat) : fnO TV (z93 Tryz.prog φ) φ Tryz.f27 [.val 30] (z64 φ) := by
 unfold fnO
 show obl _ _ _ _ _ _ _
 unfold z64
 repeat' (first | exact trivial | (refine ⟨?_, ?_⟩) | (intro _) | kernel_rfl)
theorem zjl (φ : Nat) : z13 TV Tryz.prog 27 (z8o φ) :=
 z1k (N := z93 Tryz.prog φ) (zx ⟨zkd φ, trivial⟩ trivial trivial) (z64 φ) Tryz.func27 (by kernel_rfl) (zke φ) (zk2 φ)
def z7a (φ : Nat) : H TV (RTup TT [.val 35]) := .x
def zaf (P : Program) (φ : Nat) : Env TV := ⟨P, lk [], lk [], lk []⟩
theorem zkt (φ : Nat) (a) : (zaj φ).F a = fnX TV (zaf Tryz.prog φ) φ Tryz.f28 [0, 0, 0, 0, 0] [.val 35] (z7a φ) a := by kernel_rfl
theorem zl1 (φ : Nat) : fnO TV (zaf Tryz.prog φ) φ Tryz.f28 [.val 35] (z7a φ) := by
 unfold fnO
 show obl _ _ _ _ _ _ _
 unfold z7a
 repeat' (first | exact trivial | (refine ⟨?_, ?_⟩) | (intro _) | kernel_rfl)
theorem zkx (φ : Nat) : z13 TV Tryz.prog 28 (zaj φ) :=
 z1k (N := zaf Tryz.prog φ) (zx trivial trivial trivial) (z7a φ) Tryz.func28 (by kernel_rfl) (zkt φ) (zl1 φ)
def z5w (φ : Nat) : H TV (RTup TT [.val 2]) := .x
def z9f (P : Program) (φ : Nat) : Env TV := ⟨P, lk [], lk [], lk []⟩
theorem zjk (φ : Nat) (a) : (z8y φ).F a = fnX TV (z9f Tryz.prog φ) φ Tryz.f87 [7] [.val 2] (z5w φ) a := by kernel_rfl
theorem zks (φ : Nat) : fnO TV (z9f Tryz.prog φ) φ Tryz.f87 [.val 2] (z5w φ) := by
 unfold fnO
 show obl _ _ _ _ _ _ _
 unfold z5w
 repeat' (first | exact trivial | (refine ⟨?_, ?_⟩) | (intro _) | kernel_rfl)
theorem zkb (φ : Nat) : z13 TV Tryz.prog 87 (z8y φ) :=
 z1k (N := z9f Tryz.prog φ) (zx trivial trivial trivial) (z5w φ) Tryz.func87 (by kernel_rfl) (zjk φ) (zks φ)
def z60 (φ : Nat) : H TV (RTup TT [.val 0]) := (.seq .x (.seq .x (.seq .x (.seq (.seq .x (.body (.loop ⟨[(84, [(1, .ptr 0 0), (3, .val 0), (20, .val 8), (21, .val 0), (22, .val 0)])], [.box 25 [.val 11]]⟩ (fun n z => z2i φ n z.1 z.2.1 z.2.2.1 z.2.2.2.1 z.2.2.2.2.1) (fun zk7 => .x)))) (.seq (.seq .x (.body (.loop ⟨[(84, [(3, .val 0), (31, .val 10), (32, .val 0), (33, .val 0)])], []⟩ (fun n z => z18 φ n z.1 z.2.1 z.2.2.1 z.2.2.2.1) (fun zk13 => .x)))) .x)))))
def z96 (P : Program) (φ : Nat) : Env TV := ⟨P, lk [(87, z8y φ)], lk [], lk []⟩
theorem zkf (φ : Nat) (a) : (z5z φ).F a = fnX TV (z96 Tryz.prog φ) φ Tryz.f61 [11] [.val 0] (z60 φ) a := by kernel_rfl
theorem zjo (φ : Nat) : fnO TV (z96 Tryz.prog φ) φ Tryz.f61 [.val 0] (z60 φ) := by
 unfold fnO
 show obl _ _ _ _ _ _ _
 unfold z60
 repeat' (first | exact trivial | (refine ⟨?_, ?_⟩) | (intro _) | kernel_rfl)
theorem zco (φ : Nat) : z13 TV Tryz.prog 61 (z5z φ) :=
 z1k (N := z96 Tryz.prog φ) (zx ⟨zkb φ, trivial⟩ trivial trivial) (z60 φ) Tryz.func61 (by kernel_rfl) (zkf φ) (zjo φ)
def z5t (φ : Nat) : H TV (RTup TT [.val 2]) := .x
def z8z (P : Program) (φ : Nat) : Env TV := ⟨P, lk [], lk [], lk []⟩
theorem zji (φ : Nat) (a) : (z69 φ).F a = fnX TV (z8z Tryz.prog φ) φ Tryz.f63 [0, 0, 0] [.val 2] (z5t φ) a := by kernel_rfl
theorem zjz (φ : Nat) : fnO TV (z8z Tryz.prog φ) φ Tryz.f63 [.val 2] (z5t φ) := by
 unfold fnO
 show obl _ _ _ _ _ _ _
 unfold z5t
 repeat' (first | exact trivial | (refine ⟨?_, ?_⟩) | (intro _) | kernel_rfl)
theorem zcr (φ : Nat) : z13 TV Tryz.prog 63 (z69 φ) :=
 z1k (N := z8z Tryz.prog φ) (zx trivial trivial trivial) (z5t φ) Tryz.func63 (by kernel_rfl) (zji φ) (zjz φ)
def z8a (φ : Nat) : H TV (RTup TT [.val 0]) := (.seq .x (.seq .x (.seq .x (.seq .x (.seq (.seq .x (.body (.loop ⟨[(206, [(1, .ptr 0 0), (3, .ptr 1 0), (4, .func 88 [.ptr 1 0]), (41, .val 13), (42, .val 0), (43, .val 0)])], [.box 31 [.val 20], .box 40 [.val 0]]⟩ (fun n z => z2q φ n z.1 z.2.1 z.2.2.1 z.2.2.2.1 z.2.2.2.2.1) (fun zk7 => (.seq .x (.seq .x (.seq (.body (.seq .x (.seq (.seq .x (.body (.loop ⟨[(206, [(1, .ptr 0 0), (3, .ptr 1 0), (4, .func 88 [.ptr 1 0]), (6, .ptr 2 0), (41, .val 13), (42, .val 0), (43, .val 0), (55, .own 3), (56, .val 0), (57, .val 0)])], [.box 31 [.val 20], .box 40 [.val 0], .box 155 [.val 12], .row 3 0]⟩ (fun n z => z1d φ (fun a0 a1 a2 a3 a4 => zk7 (a0, a1, a2, a3, a4, ())) n z.1 z.2.1 z.2.2.1 z.2.2.2.1 z.2.2.2.2.1 z.2.2.2.2.2.1 z.2.2.2.2.2.2.1 z.2.2.2.2.2.2.2.1 z.2.2.2.2.2.2.2.2.1) (fun zk17 => .x)))) .x))) .x))))))) (.seq (.seq .x (.body (.loop ⟨[(206, [(1, .ptr 0 0), (3, .ptr 1 0), (4, .func 88 [.ptr 1 0]), (83, .val 15), (84, .val 0), (85, .val 0)])], [.box 31 [.val 20], .box 40 [.val 0]]⟩ (fun n z => z04 φ n z.1 z.2.1 z.2.2.1 z.2.2.2.1 z.2.2.2.2.1) (fun zk27 => .x)))) (.seq (.seq .x (.body (.loop ⟨[(206, [(1, .ptr 0 0), (3, .ptr 1 0), (4, .func 88 [.ptr 1 0]), (120, .val 17), (121, .val 0), (122, .val 0)])], [.box 31 [.val 20], .box 40 [.val 0]]⟩ (fun n z => z0f φ n z.1 z.2.1 z.2.2.1 z.2.2.2.1 z.2.2.2.2.1) (fun zk40 => .x)))) (.seq .x (.seq (.seq .x (.body (.loop ⟨[(206, [(3, .ptr 0 0), (4, .func 88 [.ptr 0 0]), (13, .ptr 1 0), (158, .val 19), (159, .val 0), (160, .val 0)])], [.box 40 [.val 0], .box 174 [.val 36]]⟩ (fun n z => zm φ n z.1 z.2.1 z.2.2.1 z.2.2.2.1 z.2.2.2.2.1) (fun zk49 => .x)))) .x)))))))))
def zay (P : Program) (φ : Nat) : Env TV := ⟨P, lk [(63, z69 φ)], lk [], lk []⟩
theorem zn6 (φ : Nat) (a) : (zbv φ).F a = fnX TV (zay Tryz.prog φ) φ Tryz.f62 [20] [.val 0] (z8a φ) a := by kernel_rfl
theorem zmv (φ : Nat) : fnO TV (zay Tryz.prog φ) φ Tryz.f62 [.val 0] (z8a φ) := by
 unfold fnO
 show obl _ _ _ _ _ _ _
 unfold z8a
 repeat' (first | exact trivial | (refine ⟨?_, ?_⟩) | (intro _) | kernel_rfl)
theorem znm (φ : Nat) : z13 TV Tryz.prog 62 (zbv φ) :=
 z1k (N := zay Tryz.prog φ) (zx ⟨zcr φ, trivial⟩ trivial trivial) (z8a φ) Tryz.func62 (by kernel_rfl) (zn6 φ) (zmv φ)
def z4w (φ : Nat) : H TV (RTup TT [.val 0]) := (.seq .x (.seq (.seq .x (.body (.loop ⟨[(45, [(1, .ptr 0 0), (9, .val 26), (10, .val 0)])], [.box 117 [.val 27]]⟩ (fun n z => z23 φ n z.1 z.2.1 z.2.2.1) (fun zk5 => .x)))) (.seq .x (.seq (.seq .x (.body (.loop ⟨[(45, [(5, .val 0), (30, .val 5), (31, .val 0), (32, .val 0)])], []⟩ (fun n z => z1p φ n z.1 z.2.1 z.2.2.1 z.2.2.2.1) (fun zk10 => .x)))) .x))))
def z7w (P : Program) (φ : Nat) : Env TV := ⟨P, lk [], lk [], lk []⟩
theorem zic (φ : Nat) (a) : (z7y φ).F a = fnX TV (z7w Tryz.prog φ) φ Tryz.f64 [27] [.val 0] (z4w φ) a := by kernel_rfl
theorem zi4 (φ : Nat) : fnO TV (z7w Tryz.prog φ) φ Tryz.f64 [.val 0] (z4w φ) := by
 unfold fnO
 show obl _ _ _ _ _ _ _
 unfold z4w
 repeat' (first | exact trivial | (refine ⟨?_, ?_⟩) | (intro _) | kernel_rfl)
theorem zhx (φ : Nat) : z13 TV Tryz.prog 64 (z7y φ) :=
 z1k (N := z7w Tryz.prog φ) (zx trivial trivial trivial) (z4w φ) Tryz.func64 (by kernel_rfl) (zic φ) (zi4 φ)
def za4 (φ : Nat) : H TV (RTup TT [.val 6, .val 6]) := .x
def zd5 (P : Program) (φ : Nat) : Env TV := ⟨P, lk [], lk [], lk []⟩
theorem zpb (φ : Nat) (a) : (z9o φ).F a = fnX TV (zd5 Tryz.prog φ) φ Tryz.f129 [6, 6] [.val 6, .val 6] (za4 φ) a := by kernel_rfl
theorem zqa (φ : Nat) : fnO TV (zd5 Tryz.prog φ) φ Tryz.f129 [.val 6, .val 6] (za4 φ) := by
 unfold fnO
 show obl _ _ _ _ _ _ _
 unfold za4
 repeat' (first | exact trivial | (refine ⟨?_, ?_⟩) | (intro _) | kernel_rfl)
theorem zhq (φ : Nat) : z13 TV Tryz.prog 129 (z9o φ) :=
 z1k (N := zd5 Tryz.prog φ) (zx trivial trivial trivial) (za4 φ) Tryz.func129 (by kernel_rfl) (zpb φ) (zqa φ)
def z2m (φ : Nat) : H TV (RTup TT [.val 0]) := (.seq .x (.seq (.ins 1 114 (.seq .x (.seq (.join ⟨[(25, [(0, .val 6), (2, .val 0)]), (6, [])], []⟩ (fun z => z10 φ z.1 z.2.1) (.seq .x .x)) (.seq (.join ⟨[(25, [(0, .val 6), (2, .val 0)]), (6, [])], []⟩ (fun z => z12 φ z.1 z.2.1) (.seq .x .x)) (.seq (.join ⟨[(25, [(0, .val 6), (2, .val 0)]), (6, [])], []⟩ (fun z => z0u φ z.1 z.2.1) (.seq .x .x)) .x)))) .x) .x))
def z3l (P : Program) (φ : Nat) : Env TV := ⟨P, lk [], lk [], lk []⟩
theorem zd0 (φ : Nat) (a) : (z3o φ).F a = fnX TV (z3l Tryz.prog φ) φ Tryz.f157 [6] [.val 0] (z2m φ) a := by kernel_rfl
theorem zda (φ : Nat) : fnO TV (z3l Tryz.prog φ) φ Tryz.f157 [.val 0] (z2m φ) := by
 unfold fnO
 show obl _ _ _ _ _ _ _
 unfold z2m
 repeat' (first | exact trivial | (refine ⟨?_, ?_⟩) | (intro _) | kernel_rfl)
theorem zcg (φ : Nat) : z13 TV Tryz.prog 157 (z3o φ) :=
 z1k (N := z3l Tryz.prog φ) (zx trivial trivial trivial) (z2m φ) Tryz.func157 (by kernel_rfl) (zd0 φ) (zda φ)
def z9w (φ : Nat) : H TV (RTup TT [.val 6, .val 6]) := (.seq .x (.seq .x (.seq .x (.seq .x (.seq .x (.seq .x (.seq .x (.seq .x (.seq .x (.seq .x (.seq .x (.seq .x (.seq .x (.seq .x (.seq (.join ⟨[(135, [(2, .val 6), (8, .val 6), (9, .val 6), (10, .val 6), (11, .val 6), (13, .val 6), (14, .val 6), (15, .val 6)])], []⟩ (fun z => z4r φ z.1 z.2.1 z.2.2.1 z.2.2.2.1 z.2.2.2.2.1 z.2.2.2.2.2.1 z.2.2.2.2.2.2.1 z.2.2.2.2.2.2.2.1) (.body (.loop ⟨[(135, [(2, .val 6), (8, .val 6), (9, .val 6), (10, .val 6), (11, .val 6), (13, .val 6), (14, .val 6), (15, .val 6), (16, .val 6)])], []⟩ (fun n z => z4i φ n z.1 z.2.1 z.2.2.1 z.2.2.2.1 z.2.2.2.2.1 z.2.2.2.2.2.1 z.2.2.2.2.2.2.1 z.2.2.2.2.2.2.2.1 z.2.2.2.2.2.2.2.2.1) (fun zk40 => .x)))) (.seq .x (.seq .x (.seq .x (.seq (.join ⟨[(135, [(2, .val 6), (8, .val 6), (14, .val 6), (15, .val 6), (17, .val 6), (18, .val 6)])], []⟩ (fun z => z4h φ z.1 z.2.1 z.2.2.1 z.2.2.2.1 z.2.2.2.2.1 z.2.2.2.2.2.1) (.body (.loop ⟨[(135, [(2, .val 6), (8, .val 6), (9, .val 6), (10, .val 6), (14, .val 6), (15, .val 6), (16, .val 6), (17, .val 6), (18, .val 6)])], []⟩ (fun n z => z4g φ n z.1 z.2.1 z.2.2.1 z.2.2.2.1 z.2.2.2.2.1 z.2.2.2.2.2.1 z.2.2.2.2.2.2.1 z.2.2.2.2.2.2.2.1 z.2.2.2.2.2.2.2.2.1) (fun zk30 => .x)))) .x)))))))))))))))))))
def zcc (P : Program) (φ : Nat) : Env TV := ⟨P, lk [(157, z3o φ)], lk [], lk []⟩
theorem zor (φ : Nat) (a) : (zdf φ).F a = fnX TV (zcc Tryz.prog φ) φ Tryz.f145 [6, 6, 6] [.val 6, .val 6] (z9w φ) a := by kernel_rfl
theorem zoc (φ : Nat) : fnO TV (zcc Tryz.prog φ) φ Tryz.f145 [.val 6, .val 6] (z9w φ) := by
 unfold fnO
 show obl _ _ _ _ _ _ _
 unfold z9w
 repeat' (first | exact trivial | (refine ⟨?_, ?_⟩) | (intro _) | kernel_rfl)
theorem zpq (φ : Nat) : z13 TV Tryz.prog 145 (zdf φ) :=
 z1k (N := zcc Tryz.prog φ) (zx ⟨zcg φ, trivial⟩ trivial trivial) (z9w φ) Tryz.func145 (by kernel_rfl) (zor φ) (zoc φ)
def zdt (φ : Nat) : H TV (RTup TT [.val 6]) := (.seq .x (.seq .x (.seq .x (.seq (.seq (.ins 1 114 (.seq .x (.seq (.join ⟨[(25, [(0, .val 6), (2, .val 0)]), (33, [(0, .val 6), (1, .val 6), (5, .func 144 [.ptr 0 0]), (6, .val 6)])], [.box 118 [.val 6]]⟩ (fun z => z91 φ z.1 z.2.1 z.2.2.1 z.2.2.2.1 z.2.2.2.2.1 z.2.2.2.2.2.1) (.seq .x .x)) (.seq (.join ⟨[(25, [(0, .val 6), (2, .val 0)]), (33, [(0, .val 6), (1, .val 6), (5, .func 144 [.ptr 0 0]), (6, .val 6)])], [.box 118 [.val 6]]⟩ (fun z => z7h φ z.1 z.2.1 z.2.2.1 z.2.2.2.1 z.2.2.2.2.1 z.2.2.2.2.2.1) (.seq .x .x)) (.seq (.join ⟨[(25, [(0, .val 6), (2, .val 0)]), (33, [(0, .val 6), (1, .val 6), (5, .func 144 [.ptr 0 0]), (6, .val 6)])], [.box 118 [.val 6]]⟩ (fun z => z7n φ z.1 z.2.1 z.2.2.1 z.2.2.2.1 z.2.2.2.2.1 z.2.2.2.2.2.1) (.seq .x .x)) .x)))) .x) (.body (.loop ⟨[(33, [(0, .val 6), (1, .val 6), (5, .func 144 [.ptr 0 0]), (6, .val 6), (10, .val 0), (11, .val 0)])], [.box 118 [.val 6]]⟩ (fun n z => z08 φ n z.1 z.2.1 z.2.2.1 z.2.2.2.1 z.2.2.2.2.1 z.2.2.2.2.2.1) (fun zk30 => (.seq .x (.seq .x (.seq (.body (.seq .x (.seq .x (.seq (.ins 2 114 (.seq .x (.seq (.join ⟨[(25, [(0, .val 6), (2, .val 0)]), (33, [(0, .val 6), (1, .val 6), (5, .func 144 [.ptr 0 0]), (6, .val 6), (7, .val 0), (10, .val 0), (11, .val 0), (18, .val 6)])], [.box 118 [.val 6]]⟩ (fun z => z2j φ (fun a0 a1 a2 a3 a4 a5 => zk30 (a0, a1, a2, a3, a4, a5, ())) z.1 z.2.1 z.2.2.1 z.2.2.2.1 z.2.2.2.2.1 z.2.2.2.2.2.1 z.2.2.2.2.2.2.1 z.2.2.2.2.2.2.2.1 z.2.2.2.2.2.2.2.2.1 z.2.2.2.2.2.2.2.2.2.1) (.seq .x .x)) (.seq (.join ⟨[(25, [(0, .val 6), (2, .val 0)]), (33, [(0, .val 6), (1, .val 6), (5, .func 144 [.ptr 0 0]), (6, .val 6), (7, .val 0), (10, .val 0), (11, .val 0), (18, .val 6)])], [.box 118 [.val 6]]⟩ (fun z => z7l φ (fun a0 a1 a2 a3 a4 a5 => zk30 (a0, a1, a2, a3, a4, a5, ())) z.1 z.2.1 z.2.2.1 z.2.2.2.1 z.2.2.2.2.1 z.2.2.2.2.2.1 z.2.2.2.2.2.2.1 z.2.2.2.2.2.2.2.1 z.2.2.2.2.2.2.2.2.1 z.2.2.2.2.2.2.2.2.2.1) (.seq .x .x)) (.seq (.join ⟨[(25, [(0, .val 6), (2, .val 0)]), (33, [(0, .val 6), (1, .val 6), (5, .func 144 [.ptr 0 0]), (6, .val 6), (7, .val 0), (10, .val 0), (11, .val 0), (18, .val 6)])], [.box 118 [.val 6]]⟩ (fun z => z7m φ (fun a0 a1 a2 a3 a4 a5 => zk30 (a0, a1, a2, a3, a4, a5, ())) z.1 z.2.1 z.2.2.1 z.2.2.2.1 z.2.2.2.2.1 z.2.2.2.2.2.1 z.2.2.2.2.2.2.1 z.2.2.2.2.2.2.2.1 z.2.2.2.2.2.2.2.2.1 z.2.2.2.2.2.2.2.2.2.1) (.seq .x .x)) .x)))) .x) .x)))) .x))))))) .x))))
def zgg (P : Program) (φ : Nat) : Env TV := ⟨P, lk [(129, z9o φ), (145, zdf φ)], lk [], lk []⟩
theorem zut (φ : Nat) (a) : (zgn φ).F a = fnX TV (zgg Tryz.prog φ) φ Tryz.f89 [6, 6] [.val 6] (zdt φ) a := by kernel_rfl
theorem zvk (φ : Nat) : fnO TV (zgg Tryz.prog φ) φ Tryz.f89 [.val 6] (zdt φ) := by
 unfold fnO
 show obl _ _ _ _ _ _ _
 unfold zdt
 repeat' (first | exact trivial | (refine ⟨?_, ?_⟩) | (intro _) | kernel_rfl)
theorem zve (φ : Nat) : z13 TV Tryz.prog 89 (zgn φ) :=
 z1k (N := zgg Tryz.prog φ) (zx ⟨zhq φ, zpq φ, trivial⟩ trivial trivial) (zdt φ) Tryz.func89 (by kernel_rfl) (zut φ) (zvk φ)
def z9y (φ : Nat) : H TV (RTup TT [.val 2]) := .x
def zd9 (P : Program) (φ : Nat) : Env TV := ⟨P, lk [(89, zgn φ)], lk [], lk []⟩
theorem zq9 (φ : Nat) (a) : (zde φ).F a = fnX TV (zd9 Tryz.prog φ) φ Tryz.f65 [6] [.val 2] (z9y φ) a := by kernel_rfl
theorem zo2 (φ : Nat) : fnO TV (zd9 Tryz.prog φ) φ Tryz.f65 [.val 2] (z9y φ) := by
 unfold fnO
 show obl _ _ _ _ _ _ _
 unfold z9y
 repeat' (first | exact trivial | (refine ⟨?_, ?_⟩) | (intro _) | kernel_rfl)
theorem zo7 (φ : Nat) : z13 TV Tryz.prog 65 (zde φ) :=
 z1k (N := zd9 Tryz.prog φ) (zx ⟨zve φ, trivial⟩ trivial trivial) (z9y φ) Tryz.func65 (by kernel_rfl) (zq9 φ) (zo2 φ)
def z3w (φ : Nat) : H TV (RTup TT [.val 0]) := (.seq .x (.seq .x (.seq .x (.seq .x (.seq .x (.seq .x (.seq (.seq .x (.body (.loop ⟨[(193, [(1, .ptr 0 0), (5, .val 8), (6, .val 0), (7, .val 2), (57, .val 22), (58, .val 0), (59, .val 0)])], [.box 36 [.val 30]]⟩ (fun n z => z14 φ n z.1 z.2.1 z.2.2.1 z.2.2.2.1 z.2.2.2.2.1 z.2.2.2.2.2.1 z.2.2.2.2.2.2.1) (fun zk11 => .x)))) (.seq (.seq .x (.body (.loop ⟨[(193, [(1, .ptr 0 0), (5, .val 8), (6, .val 0), (7, .val 2), (92, .val 24), (93, .val 0), (94, .val 0)])], [.box 36 [.val 30]]⟩ (fun n z => z0o φ n z.1 z.2.1 z.2.2.1 z.2.2.2.1 z.2.2.2.2.1 z.2.2.2.2.2.1 z.2.2.2.2.2.2.1) (fun zk20 => .x)))) (.seq (.seq .x (.body (.loop ⟨[(193, [(1, .ptr 0 0), (5, .val 8), (6, .val 0), (7, .val 2), (120, .val 15), (121, .val 0), (122, .val 0)])], [.box 36 [.val 30]]⟩ (fun n z => z0r φ n z.1 z.2.1 z.2.2.1 z.2.2.2.1 z.2.2.2.2.1 z.2.2.2.2.2.1 z.2.2.2.2.2.2.1) (fun zk29 => .x)))) (.seq (.seq .x (.body (.loop ⟨[(193, [(1, .ptr 0 0), (6, .val 0), (7, .val 2), (135, .val 8), (136, .val 0), (137, .val 0)])], [.box 36 [.val 30]]⟩ (fun n z => z0m φ n z.1 z.2.1 z.2.2.1 z.2.2.2.1 z.2.2.2.2.1 z.2.2.2.2.2.1) (fun zk36 => .x)))) (.seq (.seq .x (.body (.loop ⟨[(193, [(1, .ptr 0 0), (6, .val 0), (7, .val 2), (157, .val 10), (158, .val 0), (159, .val 0)])], [.box 36 [.val 30]]⟩ (fun n z => z0q φ n z.1 z.2.1 z.2.2.1 z.2.2.2.1 z.2.2.2.2.1 z.2.2.2.2.2.1) (fun zk43 => .x)))) (.seq (.seq .x (.body (.loop ⟨[(193, [(7, .val 2), (172, .val 29), (173, .val 0), (174, .val 0)])], []⟩ (fun n z => z0n φ n z.1 z.2.1 z.2.2.1 z.2.2.2.1) (fun zk48 => .x)))) .x))))))))))))
def z79 (P : Program) (φ : Nat) : Env TV := ⟨P, lk [(61, z5z φ), (62, zbv φ), (63, z69 φ), (64, z7y φ), (65, zde φ)], lk [], lk []⟩
theorem zgp (φ : Nat) (a) : (z44 φ).F a = fnX TV (z79 Tryz.prog φ) φ Tryz.f40 [30] [.val 0] (z3w φ) a := by kernel_rfl
theorem zh5 (φ : Nat) : fnO TV (z79 Tryz.prog φ) φ Tryz.f40 [.val 0] (z3w φ) := by
 unfold fnO
 show obl _ _ _ _ _ _ _
 unfold z3w
 repeat' (first | exact trivial | (refine ⟨?_, ?_⟩) | (intro _) | kernel_rfl)
theorem zav (φ : Nat) : z13 TV Tryz.prog 40 (z44 φ) :=
 z1k (N := z79 Tryz.prog φ) (zx ⟨zco φ, znm φ, zcr φ, zhx φ, zo7 φ, trivial⟩ trivial trivial) (z3w φ) Tryz.func40 (by kernel_rfl) (zgp φ) (zh5 φ)
def z5l (φ : Nat) : H TV (RTup TT [.val 2]) := .x
def z8r (P : Program) (φ : Nat) : Env TV := ⟨P, lk [], lk [], lk []⟩
theorem zkc (φ : Nat) (a) : (z9b φ).F a = fnX TV (z8r Tryz.prog φ) φ Tryz.f115 [34] [.val 2] (z5l φ) a := by kernel_rfl
theorem zin (φ : Nat) : fnO TV (z8r Tryz.prog φ) φ Tryz.f115 [.val 2] (z5l φ) := by
 unfold fnO
 show obl _ _ _ _ _ _ _
 unfold z5l
 repeat' (first | exact trivial | (refine ⟨?_, ?_⟩) | (intro _) | kernel_rfl)
theorem zkj (φ : Nat) : z13 TV Tryz.prog 115 (z9b φ) :=
 z1k (N := z8r Tryz.prog φ) (zx trivial trivial trivial) (z5l φ) Tryz.func115 (by kernel_rfl) (zkc φ) (zin φ)
def zbe (φ : Nat) : H TV (RTup TT [.val 2]) := (.seq .x (.seq (.seq .x (.body (.loop ⟨[(43, [(0, .val 33), (1, .val 2), (7, .val 33), (8, .val 0), (9, .val 0)])], []⟩ (fun n z => z5b φ n z.1 z.2.1 z.2.2.1 z.2.2.2.1 z.2.2.2.2.1) (fun zk8 => .x)))) .x))
def zef (P : Program) (φ : Nat) : Env TV := ⟨P, lk [], lk [], lk []⟩
theorem zre (φ : Nat) (a) : (zeg φ).F a = fnX TV (zef Tryz.prog φ) φ Tryz.f165 [33, 2] [.val 2] (zbe φ) a := by kernel_rfl
theorem zro (φ : Nat) : fnO TV (zef Tryz.prog φ) φ Tryz.f165 [.val 2] (zbe φ) := by
 unfold fnO
 show obl _ _ _ _ _ _ _
 unfold zbe
 repeat' (first | exact trivial | (refine ⟨?_, ?_⟩) | (intro _) | kernel_rfl)
theorem zs7 (φ : Nat) : z13 TV Tryz.prog 165 (zeg φ) :=
 z1k (N := zef Tryz.prog φ) (zx trivial trivial trivial) (zbe φ) Tryz.func165 (by kernel_rfl) (zre φ) (zro φ)
def za1 (φ : Nat) : H TV (RTup TT [.val 2]) := (.seq .x (.seq .x (.seq (.join ⟨[(46, [(5, .ptr 0 0)])], [.box 225 [.val 37]]⟩ (fun z => zc φ z.1) (.seq .x (.cond (.ins 0 146 (.seq .x (.seq .x (.seq .x (.seq .x (.body (.seq .x (.cond .x (.seq .x (.cond (.seq (.ins 1 161 (.seq .x (.seq (.join ⟨[(66, [(0, .ptr 0 0), (1, .val 0), (4, .ptr 1 0)]), (135, [(0, .ptr 0 0)]), (46, [(5, .ptr 0 0)])], [.box 225 [.val 37], .box 138 [.val 7]]⟩ (fun z => z5i φ z.1 z.2.1 z.2.2.1) (.seq .x .x)) .x)) .x) .x) (.seq (.join ⟨[(135, [(0, .ptr 0 0), (2, .ptr 0 9), (20, .val 0), (43, .val 2)]), (46, [(5, .ptr 0 0)])], [.box 225 [.val 37]]⟩ (fun z => z4k φ z.1 z.2.1 z.2.2.1) (.seq .x .x)) (.cond (.seq (.ins 1 161 (.seq .x (.seq (.join ⟨[(66, [(0, .ptr 0 0), (1, .val 0), (4, .ptr 1 0)]), (135, [(0, .ptr 0 0), (2, .ptr 0 9)]), (46, [(5, .ptr 0 0)])], [.box 225 [.val 37], .box 138 [.val 7]]⟩ (fun z => z4q φ z.1 z.2.1 z.2.2.1) (.seq .x .x)) .x)) .x) .x) (.seq .x (.cond (.seq .x (.seq .x (.seq (.ins 1 161 (.seq .x (.seq (.join ⟨[(66, [(0, .ptr 0 0), (1, .val 0), (4, .ptr 1 0)]), (135, [(0, .ptr 0 0), (2, .ptr 0 9)]), (46, [(5, .ptr 0 0)])], [.box 225 [.val 37], .box 138 [.val 7]]⟩ (fun z => z4o φ z.1 z.2.1 z.2.2.1) (.seq .x .x)) .x)) .x) .x))) (.seq (.join ⟨[(135, [(0, .ptr 0 0), (2, .ptr 0 9), (116, .val 2)]), (46, [(5, .ptr 0 0)])], [.box 225 [.val 37]]⟩ (fun z => z4e φ z.1 z.2.1) (.seq .x .x)) (.cond (.seq (.ins 1 161 (.seq .x (.seq (.join ⟨[(66, [(0, .ptr 0 0), (1, .val 0), (4, .ptr 1 0)]), (135, [(0, .ptr 0 0), (2, .ptr 0 9)]), (46, [(5, .ptr 0 0)])], [.box 225 [.val 37], .box 138 [.val 7]]⟩ (fun z => z4m φ z.1 z.2.1 z.2.2.1) (.seq .x .x)) .x)) .x) .x) .x))))))))))))))) .x) (.ins 0 147 (.seq .x (.seq .x (.body (.seq .x (.cond .x (.seq .x (.cond (.seq .x (.seq (.ins 1 161 (.seq .x (.seq (.join ⟨[(66, [(0, .ptr 0 0), (1, .val 0), (4, .ptr 1 0)]), (168, [(0, .ptr 0 0), (2, .ptr 0 9)]), (46, [(5, .ptr 0 0)])], [.box 225 [.val 37], .box 138 [.val 7]]⟩ (fun z => z4l φ z.1 z.2.1 z.2.2.1) (.seq .x .x)) .x)) .x) .x)) (.seq .x (.cond .x (.seq (.join ⟨[(168, [(0, .ptr 0 0), (2, .ptr 0 9), (9, .val 0), (91, .val 2)]), (46, [(5, .ptr 0 0)])], [.box 225 [.val 37]]⟩ (fun z => z2p φ z.1 z.2.1 z.2.2.1) (.seq .x .x)) (.cond .x (.seq .x (.cond .x (.seq .x (.cond (.seq .x (.seq (.ins 1 161 (.seq .x (.seq (.join ⟨[(66, [(0, .ptr 0 0), (1, .val 0), (4, .ptr 1 0)]), (168, [(0, .ptr 0 0), (2, .ptr 0 9)]), (46, [(5, .ptr 0 0)])], [.box 225 [.val 37], .box 138 [.val 7]]⟩ (fun z => z4n φ z.1 z.2.1 z.2.2.1) (.seq .x .x)) .x)) .x) .x)) .x))))))))))))))) .x)))) (.seq (.seq .x (.body (.unr 12 .x))) .x))))
def zck (P : Program) (φ : Nat) : Env TV := ⟨P, lk [(165, zeg φ)], lk [], lk []⟩
theorem zo1 (φ : Nat) (a) : (zcy φ).F a = fnX TV (zck Tryz.prog φ) φ Tryz.f116 [30, 34] [.val 2] (za1 φ) a := by kernel_rfl
theorem zo0 (φ : Nat) : fnO TV (zck Tryz.prog φ) φ Tryz.f116 [.val 2] (za1 φ) := by
 unfold fnO
 show obl _ _ _ _ _ _ _
 unfold za1
 repeat' (first | exact trivial | (refine ⟨?_, ?_⟩) | (intro _) | kernel_rfl)
theorem zqi (φ : Nat) : z13 TV Tryz.prog 116 (zcy φ) :=
 z1k (N := zck Tryz.prog φ) (zx ⟨zs7 φ, trivial⟩ trivial trivial) (za1 φ) Tryz.func116 (by kernel_rfl) (zo1 φ) (zo0 φ)
def zbr (φ : Nat) : H TV (RTup TT [.val 0]) := .x
def zer (P : Program) (φ : Nat) : Env TV := ⟨P, lk [(40, z44 φ), (115, z9b φ), (116, zcy φ)], lk [], lk []⟩
theorem zrl (φ : Nat) (a) : (zeu φ).F a = fnX TV (zer Tryz.prog φ) φ Tryz.f90 [30, 34] [.val 0] (zbr φ) a := by kernel_rfl
theorem zr6 (φ : Nat) : fnO TV (zer Tryz.prog φ) φ Tryz.f90 [.val 0] (zbr φ) := by
 unfold fnO
 show obl _ _ _ _ _ _ _
 unfold zbr
 repeat' (first | exact trivial | (refine ⟨?_, ?_⟩) | (intro _) | kernel_rfl)
theorem zs8 (φ : Nat) : z13 TV Tryz.prog 90 (zeu φ) :=
 z1k (N := zer Tryz.prog φ) (zx ⟨zav φ, zkj φ, zqi φ, trivial⟩ trivial trivial) (zbr φ) Tryz.func90 (by kernel_rfl) (zrl φ) (zr6 φ)
def z5k (φ : Nat) : H TV (RTup TT [.val 5]) := (.seq .x (.seq .x (.seq (.seq .x (.body (.loop ⟨[(26, [(2, .ptr 0 0), (5, .own 1), (8, .val 38), (9, .val 0), (10, .val 0)])], [.box 36 [.val 30], .row 3 0]⟩ (fun n z => z1x φ n z.1 z.2.1 z.2.2.1 z.2.2.2.1 z.2.2.2.2.1) (fun zk8 => .x)))) .x)))
def z98 (P : Program) (φ : Nat) : Env TV := ⟨P, lk [(90, zeu φ)], lk [], lk []⟩
theorem zju (φ : Nat) (a) : (z92 φ).F a = fnX TV (z98 Tryz.prog φ) φ Tryz.f66 [30, 38] [.val 5] (z5k φ) a := by kernel_rfl
theorem zis (φ : Nat) : fnO TV (z98 Tryz.prog φ) φ Tryz.f66 [.val 5] (z5k φ) := by
 unfold fnO
 show obl _ _ _ _ _ _ _
 unfold z5k
 repeat' (first | exact trivial | (refine ⟨?_, ?_⟩) | (intro _) | kernel_rfl)
theorem zix (φ : Nat) : z13 TV Tryz.prog 66 (z92 φ) :=
 z1k (N := z98 Tryz.prog φ) (zx ⟨zs8 φ, trivial⟩ trivial trivial) (z5k φ) Tryz.func66 (by kernel_rfl) (zju φ) (zis φ)
def z3i (φ : Nat) : H TV (RTup TT [.val 4]) := .x
def z65 (P : Program) (φ : Nat) : Env TV := ⟨P, lk [], lk [], lk []⟩
theorem zg5 (φ : Nat) (a b) : (z5r φ).F a b = fnXc TV (z65 Tryz.prog φ) φ Tryz.f91 [0, 0] [.b (.val 34), .b (.val 35), .b (.val 0)] [.val 4] (z3i φ) a b := by kernel_rfl
theorem zfi (φ : Nat) : fnO TV (z65 Tryz.prog φ) φ Tryz.f91 [.val 4] (z3i φ) := by
 unfold fnO
 show obl _ _ _ _ _ _ _
 unfold z3i
 repeat' (first | exact trivial | (refine ⟨?_, ?_⟩) | (intro _) | kernel_rfl)
theorem zf8 (φ : Nat) : zqw TV Tryz.prog 91 (z5r φ) :=
 zug (N := z65 Tryz.prog φ) (zx trivial trivial trivial) (z3i φ) Tryz.func91 (by kernel_rfl) (zg5 φ) (zfi φ)
theorem zcu (φ : Nat) (x14 : Item) (x15 : z7) (x16 : Int) : zu (z1r φ x14 x15 x16) (z56 φ x14 x15 x16) := by
 unfold z1r z56
 repeat' (first | exact zu.one | exact zu.nil | refine zu.cons ?_ ?_ | refine zu.ck ?_ | exact zu.same (n := 2) rfl | exact zu.same (n := 3) rfl | exact zu.same (n := 4) rfl | exact zu.same (n := 6) rfl | refine zu.bind fun _ => ?_)
def z4t (φ : Nat) : H TV (RTup TT [.val 39]) := (.seq .x (.seq .x (.seq .x (.seq (.seq .x (.body (.seq .x (.cond .x (.seq (.join ⟨[(68, [(7, .ptr 0 0), (8, .func 91 [.ptr 0 0, .ptr 1 0, .ptr 2 0]), (16, .val 0), (35, .val 2)])], [.box 59 [.val 34], .box 61 [.val 35], .box 3 [.val 0]]⟩ (fun z => zz φ z.1 z.2.1 z.2.2.1 z.2.2.2.1 z.2.2.2.2.1) (.seq .x .x)) (.cond (.seq (.join ⟨[(68, [(10, .ptr 0 0), (11, .ptr 1 0)])], [.box 97 [.val 4], .box 97 [.val 4]]⟩ (fun z => z1l φ z.1 z.2.1) (.alt ⟨[(68, [(7, .ptr 0 0), (8, .func 91 [.ptr 0 0, .ptr 1 0, .ptr 2 0])])], [.box 59 [.val 34], .box 61 [.val 35], .box 3 [.val 0]]⟩ (fun z => z1r φ z.1 z.2.1 z.2.2.1) (fun z => z56 φ z.1 z.2.1 z.2.2.1))) .x) (.seq (.join ⟨[(68, [(7, .ptr 0 0), (8, .func 91 [.ptr 0 0, .ptr 1 0, .ptr 2 0]), (56, .val 2)])], [.box 59 [.val 34], .box 61 [.val 35], .box 3 [.val 0]]⟩ (fun z => zy φ z.1 z.2.1 z.2.2.1 z.2.2.2.1) (.seq .x .x)) .x))))))) .x))))
def z7q (P : Program) (φ : Nat) : Env TV := ⟨P, lk [], lk [], lk [(91, z5r φ)]⟩
theorem zhv (φ : Nat) (a) : (z7u φ).F a = fnX TV (z7q Tryz.prog φ) φ Tryz.f67 [30, 35, 0] [.val 39] (z4t φ) a := by kernel_rfl
theorem zib (φ : Nat) : fnO TV (z7q Tryz.prog φ) φ Tryz.f67 [.val 39] (z4t φ) := by
 unfold fnO
 show obl _ _ _ _ _ _ _
 unfold z4t
 repeat' (first | exact trivial | (refine ⟨?_, ?_⟩) | (intro _) | kernel_rfl | exact zcu ..)
theorem zi8 (φ : Nat) : z13 TV Tryz.prog 67 (z7u φ) :=
 z1k (N := z7q Tryz.prog φ) (zx trivial trivial ⟨zf8 φ, trivial⟩) (z4t φ) Tryz.func67 (by kernel_rfl) (zhv φ) (zib φ)
def z7d (φ : Nat) : H TV (RTup TT [.val 40]) := (.seq .x (.seq .x (.seq (.seq .x (.body (.loop ⟨[(63, [(1, .val 38), (2, .ptr 0 0), (5, .own 1), (19, .val 5), (20, .val 0), (21, .val 0)])], [.box 36 [.val 30], .nst 93 97 39 none]⟩ (fun n z => z1y φ n z.1 z.2.1 z.2.2.1 z.2.2.2.1 z.2.2.2.2.1 z.2.2.2.2.2.1) (fun zk10 => (.seq .x (.seq .x (.seq (.body (.seq .x (.seq .x (.seq .x (.cond (.seq .x (.foc (5, none) (9, none) .x)) .x))))) .x))))))) (.seq (.seq .x (.body (.loop ⟨[(63, [(5, .own 0), (51, .own 0), (52, .val 0), (53, .val 0)])], [.nst 93 97 39 none]⟩ (fun n z => z0x φ n z.1 z.2.1 z.2.2.1) (fun zk15 => (.seq .x (.seq .x (.seq (.body (.seq (.foc (5, none) (53, none) .x) (.seq .x (.ins 1 71 (.seq .x (.seq .x (.body (.loop ⟨[(48, [(0, .own 0), (2, .own 1), (6, .val 0), (7, .val 0)]), (63, [(5, .own 2), (51, .own 2), (52, .val 0), (53, .val 0)])], [.row 97 4, .map 0 2, .nst 93 97 39 (some 0)]⟩ (fun n z => z0g φ (fun a0 a1 a2 => zk15 (a0, a1, a2, ())) n z.1 z.2.1 z.2.2.1 z.2.2.2.1 z.2.2.2.2.1 z.2.2.2.2.2.1 z.2.2.2.2.2.2.1 z.2.2.2.2.2.2.2.1) (fun zk25 => (.seq .x (.seq .x (.seq (.body (.seq .x (.seq (.join ⟨[(48, [(0, .own 0), (2, .own 1), (3, .val 0), (6, .val 0), (7, .val 0)]), (63, [(5, .own 2), (51, .own 2), (52, .val 0), (53, .val 0)])], [.row 97 4, .map 0 2, .nst 93 97 39 (some 0)]⟩ (fun z => z2g φ (fun a0 a1 a2 a3 a4 a5 a6 a7 => zk25 (a0, a1, a2, a3, a4, a5, a6, a7, ())) z.1 z.2.1 z.2.2.1 z.2.2.2.1 z.2.2.2.2.1 z.2.2.2.2.2.1 z.2.2.2.2.2.2.1 z.2.2.2.2.2.2.2.1 z.2.2.2.2.2.2.2.2.1) (.seq .x .x)) .x))) .x)))))))) .x)))) .x))))))) .x))))
def zag (P : Program) (φ : Nat) : Env TV := ⟨P, lk [(66, z92 φ), (67, z7u φ)], lk [(68, zty)], lk []⟩
theorem zkz (φ : Nat) (a) : (za7 φ).F a = fnX TV (zag Tryz.prog φ) φ Tryz.f41 [30, 38] [.val 40] (z7d φ) a := by kernel_rfl
theorem zl6 (φ : Nat) : fnO TV (zag Tryz.prog φ) φ Tryz.f41 [.val 40] (z7d φ) := by
 unfold fnO
 show obl _ _ _ _ _ _ _
 unfold z7d
 repeat' (first | exact trivial | (refine ⟨?_, ?_⟩) | (intro _) | kernel_rfl)
theorem zl2 (φ : Nat) : z13 TV Tryz.prog 41 (za7 φ) :=
 z1k (N := zag Tryz.prog φ) (zx ⟨zix φ, zi8 φ, trivial⟩ ⟨y2i, trivial⟩ trivial) (z7d φ) Tryz.func41 (by kernel_rfl) (zkz φ) (zl6 φ)
def z3r (φ : Nat) : H TV (RTup TT [.val 0, .val 0]) := (.seq .x (.seq (.ins 4 94 (.seq .x (.seq .x (.seq (.seq .x (.body (.loop ⟨[(77, [(2, .ptr 0 0), (4, .ptr 1 0), (19, .own 2), (20, .val 0), (21, .val 0)]), (30, [(1, .val 0), (2, .val 0), (3, .ptr 3 0)])], [.box 25 [.val 11], .box 186 [.own 4, .raw (.map none)], .row 3 0, .box 25 [.val 11], .row 62 5]⟩ (fun n z => z02 φ n z.1 z.2.1 z.2.2.1 z.2.2.2.1 z.2.2.2.2.1 z.2.2.2.2.2.1 z.2.2.2.2.2.2.1 z.2.2.2.2.2.2.2.1) (fun zk13 => .x)))) (.seq .x (.seq .x (.seq (.seq .x (.body (.loop ⟨[(77, [(4, .ptr 0 0), (8, .func 126 [.ptr 0 0, .ptr 1 0]), (44, .val 10), (45, .val 0), (46, .val 0)]), (30, [(1, .val 0), (2, .val 0), (3, .ptr 2 0)])], [.box 186 [.own 3, .own 4], .box 25 [.val 11], .box 25 [.val 11], .nst 62 3 5 none, .map 41 0]⟩ (fun n z => zj φ n z.1 z.2.1 z.2.2.1 z.2.2.2.1 z.2.2.2.2.1 z.2.2.2.2.2.1 z.2.2.2.2.2.2.1 z.2.2.2.2.2.2.2.1 z.2.2.2.2.2.2.2.2.1) (fun zk23 => (.seq .x (.seq .x (.seq (.body (.seq .x (.seq (.ins 6 126 (.seq .x (.seq .x (.seq (.join ⟨[(56, [(2, .val 0), (3, .ptr 0 0), (4, .ptr 1 0), (8, .ptr 2 0), (9, .val 0), (10, .val 2)]), (77, [(4, .ptr 0 0), (8, .func 126 [.ptr 0 0, .ptr 1 0]), (9, .val 0), (10, .ptr 3 0), (44, .val 10), (45, .val 0), (46, .val 0)]), (30, [(1, .val 0), (2, .val 0), (3, .ptr 4 0)])], [.box 186 [.own 5, .own 6], .box 25 [.val 11], .box 210 [.val 41], .box 112 [.val 9], .box 25 [.val 11], .nst 62 3 5 none, .map 41 0]⟩ (fun z => z27 φ (fun a0 a1 a2 a3 a4 a5 a6 a7 a8 => zk23 (a0, a1, a2, a3, a4, a5, a6, a7, a8, ())) z.1 z.2.1 z.2.2.1 z.2.2.2.1 z.2.2.2.2.1 z.2.2.2.2.2.1 z.2.2.2.2.2.2.1 z.2.2.2.2.2.2.2.1 z.2.2.2.2.2.2.2.2.1 z.2.2.2.2.2.2.2.2.2.1 z.2.2.2.2.2.2.2.2.2.2.1 z.2.2.2.2.2.2.2.2.2.2.2.1 z.2.2.2.2.2.2.2.2.2.2.2.2.1 z.2.2.2.2.2.2.2.2.2.2.2.2.2.1 z.2.2.2.2.2.2.2.2.2.2.2.2.2.2.1) (.seq .x (.cond (.foc (3, some 0) (0, none) .x) .x))) .x))) .x) (.ins 6 126 (.seq .x (.seq .x (.seq (.join ⟨[(56, [(2, .val 0), (3, .ptr 0 0), (4, .ptr 1 0), (8, .ptr 2 0), (9, .val 0), (10, .val 2)]), (77, [(4, .ptr 0 0), (8, .func 126 [.ptr 0 0, .ptr 1 0]), (44, .val 10), (45, .val 0), (46, .val 0)]), (30, [(1, .val 0), (2, .val 0), (3, .ptr 3 0)])], [.box 186 [.own 4, .own 5], .box 25 [.val 11], .box 210 [.val 41], .box 25 [.val 11], .nst 62 3 5 none, .map 41 0]⟩ (fun z => z26 φ (fun a0 a1 a2 a3 a4 a5 a6 a7 a8 => zk23 (a0, a1, a2, a3, a4, a5, a6, a7, a8, ())) z.1 z.2.1 z.2.2.1 z.2.2.2.1 z.2.2.2.2.1 z.2.2.2.2.2.1 z.2.2.2.2.2.2.1 z.2.2.2.2.2.2.2.1 z.2.2.2.2.2.2.2.2.1 z.2.2.2.2.2.2.2.2.2.1 z.2.2.2.2.2.2.2.2.2.2.1 z.2.2.2.2.2.2.2.2.2.2.2.1 z.2.2.2.2.2.2.2.2.2.2.2.2.1) (.seq .x (.cond (.foc (3, some 0) (0, none) .x) .x))) .x))) .x)))) .x))))))) (.seq (.seq .x (.body (.loop ⟨[(77, [(4, .ptr 0 0), (67, .own 1), (68, .val 0), (69, .val 0)]), (30, [(1, .val 0), (2, .val 0), (3, .ptr 2 0)])], [.box 186 [.own 1, .own 3], .nst 62 3 5 none, .box 25 [.val 11], .map 41 0]⟩ (fun n z => z0l φ n z.1 z.2.1 z.2.2.1 z.2.2.2.1 z.2.2.2.2.1 z.2.2.2.2.2.1 z.2.2.2.2.2.2.1) (fun zk75 => (.seq .x (.seq .x (.seq (.body (.seq (.foc (67, none) (69, none) .x) .x)) .x))))))) .x))))))) .x) (.seq .x (.seq (.seq (.ins 3 95 (.seq .x (.seq .x (.seq .x (.seq (.seq .x (.body (.loop ⟨[(118, [(2, .val 0), (3, .ptr 0 0), (4, .ptr 1 0), (7, .own 2), (8, .own 3), (23, .val 0), (24, .val 0)]), (30, [(2, .val 0)])], [.box 25 [.val 11], .box 186 [.own 4, .own 5], .row 3 0, .fix 4 2, .nst 62 3 5 none, .map 41 0]⟩ (fun n z => zr φ n z.1 z.2.1 z.2.2.1 z.2.2.2.1 z.2.2.2.2.1 z.2.2.2.2.2.1 z.2.2.2.2.2.2.1 z.2.2.2.2.2.2.2.1 z.2.2.2.2.2.2.2.2.1) (fun zk86 => .x)))) (.seq .x (.body (.loop ⟨[(118, [(3, .ptr 0 0), (4, .ptr 1 0), (7, .own 2), (8, .own 3)]), (30, [(2, .val 0)])], [.box 25 [.val 11], .box 186 [.own 4, .own 5], .row 3 0, .fix 4 2, .nst 62 3 5 none, .map 41 0]⟩ (fun n z => zl φ n z.1 z.2.1 z.2.2.1 z.2.2.2.1 z.2.2.2.2.1 z.2.2.2.2.2.1) (fun zk93 => (.body (.seq .x (.seq (.seq .x (.body (.loop ⟨[(118, [(3, .ptr 0 0), (4, .ptr 1 0), (7, .own 2), (8, .own 3), (10, .val 0), (35, .val 0), (36, .val 0)]), (30, [(2, .val 0)])], [.box 25 [.val 11], .box 186 [.own 4, .own 5], .row 3 0, .fix 4 2, .nst 62 3 5 none, .map 41 0]⟩ (fun n z => z0c φ (fun a0 a1 a2 a3 a4 a5 => zk93 (a0, a1, a2, a3, a4, a5, ())) n z.1 z.2.1 z.2.2.1 z.2.2.2.1 z.2.2.2.2.1 z.2.2.2.2.2.1 z.2.2.2.2.2.2.1 z.2.2.2.2.2.2.2.1 z.2.2.2.2.2.2.2.2.1) (fun zk103 => .x)))) (.seq .x (.seq .x (.seq (.foc (4, some 0) (10, none) .x) (.body (.loop ⟨[(118, [(3, .ptr 0 0), (4, .ptr 1 0), (7, .own 2), (8, .own 3), (10, .val 0), (78, .own 4), (79, .val 0), (80, .val 0)]), (30, [(2, .val 0)])], [.box 25 [.val 11], .box 186 [.own 5, .own 6], .row 3 0, .fix 4 2, .row 3 0, .nst 62 3 5 (some 4), .map 41 0]⟩ (fun n z => z0a φ (fun a0 a1 a2 a3 a4 a5 => zk93 (a0, a1, a2, a3, a4, a5, ())) n z.1 z.2.1 z.2.2.1 z.2.2.2.1 z.2.2.2.2.1 z.2.2.2.2.2.1 z.2.2.2.2.2.2.1 z.2.2.2.2.2.2.2.1 z.2.2.2.2.2.2.2.2.1 z.2.2.2.2.2.2.2.2.2.1 z.2.2.2.2.2.2.2.2.2.2.1) (fun zk115 => .x))))))))))))))))) .x) .x) .x))))
def z6o (P : Program) (φ : Nat) : Env TV := ⟨P, lk [(61, z5z φ)], lk [(127, zpo)], lk []⟩
theorem zh3 (φ : Nat) (a) : (z71 φ).F a = fnX TV (z6o Tryz.prog φ) φ Tryz.f72 [11, 0, 0] [.val 0, .val 0] (z3r φ) a := by kernel_rfl
theorem zgs (φ : Nat) : fnO TV (z6o Tryz.prog φ) φ Tryz.f72 [.val 0, .val 0] (z3r φ) := by
 unfold fnO
 show obl _ _ _ _ _ _ _
 unfold z3r
 repeat' (first | exact trivial | (refine ⟨?_, ?_⟩) | (intro _) | kernel_rfl)
theorem zhf (φ : Nat) : z13 TV Tryz.prog 72 (z71 φ) :=
 z1k (N := z6o Tryz.prog φ) (zx ⟨zco φ, trivial⟩ ⟨zx9, trivial⟩ trivial) (z3r φ) Tryz.func72 (by kernel_rfl) (zh3 φ) (zgs φ)
def z7b (φ : Nat) : H TV (RTup TT [.val 0]) := .x
def za8 (P : Program) (φ : Nat) : Env TV := ⟨P, lk [(72, z71 φ)], lk [], lk []⟩
theorem zl8 (φ : Nat) (a) : (zah φ).F a = fnX TV (za8 Tryz.prog φ) φ Tryz.f43 [11, 3, 3] [.val 0] (z7b φ) a := by kernel_rfl
theorem zkv (φ : Nat) : fnO TV (za8 Tryz.prog φ) φ Tryz.f43 [.val 0] (z7b φ) := by
 unfold fnO
 show obl _ _ _ _ _ _ _
 unfold z7b
 repeat' (first | exact trivial | (refine ⟨?_, ?_⟩) | (intro _) | kernel_rfl)
theorem zl5 (φ : Nat) : z13 TV Tryz.prog 43 (zah φ) :=
 z1k (N := za8 Tryz.prog φ) (zx ⟨zhf φ, trivial⟩ trivial trivial) (z7b φ) Tryz.func43 (by kernel_rfl) (zl8 φ) (zkv φ)
end Px
end
section
set_option linter.unusedVariables false
set_option linter.unusedSimpArgs false
set_option maxHeartbeats 4000000
set_option maxRecDepth 100000
namespace Px
open Go Go.RowKit Go.Proofs
def z88 (φ : Nat) : H TV (RTup TT [.val 48, .val 0]) := (.seq .x (.seq .x (.seq .x (.seq .x (.seq .x (.seq (.seq .x (.body (.loop ⟨[(257, [(2, .ptr 0 0), (4, .ptr 1 0), (7, .val 40), (8, .ptr 2 0), (9, .own 3), (40, .val 40), (41, .val 0), (42, .val 0)])], [.box 36 [.val 30], .box 68 [.val 0, .own 4, .own 5, .own 6], .box 91 [.val 0, .own 7, .own 8, .own 9], .map 0 0, .row 103 42, .row 73 44, .row 105 46, .row 103 42, .row 73 44, .row 105 46]⟩ (fun n z => z1e φ n z.1 z.2.1 z.2.2.1 z.2.2.2.1 z.2.2.2.2.1 z.2.2.2.2.2.1 z.2.2.2.2.2.2.1 z.2.2.2.2.2.2.2.1 z.2.2.2.2.2.2.2.2.1 z.2.2.2.2.2.2.2.2.2.1 z.2.2.2.2.2.2.2.2.2.2.1 z.2.2.2.2.2.2.2.2.2.2.2.1 z.2.2.2.2.2.2.2.2.2.2.2.2.1 z.2.2.2.2.2.2.2.2.2.2.2.2.2.1) (fun zk19 => (.seq .x (.seq .x (.seq (.body (.seq .x (.seq .x (.body (.loop ⟨[(257, [(2, .ptr 0 0), (4, .ptr 1 0), (7, .val 40), (8, .ptr 2 0), (9, .own 3), (40, .val 40), (41, .val 0), (42, .val 0), (46, .val 39), (47, .val 0), (48, .val 0)])], [.box 36 [.val 30], .box 68 [.val 0, .own 4, .own 5, .own 6], .box 91 [.val 0, .own 7, .own 8, .own 9], .map 0 0, .row 103 42, .row 73 44, .row 105 46, .row 103 42, .row 73 44, .row 105 46]⟩ (fun n z => z1g φ (fun a0 a1 a2 a3 a4 a5 a6 a7 a8 a9 a10 a11 a12 a13 => zk19 (a0, a1, a2, a3, a4, a5, a6, a7, a8, a9, a10, a11, a12, a13, ())) n z.1 z.2.1 z.2.2.1 z.2.2.2.1 z.2.2.2.2.1 z.2.2.2.2.2.1 z.2.2.2.2.2.2.1 z.2.2.2.2.2.2.2.1 z.2.2.2.2.2.2.2.2.1 z.2.2.2.2.2.2.2.2.2.1 z.2.2.2.2.2.2.2.2.2.2.1 z.2.2.2.2.2.2.2.2.2.2.2.1 z.2.2.2.2.2.2.2.2.2.2.2.2.1 z.2.2.2.2.2.2.2.2.2.2.2.2.2.1 z.2.2.2.2.2.2.2.2.2.2.2.2.2.2.1 z.2.2.2.2.2.2.2.2.2.2.2.2.2.2.2.1 z.2.2.2.2.2.2.2.2.2.2.2.2.2.2.2.2.1) (fun zk37 => .x)))))) .x))))))) (.seq (.seq .x (.body (.loop ⟨[(257, [(2, .ptr 0 0), (4, .ptr 1 0), (7, .val 40), (8, .ptr 2 0), (9, .own 3), (61, .val 22), (62, .val 0), (63, .val 0)])], [.box 36 [.val 30], .box 68 [.val 0, .own 4, .own 5, .own 6], .box 91 [.val 0, .own 7, .own 8, .own 9], .map 0 0, .row 103 42, .row 73 44, .row 105 46, .row 103 42, .row 73 44, .row 105 46]⟩ (fun n z => z0v φ n z.1 z.2.1 z.2.2.1 z.2.2.2.1 z.2.2.2.2.1 z.2.2.2.2.2.1 z.2.2.2.2.2.2.1 z.2.2.2.2.2.2.2.1 z.2.2.2.2.2.2.2.2.1 z.2.2.2.2.2.2.2.2.2.1 z.2.2.2.2.2.2.2.2.2.2.1 z.2.2.2.2.2.2.2.2.2.2.2.1 z.2.2.2.2.2.2.2.2.2.2.2.2.1 z.2.2.2.2.2.2.2.2.2.2.2.2.2.1) (fun zk52 => (.seq .x (.seq .x (.seq (.body (.seq .x (.seq .x (.seq .x (.cond (.seq .x (.seq (.ins 20 42 (.seq .x (.seq .x (.body (.loop ⟨[(39, [(0, .ptr 0 0), (4, .ptr 1 0), (8, .own 2), (9, .val 0), (10, .val 0)]), (257, [(2, .ptr 3 0), (4, .ptr 4 0), (7, .val 40), (8, .ptr 0 0), (9, .own 5), (61, .val 22), (62, .val 0), (63, .val 0), (82, .ptr 0 0), (83, .val 44), (84, .ptr 0 0), (85, .ptr 0 0), (86, .ptr 0 0), (87, .ptr 0 0), (88, .val 0), (89, .ptr 6 1), (90, .val 0), (91, .val 0), (92, .val 42), (93, .ptr 0 0), (94, .ptr 0 0), (95, .ptr 0 0), (96, .ptr 0 0), (97, .val 0), (98, .ptr 6 2), (99, .val 0), (100, .val 42), (101, .own 2)])], [.box 91 [.val 0, .own 7, .own 8, .own 9], .box 73 [.val 44], .row 103 42, .box 36 [.val 30], .box 68 [.val 0, .own 10, .own 11, .own 12], .map 0 0, .box 99 [.val 21], .row 103 42, .row 73 44, .row 105 46, .row 103 42, .row 73 44, .row 105 46]⟩ (fun n z => z2a φ (fun a0 a1 a2 a3 a4 a5 a6 a7 a8 a9 a10 a11 a12 a13 => zk52 (a0, a1, a2, a3, a4, a5, a6, a7, a8, a9, a10, a11, a12, a13, ())) n z.1 z.2.1 z.2.2.1 z.2.2.2.1 z.2.2.2.2.1 z.2.2.2.2.2.1 z.2.2.2.2.2.2.1 z.2.2.2.2.2.2.2.1 z.2.2.2.2.2.2.2.2.1 z.2.2.2.2.2.2.2.2.2.1 z.2.2.2.2.2.2.2.2.2.2.1 z.2.2.2.2.2.2.2.2.2.2.2.1 z.2.2.2.2.2.2.2.2.2.2.2.2.1 z.2.2.2.2.2.2.2.2.2.2.2.2.2.1 z.2.2.2.2.2.2.2.2.2.2.2.2.2.2.1 z.2.2.2.2.2.2.2.2.2.2.2.2.2.2.2.1 z.2.2.2.2.2.2.2.2.2.2.2.2.2.2.2.2.1 z.2.2.2.2.2.2.2.2.2.2.2.2.2.2.2.2.2.1 z.2.2.2.2.2.2.2.2.2.2.2.2.2.2.2.2.2.2.1 z.2.2.2.2.2.2.2.2.2.2.2.2.2.2.2.2.2.2.2.1 z.2.2.2.2.2.2.2.2.2.2.2.2.2.2.2.2.2.2.2.2.1 z.2.2.2.2.2.2.2.2.2.2.2.2.2.2.2.2.2.2.2.2.2.1 z.2.2.2.2.2.2.2.2.2.2.2.2.2.2.2.2.2.2.2.2.2.2.1 z.2.2.2.2.2.2.2.2.2.2.2.2.2.2.2.2.2.2.2.2.2.2.2.1 z.2.2.2.2.2.2.2.2.2.2.2.2.2.2.2.2.2.2.2.2.2.2.2.2.1 z.2.2.2.2.2.2.2.2.2.2.2.2.2.2.2.2.2.2.2.2.2.2.2.2.2.1 z.2.2.2.2.2.2.2.2.2.2.2.2.2.2.2.2.2.2.2.2.2.2.2.2.2.2.1) (fun zk80 => .x))))) .x) .x)) .x))))) .x))))))) (.seq (.seq .x (.body (.loop ⟨[(257, [(2, .ptr 0 0), (4, .ptr 1 0), (8, .ptr 2 0), (9, .own 3), (113, .val 40), (114, .val 0), (115, .val 0)])], [.box 36 [.val 30], .box 68 [.val 0, .own 4, .own 5, .own 6], .box 91 [.val 0, .own 7, .own 8, .own 9], .map 0 0, .row 103 42, .row 73 44, .row 105 46, .row 103 42, .row 73 44, .row 105 46]⟩ (fun n z => z1h φ n z.1 z.2.1 z.2.2.1 z.2.2.2.1 z.2.2.2.2.1 z.2.2.2.2.2.1 z.2.2.2.2.2.2.1 z.2.2.2.2.2.2.2.1 z.2.2.2.2.2.2.2.2.1 z.2.2.2.2.2.2.2.2.2.1 z.2.2.2.2.2.2.2.2.2.2.1 z.2.2.2.2.2.2.2.2.2.2.2.1 z.2.2.2.2.2.2.2.2.2.2.2.2.1) (fun zk94 => (.seq .x (.seq .x (.seq (.body (.seq .x (.seq .x (.body (.loop ⟨[(257, [(2, .ptr 0 0), (4, .ptr 1 0), (8, .ptr 2 0), (9, .own 3), (19, .val 39), (113, .val 40), (114, .val 0), (115, .val 0), (119, .val 39), (120, .val 0), (121, .val 0)])], [.box 36 [.val 30], .box 68 [.val 0, .own 4, .own 5, .own 6], .box 91 [.val 0, .own 7, .own 8, .own 9], .map 0 0, .row 103 42, .row 73 44, .row 105 46, .row 103 42, .row 73 44, .row 105 46]⟩ (fun n z => z03 φ (fun a0 a1 a2 a3 a4 a5 a6 a7 a8 a9 a10 a11 a12 => zk94 (a0, a1, a2, a3, a4, a5, a6, a7, a8, a9, a10, a11, a12, ())) n z.1 z.2.1 z.2.2.1 z.2.2.2.1 z.2.2.2.2.1 z.2.2.2.2.2.1 z.2.2.2.2.2.2.1 z.2.2.2.2.2.2.2.1 z.2.2.2.2.2.2.2.2.1 z.2.2.2.2.2.2.2.2.2.1 z.2.2.2.2.2.2.2.2.2.2.1 z.2.2.2.2.2.2.2.2.2.2.2.1 z.2.2.2.2.2.2.2.2.2.2.2.2.1 z.2.2.2.2.2.2.2.2.2.2.2.2.2.1 z.2.2.2.2.2.2.2.2.2.2.2.2.2.2.1 z.2.2.2.2.2.2.2.2.2.2.2.2.2.2.2.1 z.2.2.2.2.2.2.2.2.2.2.2.2.2.2.2.2.1) (fun zk112 => (.seq .x (.seq .x (.seq (.body (.seq .x (.seq .x (.seq .x (.seq .x (.seq (.join ⟨[(257, [(2, .ptr 0 0), (4, .ptr 1 0), (8, .ptr 2 0), (9, .own 3), (19, .val 39), (20, .val 0), (21, .ptr 4 0), (22, .val 0), (113, .val 40), (114, .val 0), (115, .val 0), (119, .val 39), (120, .val 0), (121, .val 0)])], [.box 36 [.val 30], .box 68 [.val 0, .own 5, .own 6, .own 7], .box 91 [.val 0, .own 8, .own 9, .own 10], .map 0 0, .box 97 [.val 4], .row 103 42, .row 73 44, .row 105 46, .row 103 42, .row 73 44, .row 105 46]⟩ (fun z => z0h φ (fun a0 a1 a2 a3 a4 a5 a6 a7 a8 a9 a10 a11 a12 a13 a14 a15 a16 => zk112 (a0, a1, a2, a3, a4, a5, a6, a7, a8, a9, a10, a11, a12, a13, a14, a15, a16, ())) z.1 z.2.1 z.2.2.1 z.2.2.2.1 z.2.2.2.2.1 z.2.2.2.2.2.1 z.2.2.2.2.2.2.1 z.2.2.2.2.2.2.2.1 z.2.2.2.2.2.2.2.2.1 z.2.2.2.2.2.2.2.2.2.1 z.2.2.2.2.2.2.2.2.2.2.1 z.2.2.2.2.2.2.2.2.2.2.2.1 z.2.2.2.2.2.2.2.2.2.2.2.2.1 z.2.2.2.2.2.2.2.2.2.2.2.2.2.1 z.2.2.2.2.2.2.2.2.2.2.2.2.2.2.1 z.2.2.2.2.2.2.2.2.2.2.2.2.2.2.2.1 z.2.2.2.2.2.2.2.2.2.2.2.2.2.2.2.2.1 z.2.2.2.2.2.2.2.2.2.2.2.2.2.2.2.2.2.1 z.2.2.2.2.2.2.2.2.2.2.2.2.2.2.2.2.2.2.1 z.2.2.2.2.2.2.2.2.2.2.2.2.2.2.2.2.2.2.2.1) (.seq .x (.cond (.ins 10 42 (.seq .x (.seq .x (.body (.loop ⟨[(39, [(0, .ptr 0 0), (4, .ptr 1 0), (8, .own 2), (9, .val 0), (10, .val 0)]), (257, [(2, .ptr 3 0), (4, .ptr 4 0), (8, .ptr 0 0), (9, .own 5), (19, .val 39), (20, .val 0), (21, .ptr 6 0), (22, .val 0), (113, .val 40), (114, .val 0), (115, .val 0), (119, .val 39), (120, .val 0), (121, .val 0)])], [.box 91 [.val 0, .own 7, .own 8, .own 9], .box 73 [.val 44], .row 103 42, .box 36 [.val 30], .box 68 [.val 0, .own 10, .own 11, .own 12], .map 0 0, .box 97 [.val 4], .row 103 42, .row 73 44, .row 105 46, .row 103 42, .row 73 44, .row 105 46]⟩ (fun n z => z1s φ (fun a0 a1 a2 a3 a4 a5 a6 a7 a8 a9 a10 a11 a12 a13 a14 a15 a16 => zk112 (a0, a1, a2, a3, a4, a5, a6, a7, a8, a9, a10, a11, a12, a13, a14, a15, a16, ())) n z.1 z.2.1 z.2.2.1 z.2.2.2.1 z.2.2.2.2.1 z.2.2.2.2.2.1 z.2.2.2.2.2.2.1 z.2.2.2.2.2.2.2.1 z.2.2.2.2.2.2.2.2.1 z.2.2.2.2.2.2.2.2.2.1 z.2.2.2.2.2.2.2.2.2.2.1 z.2.2.2.2.2.2.2.2.2.2.2.1 z.2.2.2.2.2.2.2.2.2.2.2.2.1 z.2.2.2.2.2.2.2.2.2.2.2.2.2.1 z.2.2.2.2.2.2.2.2.2.2.2.2.2.2.1 z.2.2.2.2.2.2.2.2.2.2.2.2.2.2.2.1 z.2.2.2.2.2.2.2.2.2.2.2.2.2.2.2.2.1 z.2.2.2.2.2.2.2.2.2.2.2.2.2.2.2.2.2.1 z.2.2.2.2.2.2.2.2.2.2.2.2.2.2.2.2.2.2.1 z.2.2.2.2.2.2.2.2.2.2.2.2.2.2.2.2.2.2.2.1 z.2.2.2.2.2.2.2.2.2.2.2.2.2.2.2.2.2.2.2.2.1 z.2.2.2.2.2.2.2.2.2.2.2.2.2.2.2.2.2.2.2.2.2.1 z.2.2.2.2.2.2.2.2.2.2.2.2.2.2.2.2.2.2.2.2.2.2.1 z.2.2.2.2.2.2.2.2.2.2.2.2.2.2.2.2.2.2.2.2.2.2.2.1) (fun zk195 => .x))))) .x) (.seq .x (.ins 16 42 (.seq .x (.seq .x (.body (.loop ⟨[(39, [(0, .ptr 0 0), (4, .ptr 1 0), (8, .own 2), (9, .val 0), (10, .val 0)]), (257, [(2, .ptr 3 0), (4, .ptr 4 0), (8, .ptr 0 0), (9, .own 5), (19, .val 39), (20, .val 0), (21, .ptr 6 0), (22, .val 0), (113, .val 40), (114, .val 0), (115, .val 0), (119, .val 39), (120, .val 0), (121, .val 0)])], [.box 91 [.val 0, .own 7, .own 8, .own 9], .box 73 [.val 44], .row 103 42, .box 36 [.val 30], .box 68 [.val 0, .own 10, .own 11, .own 12], .map 0 0, .box 97 [.val 4], .row 103 42, .row 73 44, .row 105 46, .row 103 42, .row 73 44, .row 105 46]⟩ (fun n z => z1v φ (fun a0 a1 a2 a3 a4 a5 a6 a7 a8 a9 a10 a11 a12 a13 a14 a15 a16 => zk112 (a0, a1, a2, a3, a4, a5, a6, a7, a8, a9, a10, a11, a12, a13, a14, a15, a16, ())) n z.1 z.2.1 z.2.2.1 z.2.2.2.1 z.2.2.2.2.1 z.2.2.2.2.2.1 z.2.2.2.2.2.2.1 z.2.2.2.2.2.2.2.1 z.2.2.2.2.2.2.2.2.1 z.2.2.2.2.2.2.2.2.2.1 z.2.2.2.2.2.2.2.2.2.2.1 z.2.2.2.2.2.2.2.2.2.2.2.1 z.2.2.2.2.2.2.2.2.2.2.2.2.1 z.2.2.2.2.2.2.2.2.2.2.2.2.2.1 z.2.2.2.2.2.2.2.2.2.2.2.2.2.2.1 z.2.2.2.2.2.2.2.2.2.2.2.2.2.2.2.1 z.2.2.2.2.2.2.2.2.2.2.2.2.2.2.2.2.1 z.2.2.2.2.2.2.2.2.2.2.2.2.2.2.2.2.2.1 z.2.2.2.2.2.2.2.2.2.2.2.2.2.2.2.2.2.2.1 z.2.2.2.2.2.2.2.2.2.2.2.2.2.2.2.2.2.2.2.1 z.2.2.2.2.2.2.2.2.2.2.2.2.2.2.2.2.2.2.2.2.1 z.2.2.2.2.2.2.2.2.2.2.2.2.2.2.2.2.2.2.2.2.2.1 z.2.2.2.2.2.2.2.2.2.2.2.2.2.2.2.2.2.2.2.2.2.2.1 z.2.2.2.2.2.2.2.2.2.2.2.2.2.2.2.2.2.2.2.2.2.2.2.1) (fun zk220 => .x))))) .x))))) (.seq .x (.cond (.seq .x (.ins 19 42 (.seq .x (.seq .x (.body (.loop ⟨[(39, [(0, .ptr 0 0), (4, .ptr 1 0), (8, .own 2), (9, .val 0), (10, .val 0)]), (257, [(2, .ptr 3 0), (4, .ptr 4 0), (8, .ptr 0 0), (9, .own 5), (19, .val 39), (113, .val 40), (114, .val 0), (115, .val 0), (119, .val 39), (120, .val 0), (121, .val 0), (215, .ptr 0 0), (216, .ptr 6 2), (217, .val 1), (218, .ptr 7 0), (219, .ptr 7 2), (220, .val 1), (221, .val 44), (222, .val 0), (223, .val 0), (224, .val 0), (225, .ptr 3 0), (226, .val 11), (227, .val 3), (228, .ptr 7 0), (229, .val 3), (230, .val 0), (231, .val 0), (232, .val 42), (233, .own 2)])], [.box 91 [.val 0, .own 8, .own 9, .own 10], .box 73 [.val 44], .row 103 42, .box 36 [.val 30], .box 68 [.val 0, .own 11, .own 12, .own 13], .map 0 0, .box 95 [.val 3], .box 97 [.val 4], .row 103 42, .row 73 44, .row 105 46, .row 103 42, .row 73 44, .row 105 46]⟩ (fun n z => z1w φ (fun a0 a1 a2 a3 a4 a5 a6 a7 a8 a9 a10 a11 a12 a13 a14 a15 a16 => zk112 (a0, a1, a2, a3, a4, a5, a6, a7, a8, a9, a10, a11, a12, a13, a14, a15, a16, ())) n z.1 z.2.1 z.2.2.1 z.2.2.2.1 z.2.2.2.2.1 z.2.2.2.2.2.1 z.2.2.2.2.2.2.1 z.2.2.2.2.2.2.2.1 z.2.2.2.2.2.2.2.2.1 z.2.2.2.2.2.2.2.2.2.1 z.2.2.2.2.2.2.2.2.2.2.1 z.2.2.2.2.2.2.2.2.2.2.2.1 z.2.2.2.2.2.2.2.2.2.2.2.2.1 z.2.2.2.2.2.2.2.2.2.2.2.2.2.1 z.2.2.2.2.2.2.2.2.2.2.2.2.2.2.1 z.2.2.2.2.2.2.2.2.2.2.2.2.2.2.2.1 z.2.2.2.2.2.2.2.2.2.2.2.2.2.2.2.2.1 z.2.2.2.2.2.2.2.2.2.2.2.2.2.2.2.2.2.1 z.2.2.2.2.2.2.2.2.2.2.2.2.2.2.2.2.2.2.1 z.2.2.2.2.2.2.2.2.2.2.2.2.2.2.2.2.2.2.2.1 z.2.2.2.2.2.2.2.2.2.2.2.2.2.2.2.2.2.2.2.2.1 z.2.2.2.2.2.2.2.2.2.2.2.2.2.2.2.2.2.2.2.2.2.1 z.2.2.2.2.2.2.2.2.2.2.2.2.2.2.2.2.2.2.2.2.2.2.1 z.2.2.2.2.2.2.2.2.2.2.2.2.2.2.2.2.2.2.2.2.2.2.2.1 z.2.2.2.2.2.2.2.2.2.2.2.2.2.2.2.2.2.2.2.2.2.2.2.2.1 z.2.2.2.2.2.2.2.2.2.2.2.2.2.2.2.2.2.2.2.2.2.2.2.2.2.1 z.2.2.2.2.2.2.2.2.2.2.2.2.2.2.2.2.2.2.2.2.2.2.2.2.2.2.1 z.2.2.2.2.2.2.2.2.2.2.2.2.2.2.2.2.2.2.2.2.2.2.2.2.2.2.2.1 z.2.2.2.2.2.2.2.2.2.2.2.2.2.2.2.2.2.2.2.2.2.2.2.2.2.2.2.2.1 z.2.2.2.2.2.2.2.2.2.2.2.2.2.2.2.2.2.2.2.2.2.2.2.2.2.2.2.2.2.1 z.2.2.2.2.2.2.2.2.2.2.2.2.2.2.2.2.2.2.2.2.2.2.2.2.2.2.2.2.2.2.1 z.2.2.2.2.2.2.2.2.2.2.2.2.2.2.2.2.2.2.2.2.2.2.2.2.2.2.2.2.2.2.2.1 z.2.2.2.2.2.2.2.2.2.2.2.2.2.2.2.2.2.2.2.2.2.2.2.2.2.2.2.2.2.2.2.2.1 z.2.2.2.2.2.2.2.2.2.2.2.2.2.2.2.2.2.2.2.2.2.2.2.2.2.2.2.2.2.2.2.2.2.1 z.2.2.2.2.2.2.2.2.2.2.2.2.2.2.2.2.2.2.2.2.2.2.2.2.2.2.2.2.2.2.2.2.2.2.1) (fun zk170 => .x))))) .x)) .x)))))))) .x))))))))) .x))))))) .x))))))))
def zbg (P : Program) (φ : Nat) : Env TV := ⟨P, lk [(40, z44 φ), (41, za7 φ), (43, zah φ)], lk [], lk []⟩
theorem zn5 (φ : Nat) (a) : (zbi φ).F a = fnX TV (zbg Tryz.prog φ) φ Tryz.f24 [30, 38] [.val 48, .val 0] (z88 φ) a := by kernel_rfl
theorem zn1 (φ : Nat) : fnO TV (zbg Tryz.prog φ) φ Tryz.f24 [.val 48, .val 0] (z88 φ) := by
 unfold fnO
 show obl _ _ _ _ _ _ _
 unfold z88
 repeat' (first | exact trivial | (refine ⟨?_, ?_⟩) | (intro _) | kernel_rfl)
theorem zn4 (φ : Nat) : z13 TV Tryz.prog 24 (zbi φ) :=
 z1k (N := zbg Tryz.prog φ) (zx ⟨zav φ, zl2 φ, zl5 φ, trivial⟩ trivial trivial) (z88 φ) Tryz.func24 (by kernel_rfl) (zn5 φ) (zn1 φ)
def z9n (φ : Nat) : H TV (RTup TT [.val 0]) := (.seq .x (.seq .x (.seq .x (.seq (.seq .x (.body (.loop ⟨[(48, [(0, .val 0), (16, .val 43), (17, .val 0), (18, .val 0)])], []⟩ (fun n z => z47 φ n z.1 z.2.1 z.2.2.1 z.2.2.2.1) (fun zk7 => .x)))) .x))))
def zcb (P : Program) (φ : Nat) : Env TV := ⟨P, lk [], lk [], lk []⟩
theorem zog (φ : Nat) (a) : (zdg φ).F a = fnX TV (zcb Tryz.prog φ) φ Tryz.f44 [0, 43] [.val 0] (z9n φ) a := by kernel_rfl
theorem zqd (φ : Nat) : fnO TV (zcb Tryz.prog φ) φ Tryz.f44 [.val 0] (z9n φ) := by
 unfold fnO
 show obl _ _ _ _ _ _ _
 unfold z9n
 repeat' (first | exact trivial | (refine ⟨?_, ?_⟩) | (intro _) | kernel_rfl)
theorem zoh (φ : Nat) : z13 TV Tryz.prog 44 (zdg φ) :=
 z1k (N := zcb Tryz.prog φ) (zx trivial trivial trivial) (z9n φ) Tryz.func44 (by kernel_rfl) (zog φ) (zqd φ)
def z9r (φ : Nat) : H TV (RTup TT [.val 50, .val 50]) := .x
def zdj (P : Program) (φ : Nat) : Env TV := ⟨P, lk [], lk [], lk []⟩
theorem zoj (φ : Nat) (a) : (zd7 φ).F a = fnX TV (zdj Tryz.prog φ) φ Tryz.f128 [50, 50] [.val 50, .val 50] (z9r φ) a := by kernel_rfl
theorem zou (φ : Nat) : fnO TV (zdj Tryz.prog φ) φ Tryz.f128 [.val 50, .val 50] (z9r φ) := by
 unfold fnO
 show obl _ _ _ _ _ _ _
 unfold z9r
 repeat' (first | exact trivial | (refine ⟨?_, ?_⟩) | (intro _) | kernel_rfl)
theorem zqm (φ : Nat) : z13 TV Tryz.prog 128 (zd7 φ) :=
 z1k (N := zdj Tryz.prog φ) (zx trivial trivial trivial) (z9r φ) Tryz.func128 (by kernel_rfl) (zoj φ) (zou φ)
def zdo (φ : Nat) : H TV (RTup TT [.val 6, .val 6]) := .x
def zgc (P : Program) (φ : Nat) : Env TV := ⟨P, lk [(128, zd7 φ), (129, z9o φ)], lk [], lk []⟩
theorem zvi (φ : Nat) (a) : (zgi φ).F a = fnX TV (zgc Tryz.prog φ) φ Tryz.f96 [6, 6] [.val 6, .val 6] (zdo φ) a := by kernel_rfl
theorem zv8 (φ : Nat) : fnO TV (zgc Tryz.prog φ) φ Tryz.f96 [.val 6, .val 6] (zdo φ) := by
 unfold fnO
 show obl _ _ _ _ _ _ _
 unfold zdo
 repeat' (first | exact trivial | (refine ⟨?_, ?_⟩) | (intro _) | kernel_rfl)
theorem zuz (φ : Nat) : z13 TV Tryz.prog 96 (zgi φ) :=
 z1k (N := zgc Tryz.prog φ) (zx ⟨zqm φ, zhq φ, trivial⟩ trivial trivial) (zdo φ) Tryz.func96 (by kernel_rfl) (zvi φ) (zv8 φ)
def z5f (φ : Nat) : H TV (RTup TT [.row 3 0]) := (.seq .x (.seq .x (.seq .x (.seq .x (.seq .x (.seq .x (.seq (.body (.loop ⟨[(48, [(7, .own 0), (8, .val 0)])], [.row 3 0]⟩ (fun n z => z37 φ n z.1 z.2.1) (fun zk6 => .x))) .x)))))))
def z90 (P : Program) (φ : Nat) : Env TV := ⟨P, lk [(96, zgi φ)], lk [], lk []⟩
theorem zim (φ : Nat) (a) : (z8t φ).F a = fnX TV (z90 Tryz.prog φ) φ Tryz.f73 [5, 0] [.row 3 0] (z5f φ) a := by kernel_rfl
theorem zkq (φ : Nat) : fnO TV (z90 Tryz.prog φ) φ Tryz.f73 [.row 3 0] (z5f φ) := by
 unfold fnO
 show obl _ _ _ _ _ _ _
 unfold z5f
 repeat' (first | exact trivial | (refine ⟨?_, ?_⟩) | (intro _) | kernel_rfl)
theorem zj3 (φ : Nat) : z13 TV Tryz.prog 73 (z8t φ) :=
 z1k (N := z90 Tryz.prog φ) (zx ⟨zuz φ, trivial⟩ trivial trivial) (z5f φ) Tryz.func73 (by kernel_rfl) (zim φ) (zkq φ)
theorem zfc (φ : Nat) (k24 : ((List za) -> Int -> Int -> Int -> (List za) -> Int -> Int -> (List Int) -> (List Int) -> Option ((List Int) × (List Int) × Int × Unit))) (x25 : Int) (x26 : Int) (x27 : (List za)) (x28 : Int) (x29 : Int) (x30 : Int) (x31 : Int) (x32 : (List za)) (x33 : Int) (x34 : Int) (x35 : za) (x36 : (List Int)) (x37 : (List Int)) : zu (z3p φ k24 x25 x26 x27 x28 x29 x30 x31 x32 x33 x34 x35 x36 x37) (z81 φ k24 x25 x26 x27 x28 x29 x30 x31 x32 x33 x34 x35 x36 x37) := by
 unfold z3p z81
 repeat' (first | exact zu.one | exact zu.nil | refine zu.cons ?_ ?_ | refine zu.ck ?_ | exact zu.same (n := 2) rfl | exact zu.same (n := 3) rfl | exact zu.same (n := 4) rfl | exact zu.same (n := 6) rfl | refine zu.bind fun _ => ?_)
theorem zf3 (φ : Nat) (x39 : Int) (x40 : (List Int)) (x41 : (List Int)) : zu (z8q φ x39 x40 x41) (zc0 φ x39 x40 x41) := by
 unfold z8q zc0
 repeat' (first | exact zu.one | exact zu.nil | refine zu.cons ?_ ?_ | refine zu.ck ?_ | exact zu.same (n := 2) rfl | exact zu.same (n := 3) rfl | exact zu.same (n := 4) rfl | exact zu.same (n := 6) rfl | refine zu.bind fun _ => ?_)
theorem zfn (φ : Nat) (x43 : Int) (x44 : (List Int)) (x45 : (List Int)) : zu (z5d φ x43 x44 x45) (z80 φ x43 x44 x45) := by
 unfold z5d z80
 repeat' (first | exact zu.one | exact zu.nil | refine zu.cons ?_ ?_ | refine zu.ck ?_ | exact zu.same (n := 2) rfl | exact zu.same (n := 3) rfl | exact zu.same (n := 4) rfl | exact zu.same (n := 6) rfl | refine zu.bind fun _ => ?_)
theorem zfr (φ : Nat) (x47 : Int) (x48 : (List za)) (x49 : (List Int)) (x50 : (List Int)) : zu (z3n φ x47 x48 x49 x50) (z82 φ x47 x48 x49 x50) := by
 unfold z3n z82
 constructor
 intro r h
 obtain ⟨hp, h⟩ := zcf h
 obtain ⟨y, hy, hk⟩ := bind_some h
 exact ⟨[some r, some r, some r], by simp [z8 hp, hy, catL, cat2]; exact hk, by simp⟩
def z8d (φ : Nat) : H TV (RTup TT [.val 5, .val 5, .val 0]) := (.seq .x (.seq (.join ⟨[(19, [(0, .val 0), (1, .val 43), (4, .ptr 0 0), (5, .ptr 1 0)])], [.box 62 [.own 2], .box 62 [.own 3], .row 3 0, .row 3 0]⟩ (fun z => z3a φ z.1 z.2.1 z.2.2.1 z.2.2.2.1) (.alt ⟨[(19, [(0, .val 0), (1, .val 43), (4, .ptr 0 0), (5, .ptr 1 0)])], [.box 62 [.own 2], .box 62 [.own 3], .row 3 0, .row 3 0]⟩ (fun z => z3n φ z.1 z.2.1 z.2.2.1 z.2.2.2.1) (fun z => z82 φ z.1 z.2.1 z.2.2.1 z.2.2.2.1))) (.seq (.ins 3 74 (.seq .x (.body (.seq .x (.seq .x (.seq (.seq .x (.body (.loop ⟨[(30, [(1, .val 43), (2, .func 75 [.ptr 0 0, .ptr 1 0]), (7, .val 0), (10, .val 0), (11, .val 0)]), (19, [(4, .ptr 0 0), (5, .ptr 1 0)])], [.box 62 [.own 2], .box 62 [.own 3], .row 3 0, .row 3 0]⟩ (fun n z => z2s φ n z.1 z.2.1 z.2.2.1 z.2.2.2.1 z.2.2.2.2.1 z.2.2.2.2.2.1) (fun zk14 => (.seq .x (.seq .x (.seq (.body (.seq .x (.seq (.seq .x (.body (.loop ⟨[(30, [(1, .val 43), (2, .func 75 [.ptr 0 0, .ptr 1 0]), (7, .val 0), (10, .val 0), (11, .val 0), (13, .val 43), (14, .val 0), (15, .val 0)]), (19, [(4, .ptr 0 0), (5, .ptr 1 0)])], [.box 62 [.own 2], .box 62 [.own 3], .row 3 0, .row 3 0]⟩ (fun n z => z1i φ (fun a0 a1 a2 a3 a4 a5 => zk14 (a0, a1, a2, a3, a4, a5, ())) n z.1 z.2.1 z.2.2.1 z.2.2.2.1 z.2.2.2.2.1 z.2.2.2.2.2.1 z.2.2.2.2.2.2.1 z.2.2.2.2.2.2.2.1 z.2.2.2.2.2.2.2.2.1) (fun zk24 => (.seq .x (.seq .x (.seq (.body (.seq .x (.seq (.ins 3 75 (.seq .x (.seq (.seq .x (.seq .x (.cond (.seq (.alt ⟨[(33, [(0, .val 0), (2, .ptr 0 0), (3, .ptr 1 0), (5, .ptr 2 0), (7, .val 0)]), (30, [(1, .val 43), (2, .func 75 [.ptr 0 0, .ptr 1 0]), (7, .val 0), (8, .val 0), (10, .val 0), (11, .val 0), (13, .val 43), (14, .val 0), (15, .val 0)]), (19, [(4, .ptr 0 0), (5, .ptr 1 0)])], [.box 62 [.own 3], .box 62 [.own 4], .box 103 [.val 42], .row 3 0, .row 3 0]⟩ (fun z => z3p φ (fun a0 a1 a2 a3 a4 a5 a6 a7 a8 => zk24 (a0, a1, a2, a3, a4, a5, a6, a7, a8, ())) z.1 z.2.1 z.2.2.1 z.2.2.2.1 z.2.2.2.2.1 z.2.2.2.2.2.1 z.2.2.2.2.2.2.1 z.2.2.2.2.2.2.2.1 z.2.2.2.2.2.2.2.2.1 z.2.2.2.2.2.2.2.2.2.1 z.2.2.2.2.2.2.2.2.2.2.1 z.2.2.2.2.2.2.2.2.2.2.2.1 z.2.2.2.2.2.2.2.2.2.2.2.2.1) (fun z => z81 φ (fun a0 a1 a2 a3 a4 a5 a6 a7 a8 => zk24 (a0, a1, a2, a3, a4, a5, a6, a7, a8, ())) z.1 z.2.1 z.2.2.1 z.2.2.2.1 z.2.2.2.2.1 z.2.2.2.2.2.1 z.2.2.2.2.2.2.1 z.2.2.2.2.2.2.2.1 z.2.2.2.2.2.2.2.2.1 z.2.2.2.2.2.2.2.2.2.1 z.2.2.2.2.2.2.2.2.2.2.1 z.2.2.2.2.2.2.2.2.2.2.2.1 z.2.2.2.2.2.2.2.2.2.2.2.2.1)) .x) .x))) .x)) .x) .x))) .x))))))) .x))) .x))))))) .x))))) .x) (.seq (.alt ⟨[(19, [(4, .ptr 0 0), (5, .ptr 1 0), (6, .val 0)])], [.box 62 [.own 2], .box 62 [.own 3], .row 3 0, .row 3 0]⟩ (fun z => z5d φ z.1 z.2.1 z.2.2.1) (fun z => z80 φ z.1 z.2.1 z.2.2.1)) .x))))
def zb6 (P : Program) (φ : Nat) : Env TV := ⟨P, lk [(73, z8t φ)], lk [], lk []⟩
theorem znd (φ : Nat) (a) : (zb1 φ).F a = fnX TV (zb6 Tryz.prog φ) φ Tryz.f45 [0, 43] [.val 5, .val 5, .val 0] (z8d φ) a := by kernel_rfl
theorem zm4 (φ : Nat) : fnO TV (zb6 Tryz.prog φ) φ Tryz.f45 [.val 5, .val 5, .val 0] (z8d φ) := by
 unfold fnO
 show obl _ _ _ _ _ _ _
 unfold z8d
 repeat' (first | exact trivial | (refine ⟨?_, ?_⟩) | (intro _) | kernel_rfl | exact zfc .. | exact zf3 .. | exact zfn .. | exact zfr ..)
theorem zni (φ : Nat) : z13 TV Tryz.prog 45 (zb1 φ) :=
 z1k (N := zb6 Tryz.prog φ) (zx ⟨zj3 φ, trivial⟩ trivial trivial) (z8d φ) Tryz.func45 (by kernel_rfl) (znd φ) (zm4 φ)
def za5 (φ : Nat) : H TV (RTup TT [.val 5, .val 0]) := .x
def zcx (P : Program) (φ : Nat) : Env TV := ⟨P, lk [(44, zdg φ), (45, zb1 φ)], lk [], lk []⟩
theorem zp4 (φ : Nat) (a) : (zdc φ).F a = fnX TV (zcx Tryz.prog φ) φ Tryz.f25 [0, 43] [.val 5, .val 0] (za5 φ) a := by kernel_rfl
theorem zol (φ : Nat) : fnO TV (zcx Tryz.prog φ) φ Tryz.f25 [.val 5, .val 0] (za5 φ) := by
 unfold fnO
 show obl _ _ _ _ _ _ _
 unfold za5
 repeat' (first | exact trivial | (refine ⟨?_, ?_⟩) | (intro _) | kernel_rfl)
theorem zoa (φ : Nat) : z13 TV Tryz.prog 25 (zdc φ) :=
 z1k (N := zcx Tryz.prog φ) (zx ⟨zoh φ, zni φ, trivial⟩ trivial trivial) (za5 φ) Tryz.func25 (by kernel_rfl) (zp4 φ) (zol φ)
def z2l (φ : Nat) : H TV (RTup TT [.val 2, .val 0]) := .x
def z3m (P : Program) (φ : Nat) : Env TV := ⟨P, lk [(24, zbi φ), (25, zdc φ)], lk [], lk []⟩
theorem zcd (φ : Nat) (a) : (z07 φ).F a = fnX TV (z3m Tryz.prog φ) φ Tryz.f12 [30, 38] [.val 2, .val 0] (z2l φ) a := by kernel_rfl
theorem zdh (φ : Nat) : fnO TV (z3m Tryz.prog φ) φ Tryz.f12 [.val 2, .val 0] (z2l φ) := by
 unfold fnO
 show obl _ _ _ _ _ _ _
 unfold z2l
 repeat' (first | exact trivial | (refine ⟨?_, ?_⟩) | (intro _) | kernel_rfl)
theorem z1j (φ : Nat) : z13 TV Tryz.prog 12 (z07 φ) :=
 z1k (N := z3m Tryz.prog φ) (zx ⟨zn4 φ, zoa φ, trivial⟩ trivial trivial) (z2l φ) Tryz.func12 (by kernel_rfl) (zcd φ) (zdh φ)
def z2d (φ : Nat) : H TV (RTup TT [.val 38]) := (.seq .x (.seq (.seq .x (.body (.loop ⟨[(21, [(1, .rom 0 2), (2, .own 0), (5, .val 38), (6, .val 0), (7, .val 0)])], [.row 61 35]⟩ (fun n z => z1z φ n z.1 z.2.1 z.2.2.1 z.2.2.2.1 z.2.2.2.2.1) (fun zk8 => .x)))) .x))
def z3e (P : Program) (φ : Nat) : Env TV := ⟨P, lk [], lk [], lk []⟩
theorem zc8 (φ : Nat) (a b) : (z3b φ).F a b = fnXc TV (z3e Tryz.prog φ) φ Tryz.f55 [] [.b (.val 38), .b (.map 0 2)] [.val 38] (z2d φ) a b := by kernel_rfl
theorem zc7 (φ : Nat) : fnO TV (z3e Tryz.prog φ) φ Tryz.f55 [.val 38] (z2d φ) := by
 unfold fnO
 show obl _ _ _ _ _ _ _
 unfold z2d
 repeat' (first | exact trivial | (refine ⟨?_, ?_⟩) | (intro _) | kernel_rfl)
theorem zc3 (φ : Nat) : zqw TV Tryz.prog 55 (z3b φ) :=
 zug (N := z3e Tryz.prog φ) (zx trivial trivial trivial) (z2d φ) Tryz.func55 (by kernel_rfl) (zc8 φ) (zc7 φ)
def z2e (φ : Nat) : H TV (RTup TT [.val 2]) := .x
def z3d (P : Program) (φ : Nat) : Env TV := ⟨P, lk [(12, z07 φ)], lk [], lk [(55, z3b φ)]⟩
theorem zc4 (φ : Nat) (a b) : (z2f φ).F a b = fnXc TV (z3d Tryz.prog φ) φ Tryz.f56 [] [.b (.val 30), .fn 55 [.val 38, .map 0 2]] [.val 2] (z2e φ) a b := by kernel_rfl
theorem zc1 (φ : Nat) : fnO TV (z3d Tryz.prog φ) φ Tryz.f56 [.val 2] (z2e φ) := by
 unfold fnO
 show obl _ _ _ _ _ _ _
 unfold z2e
 repeat' (first | exact trivial | (refine ⟨?_, ?_⟩) | (intro _) | kernel_rfl)
theorem z6f (φ : Nat) : zqw TV Tryz.prog 56 (z2f φ) :=
 zug (N := z3d Tryz.prog φ) (zx ⟨z1j φ, trivial⟩ trivial ⟨zc3 φ, trivial⟩) (z2e φ) Tryz.func56 (by kernel_rfl) (zc4 φ) (zc1 φ)
theorem ze4 (φ : Nat) (x38 : (List z7)) (x39 : Pool) (x40 : (List Ref)) (x41 : (List (Int × Bool))) (x42 : (List z7)) : zu (z3t φ x38 x39 x40 x41 x42) (z5v φ x38 x39 x40 x41 x42) := by
 unfold z3t z5v
 repeat' (first | exact zu.one | exact zu.nil | refine zu.cons ?_ ?_ | refine zu.ck ?_ | exact zu.same (n := 2) rfl | exact zu.same (n := 3) rfl | exact zu.same (n := 4) rfl | exact zu.same (n := 6) rfl | refine zu.bind fun _ => ?_)
def z5j (φ : Nat) : H TV (RTup TT [.val 51, .val 0]) := (.seq .x (.seq .x (.seq (.ins 2 33 (.seq .x (.seq .x (.seq .x (.seq .x (.seq (.join ⟨[(13, [(4, .ptr 0 0), (5, .func 56 [.ptr 1 0, .ptr 2 0]), (6, .ptr 2 0)]), (68, [(1, .val 38), (4, .own 3)])], [.box 78 [.own 4], .box 36 [.val 30], .box 79 [.func 55 [.ptr 5 0, .ptr 0 0]], .row 56 1, .map 0 2, .box 37 [.val 38]]⟩ (fun z => z4v φ z.1 z.2.1 z.2.2.1 z.2.2.2.1 z.2.2.2.2.1) (.alt ⟨[(13, [(4, .ptr 0 0), (5, .func 56 [.ptr 1 0, .ptr 2 0]), (6, .ptr 2 0)]), (68, [(1, .val 38), (4, .own 3)])], [.box 78 [.own 4], .box 36 [.val 30], .box 79 [.func 55 [.ptr 5 0, .ptr 0 0]], .row 56 1, .map 0 2, .box 37 [.val 38]]⟩ (fun z => z3t φ z.1 z.2.1 z.2.2.1 z.2.2.2.1 z.2.2.2.2.1) (fun z => z5v φ z.1 z.2.1 z.2.2.1 z.2.2.2.1 z.2.2.2.2.1))) .x))))) .x) (.seq (.seq .x (.body (.loop ⟨[(68, [(1, .val 38), (4, .own 0), (8, .own 1), (9, .func 56 [.ptr 2 0, .ptr 3 0]), (10, .func 55 [.ptr 4 0, .ptr 5 0]), (35, .val 0), (36, .val 0)])], [.row 56 1, .map 0 2, .box 36 [.val 30], .box 79 [.func 55 [.ptr 4 0, .ptr 5 0]], .box 37 [.val 38], .box 78 [.own 1]]⟩ (fun n z => z73 φ n z.1 z.2.1 z.2.2.1 z.2.2.2.1 z.2.2.2.2.1 z.2.2.2.2.2.1 z.2.2.2.2.2.2.1) (fun zk17 => .x)))) (.seq (.seq .x (.body (.loop ⟨[(68, [(4, .own 0), (8, .own 1), (9, .func 56 [.ptr 2 0, .ptr 3 0]), (10, .func 55 [.ptr 4 0, .ptr 5 0]), (43, .val 0), (44, .val 0)])], [.row 56 1, .map 0 2, .box 36 [.val 30], .box 79 [.func 55 [.ptr 4 0, .ptr 5 0]], .box 37 [.val 38], .box 78 [.own 1]]⟩ (fun n z => z3u φ n z.1 z.2.1 z.2.2.1 z.2.2.2.1 z.2.2.2.2.1 z.2.2.2.2.2.1) (fun zk24 => .x)))) (.seq (.seq (.ins 1 55 (.seq .x (.seq (.seq .x (.body (.loop ⟨[(21, [(1, .ptr 0 0), (2, .own 1), (5, .val 38), (6, .val 0), (7, .val 0)]), (68, [(4, .own 2)])], [.box 78 [.own 3], .row 61 35, .row 56 1, .map 0 2]⟩ (fun n z => z3z φ n z.1 z.2.1 z.2.2.1 z.2.2.2.1 z.2.2.2.2.1 z.2.2.2.2.2.1) (fun zk32 => .x)))) .x)) .x) (.body (.loop ⟨[(68, [(4, .own 0), (55, .own 1), (56, .val 0), (57, .val 0)])], [.row 56 1, .row 61 35]⟩ (fun n z => z6t φ n z.1 z.2.1 z.2.2.1 z.2.2.2.1) (fun zk37 => .x)))) .x))))))
def z8m (P : Program) (φ : Nat) : Env TV := ⟨P, lk [(12, z07 φ)], lk [], lk [(56, z2f φ)]⟩
theorem zjb (φ : Nat) (a) : (z8x φ).F a = fnX TV (z8m Tryz.prog φ) φ Tryz.f14 [30, 38] [.val 51, .val 0] (z5j φ) a := by kernel_rfl
theorem zjt (φ : Nat) : fnO TV (z8m Tryz.prog φ) φ Tryz.f14 [.val 51, .val 0] (z5j φ) := by
 unfold fnO
 show obl _ _ _ _ _ _ _
 unfold z5j
 repeat' (first | exact trivial | (refine ⟨?_, ?_⟩) | (intro _) | kernel_rfl | exact ze4 ..)
theorem zkk (φ : Nat) : z13 TV Tryz.prog 14 (z8x φ) :=
 z1k (N := z8m Tryz.prog φ) (zx ⟨z1j φ, trivial⟩ trivial ⟨z6f φ, trivial⟩) (z5j φ) Tryz.func14 (by kernel_rfl) (zjb φ) (zjt φ)
theorem zc5 (φ : Nat) (x11 : Int) (x12 : Int) (x13 : (List z7)) : zu (z2y φ x11 x12 x13) (z4d φ x11 x12 x13) := by
 unfold z2y z4d
 repeat' (first | exact zu.one | exact zu.nil | refine zu.cons ?_ ?_ | refine zu.ck ?_ | exact zu.same (n := 2) rfl | exact zu.same (n := 3) rfl | exact zu.same (n := 4) rfl | exact zu.same (n := 6) rfl | refine zu.bind fun _ => ?_)
def z40 (φ : Nat) : H TV (RTup TT [.val 0]) := (.seq .x (.seq (.join ⟨[(37, [(6, .ptr 0 0), (7, .ptr 1 0)])], [.box 61 [.val 35], .box 61 [.val 35]]⟩ (fun z => z3g φ z.1 z.2.1) (.alt ⟨[(37, [(0, .val 0), (1, .val 0), (2, .rop 38)])], []⟩ (fun z => z2y φ z.1 z.2.1 z.2.2.1) (fun z => z4d φ z.1 z.2.1 z.2.2.1))) .x))
def z6s (P : Program) (φ : Nat) : Env TV := ⟨P, lk [(37, z8g φ), (36, zih φ)], lk [], lk []⟩
theorem zgd (φ : Nat) (a b) : (z6k φ).F a b = fnXc TV (z6s Tryz.prog φ) φ Tryz.f35 [0, 0] [.b (.val 38)] [.val 0] (z40 φ) a b := by kernel_rfl
theorem zhd (φ : Nat) : fnO TV (z6s Tryz.prog φ) φ Tryz.f35 [.val 0] (z40 φ) := by
 unfold fnO
 show obl _ _ _ _ _ _ _
 unfold z40
 repeat' (first | exact trivial | (refine ⟨?_, ?_⟩) | (intro _) | kernel_rfl | exact zc5 ..)
theorem zgy (φ : Nat) : zqw TV Tryz.prog 35 (z6k φ) :=
 zug (N := z6s Tryz.prog φ) (zx ⟨zfp φ, zsq φ, trivial⟩ trivial trivial) (z40 φ) Tryz.func35 (by kernel_rfl) (zgd φ) (zhd φ)
theorem ze5 (φ : Nat) (x93 : Pool) (x94 : (List Int)) (x95 : (List (Int × Bool))) (x96 : (List z7)) : zu (z41 φ x93 x94 x95 x96) (z68 φ x93 x94 x95 x96) := by
 unfold z41 z68
 repeat' (first | exact zu.one | exact zu.nil | refine zu.cons ?_ ?_ | refine zu.ck ?_ | exact zu.same (n := 2) rfl | exact zu.same (n := 3) rfl | exact zu.same (n := 4) rfl | exact zu.same (n := 6) rfl | refine zu.bind fun _ => ?_)
def z5h (φ : Nat) : H TV (RTup TT [.val 38, .val 0]) := (.seq .x (.seq .x (.seq .x (.seq .x (.seq .x (.seq (.seq .x (.body (.loop ⟨[(64, [(2, .ptr 0 0), (3, .ptr 1 0), (7, .own 2), (29, .val 0), (30, .val 0)])], [.box 36 [.val 30], .box 37 [.val 38], .row 3 0]⟩ (fun n z => z7r φ n z.1 z.2.1 z.2.2.1 z.2.2.2.1 z.2.2.2.2.1) (fun zk9 => .x)))) (.seq (.ins 2 34 (.ins 4 57 (.seq .x (.seq .x (.seq (.body (.loop ⟨[(63, [(0, .own 0), (1, .val 0), (2, .func 35 [.ptr 1 0]), (6, .val 0), (7, .val 0), (8, .val 0)]), (9, []), (64, [(2, .ptr 2 0), (3, .ptr 1 0), (7, .own 0)])], [.row 3 0, .box 37 [.val 38], .box 36 [.val 30]]⟩ (fun n z => z6x φ n z.1 z.2.1 z.2.2.1 z.2.2.2.1 z.2.2.2.2.1 z.2.2.2.2.2.1 z.2.2.2.2.2.2.1) (fun zk17 => (.seq .x (.body (.seq (.ins 4 83 (.seq .x (.body (.loop ⟨[(53, [(0, .own 0), (1, .val 0), (2, .val 0), (3, .func 35 [.ptr 1 0]), (8, .val 0)]), (63, [(0, .own 0), (1, .val 0), (2, .func 35 [.ptr 1 0]), (6, .val 0), (8, .val 0)]), (9, []), (64, [(2, .ptr 2 0), (3, .ptr 1 0), (7, .own 0)])], [.row 3 0, .box 37 [.val 38], .box 36 [.val 30]]⟩ (fun n z => z6q φ (fun a0 a1 a2 a3 a4 a5 a6 => zk17 (a0, a1, a2, a3, a4, a5, a6, ())) n z.1 z.2.1 z.2.2.1 z.2.2.2.1 z.2.2.2.2.1 z.2.2.2.2.2.1 z.2.2.2.2.2.2.1 z.2.2.2.2.2.2.2.1 z.2.2.2.2.2.2.2.2.1) (fun zk27 => (.seq .x (.seq (.body (.seq .x (.body (.loop ⟨[(53, [(0, .own 0), (1, .val 0), (2, .val 0), (3, .func 35 [.ptr 1 0]), (8, .val 0), (9, .val 0)]), (63, [(0, .own 0), (1, .val 0), (2, .func 35 [.ptr 1 0]), (6, .val 0), (8, .val 0)]), (9, []), (64, [(2, .ptr 2 0), (3, .ptr 1 0), (7, .own 0)])], [.row 3 0, .box 37 [.val 38], .box 36 [.val 30]]⟩ (fun n z => z6l φ (fun a0 a1 a2 a3 a4 a5 a6 a7 a8 => zk27 (a0, a1, a2, a3, a4, a5, a6, a7, a8, ())) n z.1 z.2.1 z.2.2.1 z.2.2.2.1 z.2.2.2.2.1 z.2.2.2.2.2.1 z.2.2.2.2.2.2.1 z.2.2.2.2.2.2.2.1 z.2.2.2.2.2.2.2.2.1 z.2.2.2.2.2.2.2.2.2.1) (fun zk38 => .x))))) .x)))))) .x) .x)))))) (.seq (.ins 4 83 (.seq .x (.body (.loop ⟨[(53, [(0, .own 0), (1, .val 0), (2, .val 0), (3, .func 35 [.ptr 1 0]), (8, .val 0)]), (63, [(0, .own 0), (1, .val 0), (2, .func 35 [.ptr 1 0]), (6, .val 0)]), (9, []), (64, [(2, .ptr 2 0), (3, .ptr 1 0), (7, .own 0)])], [.row 3 0, .box 37 [.val 38], .box 36 [.val 30]]⟩ (fun n z => z74 φ n z.1 z.2.1 z.2.2.1 z.2.2.2.1 z.2.2.2.2.1 z.2.2.2.2.2.1 z.2.2.2.2.2.2.1 z.2.2.2.2.2.2.2.1) (fun zk48 => (.seq .x (.seq (.body (.seq .x (.body (.loop ⟨[(53, [(0, .own 0), (1, .val 0), (2, .val 0), (3, .func 35 [.ptr 1 0]), (8, .val 0), (9, .val 0)]), (63, [(0, .own 0), (1, .val 0), (2, .func 35 [.ptr 1 0]), (6, .val 0)]), (9, []), (64, [(2, .ptr 2 0), (3, .ptr 1 0), (7, .own 0)])], [.row 3 0, .box 37 [.val 38], .box 36 [.val 30]]⟩ (fun n z => z6r φ (fun a0 a1 a2 a3 a4 a5 a6 a7 => zk48 (a0, a1, a2, a3, a4, a5, a6, a7, ())) n z.1 z.2.1 z.2.2.1 z.2.2.2.1 z.2.2.2.2.1 z.2.2.2.2.2.1 z.2.2.2.2.2.2.1 z.2.2.2.2.2.2.2.1 z.2.2.2.2.2.2.2.2.1) (fun zk58 => .x))))) .x)))))) .x) (.body (.loop ⟨[(63, [(0, .own 0), (1, .val 0), (2, .func 35 [.ptr 1 0]), (6, .val 0)]), (9, []), (64, [(2, .ptr 2 0), (3, .ptr 1 0), (7, .own 0)])], [.row 3 0, .box 37 [.val 38], .box 36 [.val 30]]⟩ (fun n z => z6y φ n z.1 z.2.1 z.2.2.1 z.2.2.2.1 z.2.2.2.2.1) (fun zk65 => (.seq .x (.body (.seq .x (.seq (.body (.loop ⟨[(63, [(0, .own 0), (1, .val 0), (2, .func 35 [.ptr 1 0]), (6, .val 0), (7, .val 0), (8, .val 0)]), (9, []), (64, [(2, .ptr 2 0), (3, .ptr 1 0), (7, .own 0)])], [.row 3 0, .box 37 [.val 38], .box 36 [.val 30]]⟩ (fun n z => zax φ (fun a0 a1 a2 a3 a4 => zk65 (a0, a1, a2, a3, a4, ())) n z.1 z.2.1 z.2.2.1 z.2.2.2.1 z.2.2.2.2.1 z.2.2.2.2.2.1 z.2.2.2.2.2.2.1) (fun zk73 => (.seq .x (.body (.seq (.ins 7 84 .no .x) .x)))))) (.seq (.seq .x (.seq .x (.cond (.ins 5 84 .no .x) .x))) .x)))))))))))) .x) .x) (.seq (.ins 2 33 (.seq .x (.seq .x (.seq .x (.seq .x (.seq (.join ⟨[(13, [(4, .ptr 0 0), (5, .func 56 [.ptr 1 0, .ptr 2 0]), (6, .ptr 2 0)]), (64, [(7, .own 3)])], [.box 78 [.own 4], .box 36 [.val 30], .box 79 [.func 55 [.ptr 5 0, .ptr 0 0]], .row 3 0, .map 0 2, .box 37 [.val 38]]⟩ (fun z => z3q φ z.1 z.2.1 z.2.2.1 z.2.2.2.1) (.alt ⟨[(13, [(4, .ptr 0 0), (5, .func 56 [.ptr 1 0, .ptr 2 0]), (6, .ptr 2 0)]), (64, [(7, .own 3)])], [.box 78 [.own 4], .box 36 [.val 30], .box 79 [.func 55 [.ptr 5 0, .ptr 0 0]], .row 3 0, .map 0 2, .box 37 [.val 38]]⟩ (fun z => z41 φ z.1 z.2.1 z.2.2.1 z.2.2.2.1) (fun z => z68 φ z.1 z.2.1 z.2.2.1 z.2.2.2.1))) .x))))) .x) (.seq (.seq .x (.body (.loop ⟨[(64, [(9, .own 0), (10, .func 56 [.ptr 1 0, .ptr 2 0]), (11, .func 55 [.ptr 3 0, .ptr 4 0]), (48, .own 5), (49, .val 0), (50, .val 0)])], [.map 0 2, .box 36 [.val 30], .box 79 [.func 55 [.ptr 3 0, .ptr 4 0]], .box 37 [.val 38], .box 78 [.own 0], .row 3 0]⟩ (fun n z => z3v φ n z.1 z.2.1 z.2.2.1 z.2.2.2.1 z.2.2.2.2.1 z.2.2.2.2.2.1) (fun zk85 => .x)))) (.seq (.ins 1 55 (.seq .x (.seq (.seq .x (.body (.loop ⟨[(21, [(1, .ptr 0 0), (2, .own 1), (5, .val 38), (6, .val 0), (7, .val 0)]), (64, [])], [.box 78 [.own 2], .row 61 35, .map 0 2]⟩ (fun n z => z3y φ n z.1 z.2.1 z.2.2.1 z.2.2.2.1 z.2.2.2.2.1) (fun zk92 => .x)))) .x)) .x) .x))))))))))
def z8v (P : Program) (φ : Nat) : Env TV := ⟨P, lk [(12, z07 φ)], lk [], lk [(35, z6k φ), (56, z2f φ)]⟩
theorem zio (φ : Nat) (a) : (z8n φ).F a = fnX TV (z8v Tryz.prog φ) φ Tryz.f16 [30, 38] [.val 38, .val 0] (z5h φ) a := by kernel_rfl
theorem zkm (φ : Nat) : fnO TV (z8v Tryz.prog φ) φ Tryz.f16 [.val 38, .val 0] (z5h φ) := by
 unfold fnO
 show obl _ _ _ _ _ _ _
 unfold z5h
 repeat' (first | exact trivial | (refine ⟨?_, ?_⟩) | (intro _) | kernel_rfl | exact ze5 ..)
theorem zit (φ : Nat) : z13 TV Tryz.prog 16 (z8n φ) :=
 z1k (N := z8v Tryz.prog φ) (zx ⟨z1j φ, trivial⟩ trivial ⟨zgy φ, z6f φ, trivial⟩) (z5h φ) Tryz.func16 (by kernel_rfl) (zio φ) (zkm φ)
def z4y (φ : Nat) : H TV (RTup TT [.val 2]) := (.seq .x (.seq .x (.seq (.seq .x (.body (.loop ⟨[(26, [(0, .val 51), (1, .val 51), (5, .val 0)])], []⟩ (fun n z => z6u φ n z.1 z.2.1 z.2.2.1) (fun zk6 => .x)))) .x)))
def z7v (P : Program) (φ : Nat) : Env TV := ⟨P, lk [], lk [], lk []⟩
theorem zhu (φ : Nat) (a) : (z7s φ).F a = fnX TV (z7v Tryz.prog φ) φ Tryz.f18 [51, 51] [.val 2] (z4y φ) a := by kernel_rfl
theorem zi3 (φ : Nat) : fnO TV (z7v Tryz.prog φ) φ Tryz.f18 [.val 2] (z4y φ) := by
 unfold fnO
 show obl _ _ _ _ _ _ _
 unfold z4y
 repeat' (first | exact trivial | (refine ⟨?_, ?_⟩) | (intro _) | kernel_rfl)
theorem zhw (φ : Nat) : z13 TV Tryz.prog 18 (z7s φ) :=
 z1k (N := z7v Tryz.prog φ) (zx trivial trivial trivial) (z4y φ) Tryz.func18 (by kernel_rfl) (zhu φ) (zi3 φ)
def z8j (φ : Nat) : H TV (RTup TT [.val 0]) := .x
def zbk (P : Program) (φ : Nat) : Env TV := ⟨P, lk [], lk [], lk []⟩
theorem zm1 (φ : Nat) (a) : (zbb φ).F a = fnX TV (zbk Tryz.prog φ) φ Tryz.f85 [34, 52] [.val 0] (z8j φ) a := by kernel_rfl
theorem zmq (φ : Nat) : fnO TV (zbk Tryz.prog φ) φ Tryz.f85 [.val 0] (z8j φ) := by
 unfold fnO
 show obl _ _ _ _ _ _ _
 unfold z8j
 repeat' (first | exact trivial | (refine ⟨?_, ?_⟩) | (intro _) | kernel_rfl)
theorem zn7 (φ : Nat) : z13 TV Tryz.prog 85 (zbb φ) :=
 z1k (N := zbk Tryz.prog φ) (zx trivial trivial trivial) (z8j φ) Tryz.func85 (by kernel_rfl) (zm1 φ) (zmq φ)
def z43 (φ : Nat) : H TV (RTup TT [.val 2]) := (.seq .x (.seq .x (.seq (.seq .x (.body (.loop ⟨[(26, [(0, .val 33), (1, .val 33), (5, .val 0)])], []⟩ (fun n z => z5u φ n z.1 z.2.1 z.2.2.1) (fun zk6 => .x)))) .x)))
def z6p (P : Program) (φ : Nat) : Env TV := ⟨P, lk [], lk [], lk []⟩
theorem zgb (φ : Nat) (a) : (z6w φ).F a = fnX TV (z6p Tryz.prog φ) φ Tryz.f86 [33, 33] [.val 2] (z43 φ) a := by kernel_rfl
theorem zgq (φ : Nat) : fnO TV (z6p Tryz.prog φ) φ Tryz.f86 [.val 2] (z43 φ) := by
 unfold fnO
 show obl _ _ _ _ _ _ _
 unfold z43
 repeat' (first | exact trivial | (refine ⟨?_, ?_⟩) | (intro _) | kernel_rfl)
theorem zgw (φ : Nat) : z13 TV Tryz.prog 86 (z6w φ) :=
 z1k (N := z6p Tryz.prog φ) (zx trivial trivial trivial) (z43 φ) Tryz.func86 (by kernel_rfl) (zgb φ) (zgq φ)
def z9p (φ : Nat) : H TV (RTup TT [.val 2]) := (.seq .x (.seq (.seq .x (.body (.loop ⟨[(45, [(2, .ptr 0 0), (3, .ptr 1 0), (5, .val 0)])], [.box 59 [.val 34], .box 59 [.val 34]]⟩ (fun n z => zb7 φ n z.1 z.2.1 z.2.2.1) (fun zk6 => .x)))) .x))
def zce (P : Program) (φ : Nat) : Env TV := ⟨P, lk [(85, zbb φ), (86, z6w φ)], lk [], lk []⟩
theorem zp0 (φ : Nat) (a) : (zcz φ).F a = fnX TV (zce Tryz.prog φ) φ Tryz.f59 [34, 34] [.val 2] (z9p φ) a := by kernel_rfl
theorem zpy (φ : Nat) : fnO TV (zce Tryz.prog φ) φ Tryz.f59 [.val 2] (z9p φ) := by
 unfold fnO
 show obl _ _ _ _ _ _ _
 unfold z9p
 repeat' (first | exact trivial | (refine ⟨?_, ?_⟩) | (intro _) | kernel_rfl)
theorem zov (φ : Nat) : z13 TV Tryz.prog 59 (zcz φ) :=
 z1k (N := zce Tryz.prog φ) (zx ⟨zn7 φ, zgw φ, trivial⟩ trivial trivial) (z9p φ) Tryz.func59 (by kernel_rfl) (zp0 φ) (zpy φ)
def z2x (φ : Nat) : H TV (RTup TT [.val 2]) := (.seq .x (.seq .x (.seq (.seq .x (.body (.loop ⟨[(68, [(0, .val 38), (1, .val 38), (5, .val 0)])], []⟩ (fun n z => z4c φ n z.1 z.2.1 z.2.2.1) (fun zk6 => .x)))) .x)))
def z54 (P : Program) (φ : Nat) : Env TV := ⟨P, lk [(59, zcz φ)], lk [], lk []⟩
theorem zek (φ : Nat) (a) : (z57 φ).F a = fnX TV (z54 Tryz.prog φ) φ Tryz.f38 [38, 38] [.val 2] (z2x φ) a := by kernel_rfl
theorem zes (φ : Nat) : fnO TV (z54 Tryz.prog φ) φ Tryz.f38 [.val 2] (z2x φ) := by
 unfold fnO
 show obl _ _ _ _ _ _ _
 unfold z2x
 repeat' (first | exact trivial | (refine ⟨?_, ?_⟩) | (intro _) | kernel_rfl)
theorem zeq (φ : Nat) : z13 TV Tryz.prog 38 (z57 φ) :=
 z1k (N := z54 Tryz.prog φ) (zx ⟨zov φ, trivial⟩ trivial trivial) (z2x φ) Tryz.func38 (by kernel_rfl) (zek φ) (zes φ)
def z9z (φ : Nat) : H TV (RTup TT [.val 2]) := .x
def zd3 (P : Program) (φ : Nat) : Env TV := ⟨P, lk [(38, z57 φ)], lk [], lk []⟩
theorem zqh (φ : Nat) (a) : (zct φ).F a = fnX TV (zd3 Tryz.prog φ) φ Tryz.f19 [38, 38] [.val 2] (z9z φ) a := by kernel_rfl
theorem zom (φ : Nat) : fnO TV (zd3 Tryz.prog φ) φ Tryz.f19 [.val 2] (z9z φ) := by
 unfold fnO
 show obl _ _ _ _ _ _ _
 unfold z9z
 repeat' (first | exact trivial | (refine ⟨?_, ?_⟩) | (intro _) | kernel_rfl)
theorem zpn (φ : Nat) : z13 TV Tryz.prog 19 (zct φ) :=
 z1k (N := zd3 Tryz.prog φ) (zx ⟨zeq φ, trivial⟩ trivial trivial) (z9z φ) Tryz.func19 (by kernel_rfl) (zqh φ) (zom φ)
def z9s (φ : Nat) : H TV (RTup TT [.val 2]) := .x
def zcm (P : Program) (φ : Nat) : Env TV := ⟨P, lk [(27, z8o φ), (28, zaj φ), (12, z07 φ), (14, z8x φ), (16, z8n φ), (18, z7s φ), (19, zct φ)], lk [], lk []⟩
theorem zpz (φ : Nat) (a) : (zdi φ).F a = fnX TV (zcm Tryz.prog φ) φ Tryz.f10 [] [.val 2] (z9s φ) a := by kernel_rfl
theorem zoq (φ : Nat) : fnO TV (zcm Tryz.prog φ) φ Tryz.f10 [.val 2] (z9s φ) := by
 unfold fnO
 show obl _ _ _ _ _ _ _
 unfold z9s
 repeat' (first | exact trivial | (refine ⟨?_, ?_⟩) | (intro _) | kernel_rfl)
theorem zp7 (φ : Nat) : z13 TV Tryz.prog 10 (zdi φ) :=
 z1k (N := zcm Tryz.prog φ) (zx ⟨zjl φ, zkx φ, z1j φ, zkk φ, zit φ, zhw φ, zpn φ, trivial⟩ trivial trivial) (z9s φ) Tryz.func10 (by kernel_rfl) (zpz φ) (zoq φ)
def z3s (φ : Nat) : H TV (RTup TT [.val 2]) := (.seq .x (.seq .x (.seq (.seq .x (.body (.loop ⟨[(65, [(1, .ptr 0 0), (3, .val 0)])], [.box 36 [.val 30]]⟩ (fun n z => z0s φ n z.1 z.2.1) (fun zk4 => .x)))) .x)))
def z6j (P : Program) (φ : Nat) : Env TV := ⟨P, lk [], lk [], lk []⟩
theorem zgj (φ : Nat) (a) : (z75 φ).F a = fnX TV (z6j Tryz.prog φ) φ Tryz.f29 [30] [.val 2] (z3s φ) a := by kernel_rfl
theorem zhe (φ : Nat) : fnO TV (z6j Tryz.prog φ) φ Tryz.f29 [.val 2] (z3s φ) := by
 unfold fnO
 show obl _ _ _ _ _ _ _
 unfold z3s
 repeat' (first | exact trivial | (refine ⟨?_, ?_⟩) | (intro _) | kernel_rfl)
theorem zh8 (φ : Nat) : z13 TV Tryz.prog 29 (z75 φ) :=
 z1k (N := z6j Tryz.prog φ) (zx trivial trivial trivial) (z3s φ) Tryz.func29 (by kernel_rfl) (zgj φ) (zhe φ)
def z3h (φ : Nat) : H TV (RTup TT [.val 2]) := (.seq .x (.seq .x (.seq (.seq .x (.body (.loop ⟨[(34, [(0, .val 38), (5, .val 0)])], []⟩ (fun n z => z16 φ n z.1 z.2.1) (fun zk5 => .x)))) .x)))
def z5o (P : Program) (φ : Nat) : Env TV := ⟨P, lk [], lk [], lk []⟩
theorem zg7 (φ : Nat) (a) : (z63 φ).F a = fnX TV (z5o Tryz.prog φ) φ Tryz.f30 [38, 0] [.val 2] (z3h φ) a := by kernel_rfl
theorem zf0 (φ : Nat) : fnO TV (z5o Tryz.prog φ) φ Tryz.f30 [.val 2] (z3h φ) := by
 unfold fnO
 show obl _ _ _ _ _ _ _
 unfold z3h
 repeat' (first | exact trivial | (refine ⟨?_, ?_⟩) | (intro _) | kernel_rfl)
theorem zf4 (φ : Nat) : z13 TV Tryz.prog 30 (z63 φ) :=
 z1k (N := z5o Tryz.prog φ) (zx trivial trivial trivial) (z3h φ) Tryz.func30 (by kernel_rfl) (zg7 φ) (zf0 φ)
def zbl (φ : Nat) : H TV (RTup TT [.val 2]) := .x
def zen (P : Program) (φ : Nat) : Env TV := ⟨P, lk [(29, z75 φ), (30, z63 φ)], lk [], lk []⟩
theorem zr4 (φ : Nat) (a) : (zei φ).F a = fnX TV (zen Tryz.prog φ) φ Tryz.f11 [30, 38] [.val 2] (zbl φ) a := by kernel_rfl
theorem zs6 (φ : Nat) : fnO TV (zen Tryz.prog φ) φ Tryz.f11 [.val 2] (zbl φ) := by
 unfold fnO
 show obl _ _ _ _ _ _ _
 unfold zbl
 repeat' (first | exact trivial | (refine ⟨?_, ?_⟩) | (intro _) | kernel_rfl)
theorem zrt (φ : Nat) : z13 TV Tryz.prog 11 (zei φ) :=
 z1k (N := zen Tryz.prog φ) (zx ⟨zh8 φ, zf4 φ, trivial⟩ trivial trivial) (zbl φ) Tryz.func11 (by kernel_rfl) (zr4 φ) (zs6 φ)
end Px
end
section
set_option linter.unusedVariables false
set_option linter.unusedSimpArgs false
set_option maxHeartbeats 4000000
set_option maxRecDepth 100000
namespace Px
open Go Go.RowKit Go.Proofs
def z5s (φ : Nat) : H TV (RTup TT [.val 38]) := (.seq .x (.seq .x (.seq (.seq .x (.body (.loop ⟨[(32, [(0, .val 38), (1, .val 55), (5, .own 0), (6, .val 0)])], [.row 61 35]⟩ (fun n z => z1u φ n z.1 z.2.1 z.2.2.1 z.2.2.2.1) (fun zk7 => .x)))) .x)))
def z95 (P : Program) (φ : Nat) : Env TV := ⟨P, lk [], lk [], lk []⟩
theorem zjn (φ : Nat) (a) : (z9h φ).F a = fnX TV (z95 Tryz.prog φ) φ Tryz.f20 [38, 55] [.val 38] (z5s φ) a := by kernel_rfl
theorem zk3 (φ : Nat) : fnO TV (z95 Tryz.prog φ) φ Tryz.f20 [.val 38] (z5s φ) := by
 unfold fnO
 show obl _ _ _ _ _ _ _
 unfold z5s
 repeat' (first | exact trivial | (refine ⟨?_, ?_⟩) | (intro _) | kernel_rfl)
theorem zj0 (φ : Nat) : z13 TV Tryz.prog 20 (z9h φ) :=
 z1k (N := z95 Tryz.prog φ) (zx trivial trivial trivial) (z5s φ) Tryz.func20 (by kernel_rfl) (zjn φ) (zk3 φ)
def z1o (φ : Nat) : H TV (RTup TT [.val 2]) := .x
def z2t (P : Program) (φ : Nat) : Env TV := ⟨P, lk [(10, zdi φ), (11, zei φ), (12, z07 φ), (20, z9h φ)], lk [], lk []⟩
theorem zam (φ : Nat) (a) : (z1n φ).F a = fnX TV (z2t Tryz.prog φ) φ Tryz.f4 [30, 38, 55] [.val 2] (z1o φ) a := by kernel_rfl
theorem zal (φ : Nat) : fnO TV (z2t Tryz.prog φ) φ Tryz.f4 [.val 2] (z1o φ) := by
 unfold fnO
 show obl _ _ _ _ _ _ _
 unfold z1o
 repeat' (first | exact trivial | (refine ⟨?_, ?_⟩) | (intro _) | kernel_rfl)
theorem zar (φ : Nat) : z13 TV Tryz.prog 4 (z1n φ) :=
 z1k (N := z2t Tryz.prog φ) (zx ⟨zp7 φ, zrt φ, z1j φ, zj0 φ, trivial⟩ trivial trivial) (z1o φ) Tryz.func4 (by kernel_rfl) (zam φ) (zal φ)
end Px
end
section
namespace Px
open Go
set_option linter.unusedVariables false
set_option linter.unusedSimpArgs false
theorem z2h (φ : Nat) (a b c : Int) : zk φ a b c = some (bet a b c, ()) := rfl
def zk0 (t : z0t) : Bool :=
 bet t.load 0 1000000 && bet t.tare 0 1000000 && bet t.length 0 1000000 && bet t.brake 0 1000000 && bet t.gauge 0 7 && bet t.life 1 1073741824 && bet t.floor 0 100
def zep (n : Int) (w : zfe) : Bool :=
 bet w.type_ 0 (n - 1) && bet w.owner 0 63 && bet w.home 0 511 && bet w.built 0 1073741824 && bet w.worth 0 1099511627776
def zlk (n : Int) (s : Swap) : Bool := bet s.wanted 0 (n - 1) && bet s.given 0 (n - 1) && (s.wanted != s.given) && bet s.cost 0 1000000000
def zxb (w : Wash) : Bool := bet w.from_ 0 63 && bet w.to 0 63 && (w.from_ != w.to) && bet w.minutes 0 100000
def keyW (w : Wash) : Int := 64 * w.from_ + w.to
def z5y (l : List Wash) (i : Nat) : Bool := zxb (gt l (i : Int)) && !(l.take i).any fun v => keyW v == keyW (gt l (i : Int))
def z9u (l : List Wash) : Bool := (List.range l.length).all (z5y l)
def z6a (x : za9) : Int :=
 bif decide (32 < x.types.length) || decide (4096 < x.wagons.length) || decide (1024 < x.swaps.length) || decide (4096 < x.washes.length) then 2 else
 bif x.types.all zk0 && x.wagons.all (zep x.types.length) && x.swaps.all (zlk x.types.length) && z9u x.washes then 0 else 1
theorem zeb (p : Nat -> Bool) (i : Nat) : (List.range (i + 1)).all p = ((List.range i).all p && p i) := by
 rw [List.range_succ, List.all_append]; simp
theorem zh6 (φ : Nat) (x : za9) (hl : x.swaps.length <= 1024) (ht : x.types.length <= 32) :
  ∀ n s, x.swaps.length < n -> z0f φ n x.swaps (x.swaps.length : Int) 0 x s = zm φ φ x.washes (x.washes.length : Int) 0 (bif x.swaps.all (zlk (x.types.length : Int)) then s else 1) (fun _ => default) := by
 have hp : W ((x.types.length : Int) - 1) = (x.types.length : Int) - 1 := W_id (by omega) (by omega)
 refine zif (fun n i s => z0f φ n x.swaps (x.swaps.length : Int) i x s) (fun s => zm φ φ x.washes (x.washes.length : Int) 0 s (fun _ => default)) _ _ ?_ ?_
 ·intro n i s hi
  have hW : W ((i : Int) + 1) = (i : Int) + 1 := W_id (by omega) (by omega)
  rw [z0f, if_pos (by simp; omega), z8 ⟨by omega, by omega⟩]
  simp only [z2h, Option.bind_some, zlk, z1q, hW, hp]
  cases bet (gt x.swaps i).wanted 0 ((x.types.length : Int) - 1) <;> cases bet (gt x.swaps i).given 0 ((x.types.length : Int) - 1) <;> cases ((gt x.swaps i).wanted != (gt x.swaps i).given) <;>
   cases bet (gt x.swaps i).cost 0 1000000000 <;> rfl
 ·intro n s
  rw [z0f, if_neg (by simp)]
theorem zfd (φ : Nat) (x : za9) (hl : x.wagons.length <= 4096) (ht : x.types.length <= 32) :
  ∀ n s, x.wagons.length < n -> z04 φ n x.wagons (x.wagons.length : Int) 0 x s = z0f φ φ x.swaps (x.swaps.length : Int) 0 x (bif x.wagons.all (zep (x.types.length : Int)) then s else 1) := by
 have hp : W ((x.types.length : Int) - 1) = (x.types.length : Int) - 1 := W_id (by omega) (by omega)
 refine zif (fun n i s => z04 φ n x.wagons (x.wagons.length : Int) i x s) (fun s => z0f φ φ x.swaps (x.swaps.length : Int) 0 x s) _ _ ?_ ?_
 ·intro n i s hi
  have hW : W ((i : Int) + 1) = (i : Int) + 1 := W_id (by omega) (by omega)
  rw [z04, if_pos (by simp; omega), z8 ⟨by omega, by omega⟩]
  simp only [z2h, Option.bind_some, zep, z1q, hW, hp]
  cases bet (gt x.wagons i).type_ 0 ((x.types.length : Int) - 1) <;> cases bet (gt x.wagons i).owner 0 63 <;> cases bet (gt x.wagons i).home 0 511 <;>
   cases bet (gt x.wagons i).built 0 1073741824 <;> cases bet (gt x.wagons i).worth 0 1099511627776 <;> rfl
 ·intro n s
  rw [z04, if_neg (by simp)]
theorem zi9 (φ : Nat) (k : List z0t -> Int -> Int -> za9 -> Int -> Option (Int × Unit)) (ts : List z0t) (len i : Int) (x : za9) (t : z0t) (n : Nat) (s : Int) (hn : 4 < n) :
  z1d φ k n ts len i 4 0 x s t [t.load, t.tare, t.length, t.brake] = k ts len (W (i + 1)) x (bif zk0 t then s else 1) := by
 have h := zif (fun n j s => z1d φ k n ts len i 4 j x s t [t.load, t.tare, t.length, t.brake]) (fun s => k ts len (W (i + 1)) x (bif (bet t.gauge 0 7 && bet t.life 1 1073741824 && bet t.floor 0 100) then s else 1))
  [t.load, t.tare, t.length, t.brake] (fun a => bet a 0 1000000) (fun n j s hi => by
   rw [z1d, if_pos (by simp at hi ⊢; omega), z8 ⟨by omega, by omega⟩]
   simp at hi
   have hW : W ((j : Int) + 1) = (j : Int) + 1 := W_id (by omega) (by omega)
   simp only [z2h, Option.bind_some, hW]
   cases bet (gt [t.load, t.tare, t.length, t.brake] (j : Int)) 0 1000000 <;> rfl) (fun n s => by
   rw [z1d, if_neg (by simp)]
   simp only [z2h, Option.bind_some, z1q]
   cases bet t.gauge 0 7 <;> cases bet t.life 1 1073741824 <;> cases bet t.floor 0 100 <;> rfl) n s hn
 rw [h]
 simp only [zk0, List.all_cons, List.all_nil]
 cases bet t.load 0 1000000 <;> cases bet t.tare 0 1000000 <;> cases bet t.length 0 1000000 <;> cases bet t.brake 0 1000000 <;>
   cases bet t.gauge 0 7 <;> cases bet t.life 1 1073741824 <;> cases bet t.floor 0 100 <;> rfl
theorem zh0 (φ : Nat) (hφ : 4 < φ) (x : za9) (hl : x.types.length <= 32) :
  ∀ n s, x.types.length < n -> z2q φ n x.types (x.types.length : Int) 0 x s = z04 φ φ x.wagons (x.wagons.length : Int) 0 x (bif x.types.all zk0 then s else 1) := by
 refine zif (fun n i s => z2q φ n x.types (x.types.length : Int) i x s) (fun s => z04 φ φ x.wagons (x.wagons.length : Int) 0 x s) _ _ ?_ ?_
 ·intro n i s hi
  rw [z2q, if_pos (by simp; omega), z8 ⟨by omega, by omega⟩]
  have hW : W ((i : Int) + 1) = (i : Int) + 1 := W_id (by omega) (by omega)
  refine (zi9 φ _ x.types (x.types.length : Int) (i : Int) x (gt x.types i) φ s hφ).trans ?_
  rw [hW]
 ·intro n s
  rw [z2q, if_neg (by simp)]
theorem zg4 (φ : Nat) (x : za9) (hl : x.washes.length <= 4096) (n : Nat) (s : Int) (hn : x.washes.length < n) :
  zm φ n x.washes (x.washes.length : Int) 0 s (fun _ => default) = some (bif z9u x.washes then s else 1, ()) := by
 refine z0k (fun n i (t : Int × (Nat -> Bool)) => zm φ n x.washes (x.washes.length : Int) i t.1 t.2) x.washes.length
  (fun i t => t.1 = (bif (List.range i).all (z5y x.washes) then s else 1) /\ ((List.range i).all (z5y x.washes) = true -> ∀ j : Nat, t.2 j = (x.washes.take i).any fun v => keyW v == (j : Int)))
  (fun o => o = some (bif z9u x.washes then s else 1, ())) ?_ ?_ n (s, fun _ => false) ⟨by simp, by simp⟩ hn
 ·intro n i t hi ⟨h1, h2⟩ hs
  have hW : W ((i : Int) + 1) = (i : Int) + 1 := W_id (by omega) (by omega)
  rw [zm, if_pos (by simp; omega), z8 ⟨by omega, by omega⟩]
  simp only [z2h, Option.bind_some, z1q, hW]
  have hok : zxb (gt x.washes i) = (bet (gt x.washes i).from_ 0 63 && bet (gt x.washes i).to 0 63 && ((gt x.washes i).from_ != (gt x.washes i).to) && bet (gt x.washes i).minutes 0 100000) := rfl
  have hsucc := zeb (z5y x.washes) i
  cases hw : zxb (gt x.washes i) with
  | false =>
   have hf : (List.range (i + 1)).all (z5y x.washes) = false := by rw [hsucc]; simp [z5y, hw]
   have h3 : zm φ n x.washes (x.washes.length : Int) ((i : Int) + 1) 1 t.2 = some (bif z9u x.washes then s else 1, ()) := hs (1, t.2) ⟨by rw [hf]; rfl, by rw [hf]; intro h; cases h⟩
   rw [hw] at hok
   rw [<- h3]
   generalize bet (gt x.washes i).from_ 0 63 = a at *; generalize bet (gt x.washes i).to 0 63 = b at *; generalize ((gt x.washes i).from_ != (gt x.washes i).to) = c at *; generalize bet (gt x.washes i).minutes 0 100000 = d at *
   cases a <;> cases b <;> cases c <;> cases d <;> first | (exact absurd hok (by decide)) | rfl
  | true =>
   rw [hw] at hok
   have hb := hok.symm
   simp only [Bool.and_eq_true] at hb
   obtain ⟨⟨⟨b1, b2⟩, b3⟩, b4⟩ := hb
   have c1 := zzk b1; have c2 := zzk b2
   simp only [b1, b2, b3, b4, Bool.and_self, if_true, Option.bind_some, Bool.not_true, Bool.false_eq_true, if_false]
   rw [z8 ⟨by omega, by omega⟩, z8 ⟨by omega, by omega⟩]
   have hkey : ((gt x.washes i).from_.toNat * 64 + (gt x.washes i).to.toNat : Nat) = (keyW (gt x.washes i)).toNat := by unfold keyW; omega
   have hk0 : ((keyW (gt x.washes i)).toNat : Int) = keyW (gt x.washes i) := by unfold keyW; omega
   have key : ∀ e, (e = bif (List.range (i + 1)).all (z5y x.washes) then s else 1) ->
     zm φ n x.washes (x.washes.length : Int) ((i : Int) + 1) e (upd t.2 (keyW (gt x.washes i)).toNat true) = some (bif z9u x.washes then s else 1, ()) := by
    intro e he
    refine hs (e, _) ⟨he, fun hall j => ?_⟩
    rw [hsucc, Bool.and_eq_true] at hall
    rw [zfx _ _ _ hi, <- h2 hall.1 j]
    show (if j = (keyW (gt x.washes i)).toNat then true else t.2 j) = _
    by_cases hj : j = (keyW (gt x.washes i)).toNat
    ·simp [hj, hk0]
    ·have : (keyW (gt x.washes i) == (j : Int)) = false := by
      simp; intro h; exact hj (by omega)
     simp [hj, this]
   have e64 : ∀ (p : Prop) [Decidable p] (y : Option (Int × Unit)), p -> ck p y = y := fun p _ y hp => z8 hp
   rw [hkey]
   simp only [e64 _ _ (show (0 : Int) <= (gt x.washes i).from_ /\ (gt x.washes i).from_ < 64 by omega), e64 _ _ (show (0 : Int) <= (gt x.washes i).to /\ (gt x.washes i).to < 64 by omega)]
   cases hall : (List.range i).all (z5y x.washes) with
   | true =>
    have hat : z5y x.washes i = !(t.2 (keyW (gt x.washes i)).toNat) := by
     rw [h2 hall]; simp only [z5y, hw, Bool.true_and, hk0]
    cases ht2 : t.2 (keyW (gt x.washes i)).toNat with
    | true =>
     simp only [Bool.not_true, Bool.not_false, if_true]
     refine key 1 ?_
     rw [hsucc, hat, ht2]; simp
    | false =>
     simp only [Bool.not_true, Bool.not_false, Bool.false_eq_true, if_false]
     refine key t.1 ?_
     rw [hsucc, hat, ht2, h1, hall]; simp
   | false =>
    have hf : (List.range (i + 1)).all (z5y x.washes) = false := by rw [hsucc, hall]; rfl
    have ht1 : t.1 = 1 := by rw [h1, hall]; rfl
    rw [ht1]
    split <;> exact key 1 (by rw [hf]; rfl)
 ·intro n t ⟨h1, _⟩
  rw [zm, if_neg (by simp), h1]; rfl
theorem zl4 (φ : Nat) (hφ : 5000 < φ) (x : za9) : zbm φ x = some (z6a x, ()) := by
 have e : (((decide (32 < (x.types.length : Int)) || decide (4096 < (x.wagons.length : Int))) || decide (1024 < (x.swaps.length : Int))) || decide (4096 < (x.washes.length : Int))) =
   (decide (32 < x.types.length) || decide (4096 < x.wagons.length) || decide (1024 < x.swaps.length) || decide (4096 < x.washes.length)) := by
  congr 1
  ·congr 1
   ·congr 1 <;> (apply decide_eq_decide.2; omega)
   ·apply decide_eq_decide.2; omega
  ·apply decide_eq_decide.2; omega
 unfold zbm z6a
 rw [e]
 cases h : (decide (32 < x.types.length) || decide (4096 < x.wagons.length) || decide (1024 < x.swaps.length) || decide (4096 < x.washes.length)) with
 | true => rfl
 | false =>
  simp only [Bool.or_eq_false_iff, decide_eq_false_iff_not, Nat.not_lt] at h
  obtain ⟨⟨⟨h1, h2⟩, h3⟩, h4⟩ := h
  rw [if_neg (by simp), zh0 φ (by omega) x h1 _ _ (by omega), zfd _ _ h2 h1 _ _ (by omega), zh6 _ _ h3 h1 _ _ (by omega), zg4 _ _ h4 _ _ (by omega)]
  cases x.types.all zk0 <;> cases x.wagons.all (zep x.types.length) <;> cases x.swaps.all (zlk x.types.length) <;> cases z9u x.washes <;> rfl
theorem z9g {x : za9} (h : z6a x = 0) : x.types.length <= 32 /\ x.wagons.length <= 4096 /\ x.swaps.length <= 1024 /\ x.washes.length <= 4096 /\
  (∀ t ∈ x.types, zk0 t = true) /\ (∀ t ∈ x.wagons, zep x.types.length t = true) /\ (∀ t ∈ x.swaps, zlk x.types.length t = true) /\ z9u x.washes = true := by
 unfold z6a at h
 cases h1 : (decide (32 < x.types.length) || decide (4096 < x.wagons.length) || decide (1024 < x.swaps.length) || decide (4096 < x.washes.length)) with
 | true => rw [h1] at h; cases h
 | false =>
  rw [h1] at h
  simp only [Bool.or_eq_false_iff, decide_eq_false_iff_not, Nat.not_lt] at h1
  obtain ⟨⟨⟨a1, a2⟩, a3⟩, a4⟩ := h1
  cases h2 : (x.types.all zk0 && x.wagons.all (zep x.types.length) && x.swaps.all (zlk x.types.length) && z9u x.washes) with
  | false => rw [h2] at h; cases h
  | true =>
   simp only [Bool.and_eq_true, List.all_eq_true] at h2
   exact ⟨a1, a2, a3, a4, h2.1.1.1, h2.1.1.2, h2.1.2, h2.2⟩
end Px
end
section
namespace Px
open Go
set_option linter.unusedVariables false
set_option linter.unusedSimpArgs false
theorem z72 {c : Int} (h : 0 <= c) (h' : c < 18446744073709551616) : (BitVec.ofInt 64 c).toNat = c.toNat := by
 rw [BitVec.toNat_ofInt]; omega
theorem y6t {n : Nat} (h : n < 18446744073709551616) : U (n : Int) = n := U_id (by omega) (by omega)
theorem y4r {a b : Nat} (h : a < 18446744073709551616) : a &&& b < 18446744073709551616 := Nat.lt_of_le_of_lt Nat.and_le_left h
theorem y1k {k : Nat} (h : k <= 63) : (2 ^ k : Nat) < 18446744073709551616 := Nat.lt_of_lt_of_le (Nat.pow_lt_pow_right (by decide) (by omega : k < 64)) (by decide)
theorem yal {c k : Int} (h : 0 <= c) (hk : 0 <= k) (hk' : k <= 63) : c.fdiv (2 ^ (min (k : Int).toNat (IntKind.bits .u64))) = ((c.toNat / 2 ^ k.toNat : Nat) : Int) := by
 have e : min (k : Int).toNat (IntKind.bits .u64) = k.toNat := by simp [IntKind.bits]; omega
 rw [e]
 have e2 : ((2 : Int) ^ k.toNat) = ((2 ^ k.toNat : Nat) : Int) := by simp
 rw [e2, Int.fdiv_eq_ediv_of_nonneg _ (Int.natCast_nonneg _)]
 have : c = (c.toNat : Int) := by omega
 rw [this]; simp
end Px
end
section
namespace Px
open Go
set_option linter.unusedVariables false
set_option linter.unusedSimpArgs false
set_option maxRecDepth 100000
theorem zvt : ((List.range 256).all fun i => decide (0 <= z7o zo i /\ z7o zo i <= 8 /\ i < 2 ^ (z7o zo i).toNat /\ (0 < i -> 0 < z7o zo i /\ 2 ^ ((z7o zo i).toNat - 1) <= i))) = true := by decide +kernel
theorem zki {i : Int} (h : 0 <= i) (h' : i < 256) : ∃ n : Nat, z7o zo i = n /\ n <= 8 /\ i.toNat < 2 ^ n /\ (0 < i -> 0 < n /\ 2 ^ (n - 1) <= i.toNat) := by
 have := List.all_eq_true.1 zvt i.toNat (by simp; omega)
 rw [decide_eq_true_eq, show ((i.toNat : Nat) : Int) = i by omega] at this
 obtain ⟨a, b, c, d⟩ := this
 exact ⟨(z7o zo i).toNat, by omega, by omega, c, fun hi => ⟨by have := (d (by omega)).1; omega, (d (by omega)).2⟩⟩
def z6b (v : Nat) (n : Nat) : Prop := v < 2 ^ n /\ (0 < v -> 0 < n /\ 2 ^ (n - 1) <= v)
theorem z6b.up {v : Nat} (k : Nat) {n : Nat} (h : z6b (v / 2 ^ k) n) (hv : 2 ^ k <= v) : z6b v (n + k) := by
 have hp := Nat.two_pow_pos k
 have hpos : 0 < v / 2 ^ k := Nat.div_pos hv hp
 obtain ⟨h1, h2⟩ := h
 obtain ⟨h3, h4⟩ := h2 hpos
 refine ⟨?_, fun _ => ⟨by omega, ?_⟩⟩
 ·rw [Nat.pow_add]; exact (Nat.div_lt_iff_lt_mul hp).1 h1
 ·have : n + k - 1 = (n - 1) + k := by omega
  rw [this, Nat.pow_add]; exact (Nat.le_div_iff_mul_le hp).1 h4
theorem zyj (φ : Nat) (v w : Int) (h : 0 <= v) (h' : v < 256) (hw : 0 <= w) (hw' : w <= 64) : ∃ n : Nat, z0u φ v w = some (64 - (w + n), ()) /\ n <= 8 /\ z6b v.toNat n := by
 obtain ⟨n, e, hn, a, b⟩ := zki h h'
 have e8 : IntKind.wrap .u8 v = v := by simp [IntKind.wrap, IntKind.bits, IntKind.signed]; omega
 refine ⟨n, ?_, hn, a, fun hv => b (by omega)⟩
 unfold z0u
 rw [e8, z8 ⟨h, h'⟩, e, W_id (x := (n : Int)) (by omega) (by omega), W_id (x := w + n) (by omega) (by omega), W_id (by omega) (by omega)]
theorem sh8 (v : Int) : v.fdiv (2 ^ (min (8 : Int).toNat 64)) = v / 256 := by rw [show ((2 : Int) ^ (min (8 : Int).toNat 64)) = 256 by decide]; exact Int.fdiv_eq_ediv_of_nonneg _ (by omega)
theorem sh16 (v : Int) : v.fdiv (2 ^ (min (16 : Int).toNat 64)) = v / 65536 := by rw [show ((2 : Int) ^ (min (16 : Int).toNat 64)) = 65536 by decide]; exact Int.fdiv_eq_ediv_of_nonneg _ (by omega)
theorem sh32 (v : Int) : v.fdiv (2 ^ (min (32 : Int).toNat 64)) = v / 4294967296 := by rw [show ((2 : Int) ^ (min (32 : Int).toNat 64)) = 4294967296 by decide]; exact Int.fdiv_eq_ediv_of_nonneg _ (by omega)
theorem y4v (φ : Nat) (v w : Int) (h : 0 <= v) (h' : v < 65536) (hw : 0 <= w) (hw' : w <= 48) : ∃ n : Nat, z12 φ v w = some (64 - (w + n), ()) /\ n <= 16 /\ z6b v.toNat n := by
 unfold z12
 by_cases c : 256 <= v
 ·rw [if_pos (by simpa using c), if_pos (by decide), sh8, W_id (by omega) (by omega)]
  obtain ⟨n, e, hn, hl⟩ := zyj φ (v / 256) (w + 8) (by omega) (by omega) (by omega) (by omega)
  refine ⟨n + 8, by rw [e]; congr 2; omega, by omega, ?_⟩
  refine z6b.up 8 ?_ (by omega)
  rwa [show v.toNat / 2 ^ 8 = (v / 256).toNat by omega]
 ·rw [if_neg (by simpa using c)]
  obtain ⟨n, e, hn, hl⟩ := zyj φ v w h (by omega) (by omega) (by omega)
  exact ⟨n, e, by omega, hl⟩
theorem y4s (φ : Nat) (v w : Int) (h : 0 <= v) (h' : v < 4294967296) (hw : 0 <= w) (hw' : w <= 32) : ∃ n : Nat, z10 φ v w = some (64 - (w + n), ()) /\ n <= 32 /\ z6b v.toNat n := by
 unfold z10
 by_cases c : 65536 <= v
 ·rw [if_pos (by simpa using c), if_pos (by decide), sh16, W_id (by omega) (by omega)]
  obtain ⟨n, e, hn, hl⟩ := y4v φ (v / 65536) (w + 16) (by omega) (by omega) (by omega) (by omega)
  refine ⟨n + 16, by rw [e]; congr 2; omega, by omega, ?_⟩
  refine z6b.up 16 ?_ (by omega)
  rwa [show v.toNat / 2 ^ 16 = (v / 65536).toNat by omega]
 ·rw [if_neg (by simpa using c)]
  obtain ⟨n, e, hn, hl⟩ := y4v φ v w h (by omega) (by omega) (by omega)
  exact ⟨n, e, by omega, hl⟩
theorem yaw (φ : Nat) (v : Int) (h : 0 <= v) (h' : v < 18446744073709551616) : ∃ n : Nat, z2c φ v = some (64 - (n : Int), ()) /\ n <= 64 /\ z6b v.toNat n := by
 unfold z2c
 by_cases c : 4294967296 <= v
 ·rw [if_pos (by simpa using c), if_pos (by decide), sh32]
  obtain ⟨n, e, hn, hl⟩ := y4s φ (v / 4294967296) 32 (by omega) (by omega) (by omega) (by omega)
  refine ⟨n + 32, by rw [e]; congr 2; omega, by omega, ?_⟩
  refine z6b.up 32 ?_ (by omega)
  rwa [show v.toNat / 2 ^ 32 = (v / 4294967296).toNat by omega]
 ·rw [if_neg (by simpa using c)]
  obtain ⟨n, e, hn, hl⟩ := y4s φ v 0 h (by omega) (by omega) (by omega)
  exact ⟨n, by rw [e]; simp, by omega, hl⟩
theorem zjp {v : Int} (h : 0 <= v) (h' : v < 18446744073709551616) : U ((BitVec.ofInt 64 v &&& BitVec.ofInt 64 4294967295).toNat) = v % 4294967296 := by
 show U ((BitVec.ofInt 64 v &&& BitVec.ofInt 64 4294967295).toNat : Int) = _
 rw [BitVec.toNat_and, z72 h h', z72 (by omega) (by omega), y6t (y4r (by omega))]
 have : (4294967295 : Int).toNat = 2 ^ 32 - 1 := by decide
 rw [this, Nat.and_two_pow_sub_one_eq_mod]
 omega
theorem zjc {a b m n : Int} (ha : 0 <= a) (hb : 0 <= b) (h : a <= m) (h' : b <= n) : 0 <= a * b /\ a * b <= m * n :=
 ⟨Int.mul_nonneg ha hb, Int.mul_le_mul h h' hb (by omega)⟩
theorem zuc (φ : Nat) (x y : Int) (hx : 0 <= x) (hx' : x < 18446744073709551616) (hy : 0 <= y) (hy' : y < 18446744073709551616) :
  z5a φ x y = some (x * y / 18446744073709551616, x * y % 18446744073709551616, ()) := by
 unfold z5a
 simp only [show (0 : Int) <= 32 by decide, if_true]
 rw [zjp hx hx', zjp hy hy']
 simp only [sh32]
 have ex : x = x / 4294967296 * 4294967296 + x % 4294967296 := by omega
 have ey : y = y / 4294967296 * 4294967296 + y % 4294967296 := by omega
 have a1 : 0 <= x / 4294967296 /\ x / 4294967296 <= 4294967295 := by omega
 have a0 : 0 <= x % 4294967296 /\ x % 4294967296 <= 4294967295 := by omega
 have b1 : 0 <= y / 4294967296 /\ y / 4294967296 <= 4294967295 := by omega
 have b0 : 0 <= y % 4294967296 /\ y % 4294967296 <= 4294967295 := by omega
 have hxy : x * y = (x / 4294967296) * (y / 4294967296) * 18446744073709551616 + ((x / 4294967296) * (y % 4294967296) + (x % 4294967296) * (y / 4294967296)) * 4294967296 + (x % 4294967296) * (y % 4294967296) := by
  conv => lhs; rw [ex, ey]
  generalize x / 4294967296 = a; generalize x % 4294967296 = b; generalize y / 4294967296 = c; generalize y % 4294967296 = d
  rw [Int.add_mul, Int.mul_add, Int.mul_add, Int.add_mul]
  have e1 : a * 4294967296 * (c * 4294967296) = a * c * 18446744073709551616 := by
   rw [Int.mul_assoc, Int.mul_left_comm 4294967296 c, <- Int.mul_assoc]; rfl
  have e2 : a * 4294967296 * d = a * d * 4294967296 := by rw [Int.mul_right_comm]
  have e3 : b * (c * 4294967296) = b * c * 4294967296 := by rw [Int.mul_assoc]
  rw [e1, e2, e3]; omega
 have p11 := zjc a1.1 b1.1 a1.2 b1.2
 have p10 := zjc a1.1 b0.1 a1.2 b0.2
 have p01 := zjc a0.1 b1.1 a0.2 b1.2
 have p00 := zjc a0.1 b0.1 a0.2 b0.2
 rw [y05 (x * y), hxy]
 generalize (x / 4294967296) * (y / 4294967296) = p at *; generalize (x / 4294967296) * (y % 4294967296) = q at *
 generalize (x % 4294967296) * (y / 4294967296) = r at *; generalize (x % 4294967296) * (y % 4294967296) = s at *
 clear hxy ex ey a1 a0 b1 b0
 rw [U_id (x := p) (by omega) (by omega), U_id (x := q) (by omega) (by omega), U_id (x := r) (by omega) (by omega), U_id (x := s) (by omega) (by omega)]
 rw [U_id (x := q + s / 4294967296) (by omega) (by omega), zjp (by omega) (by omega),
  U_id (x := (q + s / 4294967296) % 4294967296 + r) (by omega) (by omega), U_id (x := p + (q + s / 4294967296) / 4294967296) (by omega) (by omega), U_id (by omega) (by omega)]
 refine congrArg some (Prod.ext ?_ rfl)
 show _ = _
 omega
theorem yad {yn1 yn0 u d q r : Int} (h1 : 2147483648 <= yn1) (h1' : yn1 < 4294967296) (h0 : 0 <= yn0) (h0' : yn0 < 4294967296) (hd : 0 <= d) (hd' : d < 4294967296) (hu : 0 <= u)
  (hu' : u < yn1 * 4294967296 + yn0) (hqr : q * yn1 + r = u) (hr : 0 <= r) (hr' : r < 4294967296) (hq : (u * 4294967296 + d) / (yn1 * 4294967296 + yn0) <= q) :
  0 <= q /\ q <= 4294967297 /\ 0 <= (u * 4294967296 + d) / (yn1 * 4294967296 + yn0) /\ (u * 4294967296 + d) / (yn1 * 4294967296 + yn0) < 4294967296 /\
  (4294967296 <= q \/ 4294967296 * r + d < q * yn0 -> (u * 4294967296 + d) / (yn1 * 4294967296 + yn0) <= q - 1) /\
  (¬ (4294967296 <= q \/ 4294967296 * r + d < q * yn0) -> q = (u * 4294967296 + d) / (yn1 * 4294967296 + yn0)) /\
  (4294967296 <= q \/ 4294967296 * r + d < q * yn0 -> 4294967296 <= r + yn1 -> q - 1 = (u * 4294967296 + d) / (yn1 * 4294967296 + yn0)) := by
 have hY : 0 < yn1 * 4294967296 + yn0 := by omega
 have hQ0 : 0 <= (u * 4294967296 + d) / (yn1 * 4294967296 + yn0) := Int.ediv_nonneg (by omega) (by omega)
 have hQ1 : (u * 4294967296 + d) / (yn1 * 4294967296 + yn0) < 4294967296 := Int.ediv_lt_of_lt_mul hY (by omega)
 have hq0 : 0 <= q := by omega
 have key : q * (yn1 * 4294967296 + yn0) = (u - r) * 4294967296 + q * yn0 := by
  rw [Int.mul_add, <- Int.mul_assoc, <- hqr]; omega
 have hq2 : q <= 4294967297 := by
  rcases Int.lt_or_le 4294967297 q with h | h
  ·have : 4294967298 * yn1 <= q * yn1 := Int.mul_le_mul_of_nonneg_right (by omega) (by omega)
   omega
  ·exact h
 have lt_of : ∀ {z : Int}, (u * 4294967296 + d) / (yn1 * 4294967296 + yn0) < z ↔ u * 4294967296 + d < z * (yn1 * 4294967296 + yn0) := fun {z} => Int.ediv_lt_iff_lt_mul hY
 refine ⟨hq0, hq2, hQ0, hQ1, fun h => ?_, fun h => ?_, fun h hr2 => ?_⟩
 ·have : (u * 4294967296 + d) / (yn1 * 4294967296 + yn0) < q := by
   rcases h with h | h
   ·omega
   ·rw [lt_of, key]; omega
  omega
 ·have : ¬ (u * 4294967296 + d) / (yn1 * 4294967296 + yn0) < q := by rw [lt_of, key]; omega
  omega
 ·have hq1 : (u * 4294967296 + d) / (yn1 * 4294967296 + yn0) < q := by
   rcases h with h | h
   ·omega
   ·rw [lt_of, key]; omega
  have h2 : ¬ (u * 4294967296 + d) / (yn1 * 4294967296 + yn0) < q - 1 := by
   rw [lt_of]
   have e : (q - 1) * (yn1 * 4294967296 + yn0) = (u - (r + yn1)) * 4294967296 + (q - 1) * yn0 := by
    have : (q - 1) * yn1 + (r + yn1) = u := by rw [Int.sub_mul]; omega
    rw [Int.mul_add, <- Int.mul_assoc, <- this]; omega
   have b := (zjc (by omega : 0 <= q - 1) h0 (by omega : q - 1 <= 4294967296) (by omega : yn0 <= 4294967295)).2
   rw [e]; omega
  omega
theorem mulB {a b : Int} (h : 0 <= a) (h' : a < 4294967296) (g : 0 <= b) (g' : b < 4294967296) : 0 <= a * b /\ a * b <= 18446744065119617025 :=
 zjc h g (by omega : a <= 4294967295) (by omega : b <= 4294967295)
theorem zlu {ρ : Type} (L : Nat -> Int -> Int -> Option ρ) (k : Int -> Option ρ) {yn1 yn0 u d : Int} (h1 : 2147483648 <= yn1) (h1' : yn1 < 4294967296) (h0 : 0 <= yn0) (h0' : yn0 < 4294967296) (hd : 0 <= d) (hd' : d < 4294967296) (hu : 0 <= u)
  (hu' : u < yn1 * 4294967296 + yn0)
  (step : ∀ n q r, L (n + 1) q r = if (decide (4294967296 <= q) || decide (U (U (4294967296 * r) + d) < U (q * yn0))) = true then (if decide (4294967296 <= U (r + yn1)) = true then k (U (q - 1)) else L n (U (q - 1)) (U (r + yn1))) else k q) :
  ∀ (n : Nat) q r, q * yn1 + r = u -> 0 <= r -> r < 4294967296 -> (u * 4294967296 + d) / (yn1 * 4294967296 + yn0) <= q -> 4294967296 - r <= 2147483648 * n -> L (n + 1) q r = k ((u * 4294967296 + d) / (yn1 * 4294967296 + yn0)) := by
 intro n
 induction n with
 | zero => intro q r _ _ _ _ h; omega
 | succ n ih =>
  intro q r hqr hr hr' hq hn
  obtain ⟨g0, g1, g2, g3, g4, g5, g6⟩ := yad h1 h1' h0 h0' hd hd' hu hu' hqr hr hr' hq
  have hc : (decide (4294967296 <= q) || decide (U (U (4294967296 * r) + d) < U (q * yn0))) = true ↔ (4294967296 <= q \/ 4294967296 * r + d < q * yn0) := by
   rw [Bool.or_eq_true, decide_eq_true_eq, decide_eq_true_eq]
   by_cases hqB : 4294967296 <= q
   ·simp [hqB]
   ·have := mulB g0 (by omega : q < 4294967296) h0 h0'
    rw [U_id (x := 4294967296 * r) (by omega) (by omega), U_id (by omega) (by omega), U_id (by omega) (by omega)]
  rw [step]
  by_cases c : 4294967296 <= q \/ 4294967296 * r + d < q * yn0
  ·have a4 := g4 c
   rw [if_pos (hc.2 c), U_id (x := r + yn1) (by omega) (by omega), U_id (x := q - 1) (by omega) (by omega)]
   by_cases e : 4294967296 <= r + yn1
   ·rw [if_pos (by simpa using e), g6 c e]
   ·rw [if_neg (by simpa using e)]
    exact ih _ _ (by rw [Int.sub_mul]; omega) (by omega) (by omega) a4 (by omega)
  ·rw [if_neg (fun h => c (hc.1 h)), <- g5 c]
theorem ziy {yn1 yn0 u d : Int} (h1 : 2147483648 <= yn1) (h1' : yn1 < 4294967296) (h0 : 0 <= yn0) (h0' : yn0 < 4294967296) (hd : 0 <= d) (hd' : d < 4294967296) (hu : 0 <= u)
  (hu' : u < yn1 * 4294967296 + yn0) : U (u.tdiv yn1) = u / yn1 /\ U (u - U (U (u.tdiv yn1) * yn1)) = u % yn1 /\ u / yn1 * yn1 + u % yn1 = u /\ 0 <= u % yn1 /\ u % yn1 < 4294967296 /\
  (u * 4294967296 + d) / (yn1 * 4294967296 + yn0) <= u / yn1 := by
 have e1 : u.tdiv yn1 = u / yn1 := Int.tdiv_eq_ediv_of_nonneg hu
 have hdm : u / yn1 * yn1 + u % yn1 = u := by have := Int.ediv_mul_add_emod u yn1; exact this
 have hm0 := Int.emod_nonneg u (by omega : yn1 ≠ 0)
 have hm1 := Int.emod_lt_of_pos u (by omega : 0 < yn1)
 have hq0 : 0 <= u / yn1 := Int.ediv_nonneg hu (by omega)
 have hq1 : u / yn1 <= u := Int.ediv_le_self _ hu
 have hqm : 0 <= u / yn1 * yn1 := Int.mul_nonneg hq0 (by omega)
 rw [e1, U_id hq0 (by omega), U_id (x := u / yn1 * yn1) (by omega) (by omega), U_id (by omega) (by omega)]
 refine ⟨rfl, by omega, hdm, hm0, by omega, ?_⟩
 have hY : 0 < yn1 * 4294967296 + yn0 := by omega
 have hQ0 : 0 <= (u * 4294967296 + d) / (yn1 * 4294967296 + yn0) := Int.ediv_nonneg (by omega) (by omega)
 have hQ := Int.ediv_mul_le (u * 4294967296 + d) (b := yn1 * 4294967296 + yn0) (by omega)
 generalize (u * 4294967296 + d) / (yn1 * 4294967296 + yn0) = z at *
 rw [Int.mul_add, <- Int.mul_assoc] at hQ
 have := Int.mul_nonneg hQ0 h0
 exact (Int.le_ediv_iff_mul_le (by omega)).2 (by omega)
theorem y4e (a b c : Int) : U (U (U a + b) - U c) = U (a + b - c) := by
 simp only [y05]; omega
theorem yaf {a b : Int} {s : Nat} (hs : s <= 63) (ha : 0 <= a) (h : a * 2 ^ s < 18446744073709551616) (hb : 0 <= b) (hb' : b < 2 ^ s) :
  U ((BitVec.ofInt 64 (U (a * 2 ^ s)) ||| BitVec.ofInt 64 b).toNat) = a * 2 ^ s + b := by
 have hp : (0 : Int) < 2 ^ s := Int.pow_pos (by decide)
 have hn := Int.mul_nonneg ha (Int.le_of_lt hp)
 have hp2 : (2 : Int) ^ s = ((2 ^ s : Nat) : Int) := by simp
 have hlt : (2 ^ s : Nat) < 18446744073709551616 := y1k hs
 rw [U_id hn (by omega)]
 show U ((BitVec.ofInt 64 (a * 2 ^ s) ||| BitVec.ofInt 64 b).toNat : Int) = _
 have hlt2 := (BitVec.ofInt 64 (a * 2 ^ s) ||| BitVec.ofInt 64 b).isLt
 rw [y6t (by omega), BitVec.toNat_or, z72 hn h, z72 hb (by omega)]
 obtain ⟨n, rfl⟩ := Int.eq_ofNat_of_zero_le ha
 obtain ⟨m, rfl⟩ := Int.eq_ofNat_of_zero_le hb
 have e : ((n : Int) * 2 ^ s).toNat = 2 ^ s * n := by rw [hp2, <- Int.natCast_mul, Int.toNat_natCast, Nat.mul_comm]
 rw [e, Int.toNat_natCast, <- Nat.two_pow_add_eq_or_of_lt (by rw [hp2] at hb'; omega)]
 simp [Int.mul_comm]
theorem zgv (φ : Nat) (v : Int) (h : 0 < v) (h' : v < 18446744073709551616) : ∃ s : Nat, z2c φ v = some ((s : Int), ()) /\ s <= 63 /\
  9223372036854775808 <= v * 2 ^ s /\ v * 2 ^ s < 18446744073709551616 /\ v <= 2 ^ (64 - s) := by
 obtain ⟨n, e, hn, h1, h2⟩ := yaw φ v (by omega) h'
 obtain ⟨h3, h4⟩ := h2 (by omega)
 refine ⟨64 - n, ?_, by omega, ?_, ?_, ?_⟩
 ·rw [e]; congr 2; omega
 ·have : 2 ^ (n - 1) * 2 ^ (64 - n) <= v.toNat * 2 ^ (64 - n) := Nat.mul_le_mul_right _ h4
  rw [<- Nat.pow_add, show n - 1 + (64 - n) = 63 by omega] at this
  have e2 : ((v.toNat * 2 ^ (64 - n) : Nat) : Int) = v * 2 ^ (64 - n) := by
   rw [Int.natCast_mul, Int.natCast_pow]; congr 1; omega
  omega
 ·have : v.toNat * 2 ^ (64 - n) < 2 ^ n * 2 ^ (64 - n) := Nat.mul_lt_mul_of_pos_right h1 (Nat.two_pow_pos _)
  rw [<- Nat.pow_add, show n + (64 - n) = 64 by omega] at this
  have e2 : ((v.toNat * 2 ^ (64 - n) : Nat) : Int) = v * 2 ^ (64 - n) := by
   rw [Int.natCast_mul, Int.natCast_pow]; congr 1; omega
  omega
 ·rw [show 64 - (64 - n) = n by omega]
  have e2 : ((2 ^ n : Nat) : Int) = (2 : Int) ^ n := by simp
  omega
theorem y3j (φ : Nat) (hφ : 5 < φ) (hi lo y : Int) (h0 : 0 <= hi) (hy : hi < y) (hy' : y < 18446744073709551616) (hl : 0 <= lo) (hl' : lo < 18446744073709551616) :
  z5c φ hi lo y = some ((hi * 18446744073709551616 + lo) / y, (hi * 18446744073709551616 + lo) % y, ()) := by
 unfold z5c
 rw [if_neg (by simp; omega), if_neg (by simp; omega)]
 by_cases hz : hi = 0
 ·subst hz
  rw [if_pos (by simp), z8 (by omega), z8 (by omega), Int.tdiv_eq_ediv_of_nonneg hl, Int.tmod_eq_emod_of_nonneg hl, U_id (Int.ediv_nonneg hl (by omega)) (by have := Int.ediv_le_self y hl; omega)]
  simp
 rw [if_neg (by simpa using hz)]
 obtain ⟨s, es, hs, hY1, hY2, hyP⟩ := zgv φ y (by omega) hy'
 have em1 : min (s : Int).toNat 64 = s := by omega
 have em2 : min (64 - (s : Int)).toNat 64 = 64 - s := by omega
 have hp : (0 : Int) < 2 ^ s := Int.pow_pos (by decide)
 have hP : (0 : Int) < 2 ^ (64 - s) := Int.pow_pos (by decide)
 have hpP : (2 : Int) ^ s * 2 ^ (64 - s) = 18446744073709551616 := by rw [<- Int.pow_add, show s + (64 - s) = 64 by omega]; rfl
 have hhp : hi * 2 ^ s < y * 2 ^ s := Int.mul_lt_mul_of_pos_right hy hp
 have hlP0 : 0 <= lo / 2 ^ (64 - s) := Int.ediv_nonneg hl (by omega)
 have hlP1 : lo / 2 ^ (64 - s) < 2 ^ s := Int.ediv_lt_of_lt_mul hP (by omega)
 have hh0 : 0 <= hi * 2 ^ s := Int.mul_nonneg h0 (by omega)
 -- the low word
 have hlo10 : U (lo * 2 ^ s) = lo % 2 ^ (64 - s) * 2 ^ s := by
  have e : lo = lo / 2 ^ (64 - s) * 2 ^ (64 - s) + lo % 2 ^ (64 - s) := (Int.ediv_mul_add_emod lo _).symm
  have e2 : lo * 2 ^ s = lo / 2 ^ (64 - s) * 18446744073709551616 + lo % 2 ^ (64 - s) * 2 ^ s := by
   conv => lhs; rw [e]
   rw [Int.add_mul, Int.mul_assoc, Int.mul_comm (2 ^ (64 - s)), hpP]
  have m0 := Int.emod_nonneg lo (by omega : (2 : Int) ^ (64 - s) ≠ 0)
  have m1 := Int.emod_lt_of_pos lo hP
  have m2 : lo % 2 ^ (64 - s) * 2 ^ s < 2 ^ (64 - s) * 2 ^ s := Int.mul_lt_mul_of_pos_right m1 hp
  have m3 := Int.mul_nonneg m0 (Int.le_of_lt hp)
  rw [Int.mul_comm (2 ^ (64 - s))] at m2
  rw [e2, y05]; omega
 have hN : (hi * 2 ^ s + lo / 2 ^ (64 - s)) * 18446744073709551616 + lo % 2 ^ (64 - s) * 2 ^ s = (hi * 18446744073709551616 + lo) * 2 ^ s := by
  have e : lo = lo / 2 ^ (64 - s) * 2 ^ (64 - s) + lo % 2 ^ (64 - s) := (Int.ediv_mul_add_emod lo _).symm
  have e2 : lo * 2 ^ s = lo / 2 ^ (64 - s) * 18446744073709551616 + lo % 2 ^ (64 - s) * 2 ^ s := by
   conv => lhs; rw [e]
   rw [Int.add_mul, Int.mul_assoc, Int.mul_comm (2 ^ (64 - s)), hpP]
  have e3 : (hi * 18446744073709551616 + lo) * 2 ^ s = hi * 2 ^ s * 18446744073709551616 + lo * 2 ^ s := by rw [Int.add_mul, Int.mul_right_comm]
  rw [e3, e2]; omega
 have hun0 : 0 <= lo % 2 ^ (64 - s) * 2 ^ s := Int.mul_nonneg (Int.emod_nonneg lo (by omega)) (by omega)
 have hun1 : lo % 2 ^ (64 - s) * 2 ^ s < 18446744073709551616 := by
  rw [<- hlo10, y05]; omega
 have hu' : hi * 2 ^ s + lo / 2 ^ (64 - s) < y * 2 ^ s := by
  have : (hi + 1) * 2 ^ s <= y * 2 ^ s := Int.mul_le_mul_of_nonneg_right (by omega) (by omega)
  rw [Int.add_mul] at this; omega
 have hs1 : U (s : Int) = s := U_id (by omega) (by omega)
 have hs2 : U (64 - (s : Int)) = 64 - (s : Int) := U_id (by omega) (by omega)
 have ef : lo.fdiv (2 ^ (64 - s)) = lo / 2 ^ (64 - s) := Int.fdiv_eq_ediv_of_nonneg _ (by omega)
 have eor := yaf hs h0 (by omega : hi * 2 ^ s < 18446744073709551616) hlP0 hlP1
 obtain ⟨Y, hYd⟩ : ∃ Y, Y = y * 2 ^ s := ⟨_, rfl⟩
 have eY : U (y * 2 ^ s) = Y := by rw [hYd]; exact U_id (by omega) (by omega)
 obtain ⟨u, hud⟩ : ∃ u, u = hi * 2 ^ s + lo / 2 ^ (64 - s) := ⟨_, rfl⟩
 obtain ⟨w, hwd⟩ : ∃ w, w = lo % 2 ^ (64 - s) * 2 ^ s := ⟨_, rfl⟩
 rw [<- hwd] at hlo10 hN hun0 hun1
 rw [<- hud] at hN hu' eor
 rw [<- hYd] at hu' hY1 hY2 hhp
 have hu0 : 0 <= u := by omega
 have fY : Y.fdiv 4294967296 = Y / 4294967296 := Int.fdiv_eq_ediv_of_nonneg _ (by omega)
 have fw : w.fdiv 4294967296 = w / 4294967296 := Int.fdiv_eq_ediv_of_nonneg _ (by omega)
 have mY := zjp (v := Y) (by omega) (by omega)
 have mw := zjp (v := w) (by omega) (by omega)
 have b1 : 2147483648 <= Y / 4294967296 /\ Y / 4294967296 < 4294967296 /\ 0 <= Y % 4294967296 /\ Y % 4294967296 < 4294967296 := by omega
 have b2 : 0 <= w / 4294967296 /\ w / 4294967296 < 4294967296 /\ 0 <= w % 4294967296 /\ w % 4294967296 < 4294967296 := by omega
 have eYs : Y / 4294967296 * 4294967296 + Y % 4294967296 = Y := by omega
 obtain ⟨m, rfl⟩ : ∃ m, φ = m + 3 := ⟨φ - 3, by omega⟩
 rw [es]
 simp only [Option.bind_some, hs1, hs2, em1, em2, sh32, eY, hlo10, mY, mw, ef, eor, show (0 : Int) <= 32 by decide, if_true]
 rw [z8 (by omega), z8 (by omega), z8 (by omega), z8 (by omega), z8 (by omega)]
 obtain ⟨i1, i2, i3, i4, i5, i6⟩ := ziy (u := u) (d := w / 4294967296) b1.1 b1.2.1 b1.2.2.1 b1.2.2.2 b2.1 b2.2.1 hu0 (by omega)
 rw [i1] at i2 ⊢
 rw [i2]
 refine (zlu (fun n q r => z4i (m + 3) n Y s (Y / 4294967296) (Y % 4294967296) u (w / 4294967296) (w % 4294967296) q r) (fun q => z4r (m + 3) Y s (Y / 4294967296) (Y % 4294967296) u (w / 4294967296) (w % 4294967296) q)
  b1.1 b1.2.1 b1.2.2.1 b1.2.2.2 b2.1 b2.2.1 hu0 (by omega) (fun n q r => by rw [z4i]) (m + 2) _ _ i3 i4 i5 i6 (by omega)).trans ?_
 rw [eYs]
 unfold z4r
 rw [z8 (by omega)]
 have hQ1 : 0 <= (u * 4294967296 + w / 4294967296) / Y /\ (u * 4294967296 + w / 4294967296) / Y < 4294967296 := ⟨Int.ediv_nonneg (by omega) (by omega), Int.ediv_lt_of_lt_mul (by omega) (by omega)⟩
 have hR1 := Int.ediv_mul_add_emod (u * 4294967296 + w / 4294967296) Y
 have hR1a := Int.emod_nonneg (u * 4294967296 + w / 4294967296) (by omega : Y ≠ 0)
 have hR1b := Int.emod_lt_of_pos (u * 4294967296 + w / 4294967296) (by omega : 0 < Y)
 generalize (u * 4294967296 + w / 4294967296) / Y = q1 at *
 generalize (u * 4294967296 + w / 4294967296) % Y = r1 at *
 have eu21 : U (U (U (u * 4294967296) + w / 4294967296) - U (q1 * Y)) = r1 := by
  rw [y4e, show u * 4294967296 + w / 4294967296 - q1 * Y = r1 by omega]; exact U_id hR1a (by omega)
 rw [eu21]
 obtain ⟨j1, j2, j3, j4, j5, j6⟩ := ziy (u := r1) (d := w % 4294967296) b1.1 b1.2.1 b1.2.2.1 b1.2.2.2 b2.2.2.1 b2.2.2.2 hR1a (by omega)
 rw [j1] at j2 ⊢
 rw [j2]
 refine (zlu (fun n q r => z4g (m + 3) n Y s (Y / 4294967296) (Y % 4294967296) (w % 4294967296) q1 r r1 q) (fun q => z4h (m + 3) Y s (w % 4294967296) q1 r1 q)
  b1.1 b1.2.1 b1.2.2.1 b1.2.2.2 b2.2.2.1 b2.2.2.2 hR1a (by omega) (fun n q r => by rw [z4g]) (m + 2) _ _ j3 j4 j5 j6 (by omega)).trans ?_
 rw [eYs]
 unfold z4h
 rw [em1, z8 (by omega)]
 have hQ0 : 0 <= (r1 * 4294967296 + w % 4294967296) / Y /\ (r1 * 4294967296 + w % 4294967296) / Y < 4294967296 := ⟨Int.ediv_nonneg (by omega) (by omega), Int.ediv_lt_of_lt_mul (by omega) (by omega)⟩
 have hR0 := Int.ediv_mul_add_emod (r1 * 4294967296 + w % 4294967296) Y
 have hR0a := Int.emod_nonneg (r1 * 4294967296 + w % 4294967296) (by omega : Y ≠ 0)
 have hR0b := Int.emod_lt_of_pos (r1 * 4294967296 + w % 4294967296) (by omega : 0 < Y)
 generalize (r1 * 4294967296 + w % 4294967296) / Y = q0 at *
 generalize (r1 * 4294967296 + w % 4294967296) % Y = r0 at *
 rw [y4e, show r1 * 4294967296 + w % 4294967296 - q0 * Y = r0 by omega, U_id (x := r0) hR0a (by omega), U_id (x := q1 * 4294967296) (by omega) (by omega), U_id (by omega) (by omega), Int.fdiv_eq_ediv_of_nonneg _ (by omega)]
 have hall : (hi * 18446744073709551616 + lo - (q1 * 4294967296 + q0) * y) * 2 ^ s = r0 := by
  rw [Int.sub_mul, <- hN, Int.mul_assoc, <- hYd, Int.add_mul, Int.mul_right_comm]; omega
 have hz0 : 0 <= hi * 18446744073709551616 + lo - (q1 * 4294967296 + q0) * y := by
  rcases Int.lt_or_le (hi * 18446744073709551616 + lo - (q1 * 4294967296 + q0) * y) 0 with h | h
  ·have := Int.mul_neg_of_neg_of_pos h hp; omega
  ·exact h
 have hz1 : hi * 18446744073709551616 + lo - (q1 * 4294967296 + q0) * y < y := by
  refine Int.lt_of_mul_lt_mul_right (a := 2 ^ s) ?_ (by omega)
  rw [hall, <- hYd]; exact hR0b
 have hr0 : r0 / 2 ^ s = hi * 18446744073709551616 + lo - (q1 * 4294967296 + q0) * y := by
  rw [<- hall]; exact Int.mul_ediv_cancel _ (by omega)
 have hdm : (hi * 18446744073709551616 + lo) / y = q1 * 4294967296 + q0 /\ (hi * 18446744073709551616 + lo) % y = hi * 18446744073709551616 + lo - (q1 * 4294967296 + q0) * y :=
  (Int.ediv_emod_unique (by omega)).2 ⟨by rw [Int.mul_comm y]; omega, hz0, hz1⟩
 rw [hr0, hdm.1, hdm.2]
end Px
end
section
namespace Px
open Go
set_option linter.unusedVariables false
set_option linter.unusedSimpArgs false
set_option maxRecDepth 100000
def PP : Nat := 2305843009213690799
def QQ : Nat := 1152921504606845399
def pw (b n : Nat) : Nat := b ^ n % PP
theorem zx8 (b n : Nat) : pw b n < PP := Nat.mod_lt _ (by decide)
theorem y6l (b : Nat) : pw b 0 = 1 := by simp [pw, PP]
theorem y4c (b m n : Nat) : pw b m * pw b n % PP = pw b (m + n) := by
 unfold pw; rw [Nat.pow_add, <- Nat.mul_mod]
theorem ya4 (b : Nat) : pw b 1 = b % PP := by simp [pw]
theorem y9n {a : Nat} (h : a < PP) : ((a : Int)).tmod 2305843009213690799 = (a : Int) := by
 unfold PP at h
 rw [Int.tmod_eq_emod_of_nonneg (by omega)]; omega
theorem y9y (b : Nat) : ((b : Int)).tmod 2305843009213690799 = ((b % PP : Nat) : Int) := by
 rw [Int.tmod_eq_emod_of_nonneg (by omega)]; unfold PP; omega
theorem zzd {ρ : Type} {a b : Nat} (ha : a < PP) (hb : b < PP) (φ : Nat) (hφ : 5 < φ) (K : Int -> Option ρ) : ((z5a φ (a : Int) (b : Int)).bind fun y => (z5c φ y.1 y.2.1 2305843009213690799).bind fun z => K z.2.1) = K ((a * b % PP : Nat) : Int) := by
 have ha' : (a : Int) < 2305843009213690799 := by unfold PP at ha; omega
 have hb' : (b : Int) < 2305843009213690799 := by unfold PP at hb; omega
 have hp := zjc (by omega : 0 <= (a : Int)) (by omega : 0 <= (b : Int)) (by omega : (a : Int) <= 2305843009213690798) (by omega : (b : Int) <= 2305843009213690798)
 rw [zuc φ _ _ (by omega) (by omega) (by omega) (by omega), Option.bind_some]
 generalize hz : (a : Int) * (b : Int) = z at *
 show (z5c φ (z / 18446744073709551616) (z % 18446744073709551616) 2305843009213690799).bind _ = _
 rw [y3j φ hφ _ _ _ (by omega) (by omega) (by omega) (by omega) (by omega), Option.bind_some]
 congr 1
 have : z / 18446744073709551616 * 18446744073709551616 + z % 18446744073709551616 = z := by omega
 show (z / 18446744073709551616 * 18446744073709551616 + z % 18446744073709551616) % 2305843009213690799 = _
 rw [this, <- hz, Int.natCast_emod, Int.natCast_mul]; rfl
theorem z6b.uniq {v m n : Nat} (hv : 0 < v) (h : z6b v m) (k : z6b v n) : m = n := by
 obtain ⟨h1, h2⟩ := h
 obtain ⟨k1, k2⟩ := k
 obtain ⟨h3, h4⟩ := h2 hv
 obtain ⟨k3, k4⟩ := k2 hv
 have a : m - 1 < n := (Nat.pow_lt_pow_iff_right (by decide : 1 < 2)).1 (Nat.lt_of_le_of_lt h4 k1)
 have b : n - 1 < m := (Nat.pow_lt_pow_iff_right (by decide : 1 < 2)).1 (Nat.lt_of_le_of_lt k4 h1)
 omega
section first
variable (φ : Nat) (b n a p : Int)
theorem zx0 (v w : Int) (h : 0 <= v) (h' : v < 256) (hw : 0 <= w) (hw' : w <= 64) : ∃ m : Nat, z7n φ v w b n a p = z08 φ φ b n a (w + m) 0 p /\ m <= 8 /\ z6b v.toNat m := by
 obtain ⟨m, e, hm, x, y⟩ := zki h h'
 have e8 : IntKind.wrap .u8 v = v := by simp [IntKind.wrap, IntKind.bits, IntKind.signed]; omega
 refine ⟨m, ?_, hm, x, fun hv => y (by omega)⟩
 unfold z7n
 rw [e8, z8 ⟨h, h'⟩, e, W_id (x := (m : Int)) (by omega) (by omega), W_id (x := w + m) (by omega) (by omega)]
theorem zym (v w : Int) (h : 0 <= v) (h' : v < 65536) (hw : 0 <= w) (hw' : w <= 48) : ∃ m : Nat, z7h φ v w b n a p = z08 φ φ b n a (w + m) 0 p /\ m <= 16 /\ z6b v.toNat m := by
 unfold z7h
 by_cases c : 256 <= v
 ·rw [if_pos (by simpa using c), if_pos (by decide), sh8, W_id (by omega) (by omega)]
  obtain ⟨m, e, hn, hl⟩ := zx0 φ b n a p (v / 256) (w + 8) (by omega) (by omega) (by omega) (by omega)
  refine ⟨m + 8, by rw [e]; congr 1; omega, by omega, ?_⟩
  refine z6b.up 8 ?_ (by omega)
  rwa [show v.toNat / 2 ^ 8 = (v / 256).toNat by omega]
 ·rw [if_neg (by simpa using c)]
  obtain ⟨m, e, hn, hl⟩ := zx0 φ b n a p v w h (by omega) (by omega) (by omega)
  exact ⟨m, e, by omega, hl⟩
theorem y4j (v w : Int) (h : 0 <= v) (h' : v < 4294967296) (hw : 0 <= w) (hw' : w <= 32) : ∃ m : Nat, z91 φ v w b n a p = z08 φ φ b n a (w + m) 0 p /\ m <= 32 /\ z6b v.toNat m := by
 unfold z91
 by_cases c : 65536 <= v
 ·rw [if_pos (by simpa using c), if_pos (by decide), sh16, W_id (by omega) (by omega)]
  obtain ⟨m, e, hn, hl⟩ := zym φ b n a p (v / 65536) (w + 16) (by omega) (by omega) (by omega) (by omega)
  refine ⟨m + 16, by rw [e]; congr 1; omega, by omega, ?_⟩
  refine z6b.up 16 ?_ (by omega)
  rwa [show v.toNat / 2 ^ 16 = (v / 65536).toNat by omega]
 ·rw [if_neg (by simpa using c)]
  obtain ⟨m, e, hn, hl⟩ := zym φ b n a p v w h (by omega) (by omega) (by omega)
  exact ⟨m, e, by omega, hl⟩
end first
def zh4 (φ : Nat) (k : Int -> Int -> Int -> Int -> Int -> Int -> Option (Int × Unit)) (L x57 x58 x59 x60 x61 x62 x63 x64 : Int) : Option (Int × Unit) :=
 ck (0 <= (W ((W (L - 1)) - x60))) (if (((U ((BitVec.ofInt 64 ((x63 : Int).fdiv (2 ^ (min ((W ((W (L - 1)) - x60)) : Int).toNat 64))) &&& BitVec.ofInt 64 1).toNat)) : Int) == 1) = true then (ck (x64 ≠ 0) (ck (x64 ≠ 0) ((z5a φ ((x59 : Int).tmod x64) ((x57 : Int).tmod x64)).bind fun y66 => ((z5c φ y66.1 y66.2.1 x64).bind fun y67 => (k x57 x58 y67.2.1 x61 (W (x62 + 1)) x64))))) else (k x57 x58 x59 x61 (W (x62 + 1)) x64))
section second
variable (φ : Nat) (k : Int -> Int -> Int -> Int -> Int -> Int -> Option (Int × Unit)) (x57 x58 x59 x60 x61 x62 x63 x64 : Int)
theorem y01 (v w : Int) (h : 0 <= v) (h' : v < 256) (hw : 0 <= w) (hw' : w <= 64) : ∃ m : Nat, z7m φ k v w x57 x58 x59 x60 x61 x62 x63 x64 = zh4 φ k (w + m) x57 x58 x59 x60 x61 x62 x63 x64 /\ m <= 8 /\ z6b v.toNat m := by
 obtain ⟨m, e, hm, x, y⟩ := zki h h'
 have e8 : IntKind.wrap .u8 v = v := by simp [IntKind.wrap, IntKind.bits, IntKind.signed]; omega
 refine ⟨m, ?_, hm, x, fun hv => y (by omega)⟩
 unfold z7m zh4
 rw [e8, z8 ⟨h, h'⟩, e, W_id (x := (m : Int)) (by omega) (by omega), W_id (x := w + m) (by omega) (by omega)]
theorem zzq (v w : Int) (h : 0 <= v) (h' : v < 65536) (hw : 0 <= w) (hw' : w <= 48) : ∃ m : Nat, z7l φ k v w x57 x58 x59 x60 x61 x62 x63 x64 = zh4 φ k (w + m) x57 x58 x59 x60 x61 x62 x63 x64 /\ m <= 16 /\ z6b v.toNat m := by
 unfold z7l
 by_cases c : 256 <= v
 ·rw [if_pos (by simpa using c), if_pos (by decide), sh8, W_id (by omega) (by omega)]
  obtain ⟨m, e, hn, hl⟩ := y01 φ k x57 x58 x59 x60 x61 x62 x63 x64 (v / 256) (w + 8) (by omega) (by omega) (by omega) (by omega)
  refine ⟨m + 8, by rw [e]; congr 1; omega, by omega, ?_⟩
  refine z6b.up 8 ?_ (by omega)
  rwa [show v.toNat / 2 ^ 8 = (v / 256).toNat by omega]
 ·rw [if_neg (by simpa using c)]
  obtain ⟨m, e, hn, hl⟩ := y01 φ k x57 x58 x59 x60 x61 x62 x63 x64 v w h (by omega) (by omega) (by omega)
  exact ⟨m, e, by omega, hl⟩
theorem zx3 (v w : Int) (h : 0 <= v) (h' : v < 4294967296) (hw : 0 <= w) (hw' : w <= 32) : ∃ m : Nat, z2j φ k v w x57 x58 x59 x60 x61 x62 x63 x64 = zh4 φ k (w + m) x57 x58 x59 x60 x61 x62 x63 x64 /\ m <= 32 /\ z6b v.toNat m := by
 unfold z2j
 by_cases c : 65536 <= v
 ·rw [if_pos (by simpa using c), if_pos (by decide), sh16, W_id (by omega) (by omega)]
  obtain ⟨m, e, hn, hl⟩ := zzq φ k x57 x58 x59 x60 x61 x62 x63 x64 (v / 65536) (w + 16) (by omega) (by omega) (by omega) (by omega)
  refine ⟨m + 16, by rw [e]; congr 1; omega, by omega, ?_⟩
  refine z6b.up 16 ?_ (by omega)
  rwa [show v.toNat / 2 ^ 16 = (v / 65536).toNat by omega]
 ·rw [if_neg (by simpa using c)]
  obtain ⟨m, e, hn, hl⟩ := zzq φ k x57 x58 x59 x60 x61 x62 x63 x64 v w h (by omega) (by omega) (by omega)
  exact ⟨m, e, by omega, hl⟩
theorem ya6 (v : Int) (h : 0 <= v) (h' : v < 18446744073709551616) : ∃ m : Nat, (if (decide ((4294967296 : Int) <= v)) = true then (if 0 <= (32 : Int) then (z2j φ k (((v : Int).fdiv (2 ^ (min (32 : Int).toNat 64)))) 32 x57 x58 x59 x60 x61 x62 x63 x64) else none) else (z2j φ k v 0 x57 x58 x59 x60 x61 x62 x63 x64)) =
  zh4 φ k m x57 x58 x59 x60 x61 x62 x63 x64 /\ m <= 64 /\ z6b v.toNat m := by
 by_cases c : 4294967296 <= v
 ·rw [if_pos (by simpa using c), if_pos (by decide), sh32]
  obtain ⟨m, e, hn, hl⟩ := zx3 φ k x57 x58 x59 x60 x61 x62 x63 x64 (v / 4294967296) 32 (by omega) (by omega) (by omega) (by omega)
  refine ⟨m + 32, by rw [e]; congr 1; omega, by omega, ?_⟩
  refine z6b.up 32 ?_ (by omega)
  rwa [show v.toNat / 2 ^ 32 = (v / 4294967296).toNat by omega]
 ·rw [if_neg (by simpa using c)]
  obtain ⟨m, e, hn, hl⟩ := zx3 φ k x57 x58 x59 x60 x61 x62 x63 x64 v 0 h (by omega) (by omega) (by omega)
  exact ⟨m, by rw [e]; simp, by omega, hl⟩
end second
theorem zrx (φ : Nat) (hφ : 100 < φ) (b n : Nat) (hn0 : 0 < n) (hn : n < 18446744073709551616) : zfy φ (b : Int) (n : Int) = some (((pw b n : Nat) : Int), ()) := by
 have hstart : ∃ L : Nat, zfy φ (b : Int) (n : Int) = z08 φ φ b n 1 L 0 2305843009213690799 /\ L <= 64 /\ z6b n L := by
  unfold zfy
  by_cases c : (4294967296 : Int) <= n
  ·rw [if_pos (by simpa using c), if_pos (by decide), sh32]
   obtain ⟨m, e, hm, hl⟩ := y4j φ b n 1 2305843009213690799 ((n : Int) / 4294967296) 32 (by omega) (by omega) (by omega) (by omega)
   refine ⟨m + 32, by rw [e]; congr 1; omega, by omega, ?_⟩
   refine z6b.up 32 ?_ (by omega)
   rwa [show n / 2 ^ 32 = ((n : Int) / 4294967296).toNat by omega]
  ·rw [if_neg (by simpa using c)]
   obtain ⟨m, e, hm, hl⟩ := y4j φ b n 1 2305843009213690799 (n : Int) 0 (by omega) (by omega) (by omega) (by omega)
   exact ⟨m, by rw [e]; simp, by omega, by rwa [Int.toNat_natCast] at hl⟩
 obtain ⟨L, e0, hL, hlen⟩ := hstart
 rw [e0]
 obtain ⟨h1, h2⟩ := hlen
 refine z0k (fun k i v => z08 φ k (b : Int) (n : Int) v (L : Int) i 2305843009213690799) L (fun i v => v = ((pw b (n / 2 ^ (L - i)) : Nat) : Int)) (fun o => o = some (((pw b n : Nat) : Int), ())) ?_ ?_ φ 1 ?_ (by omega)
 ·intro k i v hi hv hs
  rw [z08, if_pos (by simp; omega), z8 (by decide), z8 (by decide)]
  subst hv
  rw [y9n (zx8 _ _)]
  refine (zzd (zx8 _ _) (zx8 _ _) φ (by omega) (fun z => (if (decide ((4294967296 : Int) <= (n : Int))) = true then (if 0 <= (32 : Int) then (z2j φ (z08 φ k) ((((n : Int) : Int).fdiv (2 ^ (min (32 : Int).toNat 64)))) 32 b n z i L i n 2305843009213690799) else none) else (z2j φ (z08 φ k) n 0 b n z i L i n 2305843009213690799)))).trans ?_
  rw [y4c]
  obtain ⟨m, em, hm, hl⟩ := ya6 φ (z08 φ k) b n ((pw b (n / 2 ^ (L - i) + n / 2 ^ (L - i)) : Nat) : Int) i L i n 2305843009213690799 (n : Int) (by omega) (by omega)
  refine em.trans ?_
  rw [Int.toNat_natCast] at hl
  have := z6b.uniq hn0 hl ⟨h1, h2⟩
  subst this
  unfold zh4
  have hw1 : W ((m : Int) - 1) = (m : Int) - 1 := W_id (by omega) (by omega)
  have hw2 : W ((m : Int) - 1 - (i : Int)) = ((m - 1 - i : Nat) : Int) := by rw [W_id (by omega) (by omega)]; omega
  rw [hw1, hw2, z8 (by omega)]
  have hsh := yal (c := (n : Int)) (k := ((m - 1 - i : Nat) : Int)) (by omega) (by omega) (by omega)
  have hone : U ((BitVec.ofInt 64 ((n : Int).fdiv (2 ^ (min (((m - 1 - i : Nat) : Int)).toNat 64))) &&& BitVec.ofInt 64 1).toNat) = ((n / 2 ^ (m - 1 - i) % 2 : Nat) : Int) := by
   rw [show ((n : Int).fdiv (2 ^ (min (((m - 1 - i : Nat) : Int)).toNat 64))) = _ from hsh, Int.toNat_natCast, Int.toNat_natCast]
   have hd : n / 2 ^ (m - 1 - i) <= n := Nat.div_le_self _ _
   rw [BitVec.toNat_and, z72 (Int.natCast_nonneg _) (by omega), z72 (by omega) (by omega), y6t (y4r (by omega)), Int.toNat_natCast]
   show ((n / 2 ^ (m - 1 - i) &&& 1 : Nat) : Int) = _
   rw [Nat.and_one_is_mod]
  rw [hone]
  have hhalf : n / 2 ^ (m - i) = n / 2 ^ (m - 1 - i) / 2 := by
   rw [Nat.div_div_eq_div_mul, <- Nat.pow_succ]; congr 2; omega
  have hidx : m - (i + 1) = m - 1 - i := by omega
  have hW : W ((i : Int) + 1) = (i : Int) + 1 := W_id (by omega) (by omega)
  have hbit := Nat.mod_two_eq_zero_or_one (n / 2 ^ (m - 1 - i))
  rcases hbit with hbit | hbit
  ·rw [hbit, if_neg (by simp), hW]
   refine hs _ ?_
   rw [hidx, hhalf]; congr 2; omega
  ·rw [hbit, if_pos (by simp), y9n (zx8 _ _), y9y, z8 (by decide), z8 (by decide), hW]
   refine (zzd (zx8 _ _) (Nat.mod_lt b (by decide : 0 < PP)) φ (by omega) (fun z => z08 φ k b n z m ((i : Int) + 1) 2305843009213690799)).trans ?_
   refine hs _ ?_
   rw [<- ya4 b, y4c, hidx, hhalf]; congr 2; omega
 ·intro k v hv
  rw [z08, if_neg (by simp), hv]
  rw [Nat.sub_self, Nat.pow_zero, Nat.div_one]
 ·rw [Nat.sub_zero, Nat.div_eq_of_lt h1, y6l]; rfl
def y5u (x : Int) : Bool := decide (2 <= x) && decide (x < 2305843009213690799) && (pw x.toNat QQ == 1)
theorem zqy (a : Nat) : (((a : Nat) : Int) == 1) = (a == 1) := by
 rw [Bool.eq_iff_iff, beq_iff_eq, beq_iff_eq]; omega
theorem zmi (φ : Nat) (hφ : 100 < φ) (x : Int) : zdk φ x = some (y5u x, ()) := by
 unfold zdk y5u z1q
 cases h : decide (2 <= x) && decide (x < 2305843009213690799) with
 | false => rw [if_neg (by simp), Option.bind_some]; simp only [Bool.false_and]
 | true =>
  simp only [Bool.and_eq_true, decide_eq_true_eq] at h
  have := zrx φ hφ x.toNat QQ (by decide) (by decide)
  rw [show ((x.toNat : Nat) : Int) = x by omega, show ((QQ : Nat) : Int) = 1152921504606845399 by decide] at this
  rw [if_pos rfl, this, Option.bind_some, Bool.true_and, Bool.true_and]
  show some ((((pw x.toNat QQ : Nat) : Int) == 1), ()) = _
  rw [zqy]
end Px
end
section
namespace Px
open Go
set_option linter.unusedVariables false
set_option linter.unusedSimpArgs false
theorem gz_t {α : Type} {z : α} {p : Prop} [Decidable p] {x : Option α} (h : p) : z1q z p x = x := if_pos h
theorem gz_f {α : Type} {z : α} {p : Prop} [Decidable p] {x : Option α} (h : ¬ p) : z1q z p x = some z := if_neg h
def zci (p : z4b) : Bool := bet p.kind 1 5 && bet p.railway 0 15 && (bif p.kind == 3 then bet p.other 0 15 && (p.other != p.railway) else p.other == (-1))
def zcs (n : Int) (e : Edge) : Bool := bet e.a 0 (n - 1) && bet e.b 0 (n - 1) && (e.a != e.b) && bet e.railway 0 15 && bet e.minutes 1 100000 && bet e.km 0 10000
def z9a (x : zg) : Int := bif decide (512 < x.places.length) || decide (2048 < x.edges.length) then 2 else bif x.places.all zci && x.edges.all (zcs x.places.length) then 0 else 1
theorem zia (φ : Nat) (p : z4b) : z8c φ p = some (zci p, ()) := by
 have hb : (((decide (p.kind < 1) || decide (5 < p.kind)) || decide (p.railway < 0)) || decide (16 <= p.railway)) = !(bet p.kind 1 5 && bet p.railway 0 15) := by
  rw [Bool.eq_iff_iff]; simp [bet]; omega
 unfold z8c zci
 rw [hb]
 cases bet p.kind 1 5 && bet p.railway 0 15 with
 | false => rfl
 | true =>
  rw [if_neg (by simp)]
  by_cases h : p.kind = 3
  ·have : (decide (0 <= p.other) && decide (p.other < 16)) = bet p.other 0 15 := by rw [Bool.eq_iff_iff]; simp [bet]; omega
   rw [if_neg (by simp [h]), this]; simp [h]
  ·have h2 : (p.kind == 3) = false := by simpa using h
   rw [if_pos (by simp [h]), h2]; rfl
theorem zw4 (n : Int) (e : Edge) : ((((((decide ((min2 (min2 (min2 (e.a) (e.b)) (e.railway)) (e.km)) < 0) || decide (n <= (max2 (e.a) (e.b)))) || (e.a == e.b)) || decide (16 <= e.railway)) || decide (e.minutes < 1)) || decide (100000 < e.minutes)) || decide (10000 < e.km)) = !zcs n e := by
 have hm : ∀ x y z : Int, z <= max2 x y ↔ z <= x \/ z <= y := by intro x y z; unfold max2; split <;> omega
 have hok : zcs n e = true ↔ ((((((0 <= e.a /\ e.a <= n - 1) /\ 0 <= e.b /\ e.b <= n - 1) /\ ¬ e.a = e.b) /\ 0 <= e.railway /\ e.railway <= 15) /\ 1 <= e.minutes /\ e.minutes <= 100000) /\ 0 <= e.km /\ e.km <= 10000) := by
  simp only [zcs, Bool.and_eq_true, zrz, bne_iff_ne, ne_eq]
 rw [Bool.eq_iff_iff, Bool.not_eq_true', <- Bool.not_eq_true, hok]
 simp only [Bool.or_eq_true, decide_eq_true_eq, zw3, hm, beq_iff_eq]
 omega
theorem y0x (x : zg) : (decide (512 < (x.places.length : Int)) || decide (2048 < (x.edges.length : Int))) = (decide (512 < x.places.length) || decide (2048 < x.edges.length)) := by
 congr 1 <;> (apply decide_eq_decide.2; omega)
theorem z84 (φ : Nat) (hφ : 5000 < φ) (x : zg) : z5q φ x = some (z9a x, ()) := by
 unfold z5q z9a
 rw [y0x]
 cases h : decide (512 < x.places.length) || decide (2048 < x.edges.length) with
 | true => rfl
 | false =>
  simp only [Bool.or_eq_false_iff, decide_eq_false_iff_not, Nat.not_lt] at h
  rw [if_neg (by simp), zij (fun n i => z2i φ n (x.places.length : Int) x.places (x.places.length : Int) i x) (z18 φ φ (x.places.length : Int) x.edges (x.edges.length : Int) 0) (some (1, ())) x.places (fun t => !zci t) ?_ ?_ φ (by omega)]
  ·rw [zij (fun n i => z18 φ n (x.places.length : Int) x.edges (x.edges.length : Int) i) (some (0, ())) (some (1, ())) x.edges (fun t => !zcs x.places.length t) ?_ ?_ φ (by omega)]
   ·simp only [List.any_eq_not_all_not, Bool.not_not]
    cases x.places.all zci <;> cases x.edges.all (zcs x.places.length) <;> rfl
   ·intro n i hi
    rw [z18, if_pos (by simp; omega), z8 ⟨by omega, by omega⟩, zw4, W_id (by omega) (by omega)]
    cases zcs x.places.length (gt x.edges i) <;> rfl
   ·intro n; rw [z18, if_neg (by simp)]
  ·intro n i hi
   rw [z2i, if_pos (by simp; omega), z8 ⟨by omega, by omega⟩, zia, Option.bind_some, W_id (by omega) (by omega)]
   cases zci (gt x.places i) <;> rfl
  ·intro n; rw [z2i, if_neg (by simp)]
theorem zj7 {x : zg} (h : z9a x = 0) : x.places.length <= 512 /\ x.edges.length <= 2048 /\ (∀ p ∈ x.places, zci p = true) /\ ∀ e ∈ x.edges, zcs x.places.length e = true := by
 unfold z9a at h
 cases h1 : decide (512 < x.places.length) || decide (2048 < x.edges.length) with
 | true => rw [h1] at h; cases h
 | false =>
  rw [h1] at h
  cases h2 : x.places.all zci && x.edges.all (zcs x.places.length) with
  | false => rw [h2] at h; cases h
  | true =>
   simp only [Bool.or_eq_false_iff, decide_eq_false_iff_not, Nat.not_lt] at h1
   simp only [Bool.and_eq_true, List.all_eq_true] at h2
   exact ⟨h1.1, h1.2, h2⟩
def zyv : Int -> List Int -> Bool
 | _, [] => true
 | p, h :: t => decide (p < h) && decide (h <= 745654) && zyv h t
def zlo (s : Span) : Bool := decide (0 <= s.from_) && decide (s.from_ <= s.to) && decide (s.to <= 1440)
def zqu (c : z5m) : Bool := ((List.range 7).all fun i => zlo (c.open_ i)) && zyv (-1) c.holidays
theorem y61 (φ : Nat) (c : z5m) : ∀ (n i : Nat) (p : Int), -1 <= p -> (i : Int) <= p + 1 -> p <= 745654 -> i <= c.holidays.length -> 745656 <= (n : Int) + p -> z1p φ n p c.holidays (c.holidays.length : Int) i = some (bif zyv p (c.holidays.drop i) then 0 else 1, ()) := by
 intro n
 induction n with
 | zero => intro i p _ _ _ _ _; omega
 | succ n ih =>
  intro i p hp hip hp2 hi hn
  by_cases h : i = c.holidays.length
  ·rw [h, z1p, if_neg (by simp), List.drop_length]; rfl
  ·rw [z1p, if_pos (by simp; omega), z8 ⟨by omega, by omega⟩, zyb _ _ (by omega)]
   by_cases hb : gt c.holidays i <= p \/ 745654 < gt c.holidays i
   ·have : (decide (p < gt c.holidays i) && decide (gt c.holidays i <= 745654)) = false := by simp; omega
    rw [if_pos (by simpa using hb)]
    simp [zyv, this]
   ·have h2 : (decide (p < gt c.holidays i) && decide (gt c.holidays i <= 745654)) = true := by simp; omega
    rw [if_neg (by simpa using hb), W_id (by omega) (by omega)]
    have := ih (i + 1) (gt c.holidays i) (by omega) (by omega) (by omega) (by omega) (by omega)
    rw [show ((i + 1 : Nat) : Int) = (i : Int) + 1 by omega] at this
    rw [this]
    simp [zyv, h2]
theorem zml (s : Span) : ((decide (s.from_ < 0) || decide (s.to < s.from_)) || decide (1440 < s.to)) = !zlo s := by
 rw [Bool.eq_iff_iff]; simp [zlo]
 try omega
theorem zgo (φ : Nat) (hφ : 800000 < φ) (c : z5m) : z7f φ c = some (bif zqu c then 0 else 1, ()) := by
 unfold z7f
 refine z0k (fun n i (_ : Unit) => z23 φ n c.open_ i c) 7 (fun i _ => ((List.range i).all fun j => zlo (c.open_ j)) = true) (fun o => o = some (bif zqu c then 0 else 1, ())) ?_ ?_ φ () (by simp) (by omega)
 ·intro n i _ hi h hs
  rw [z23, if_pos (by simp; omega), z8 ⟨by omega, by omega⟩, Int.toNat_natCast, zml, W_id (by omega) (by omega)]
  cases ho : zlo (c.open_ i) with
  | true =>
   rw [if_neg (by simp)]
   exact hs () (by rw [zeb, h, ho]; rfl)
  | false =>
   have : zqu c = false := by
    unfold zqu
    have : ((List.range 7).all fun j => zlo (c.open_ j)) = false := by
     rw [List.all_eq_false]; exact ⟨i, by simp; omega, by simp [ho]⟩
    rw [this]; rfl
   rw [if_pos (by simp), this]; rfl
 ·intro n _ h
  rw [z23, if_neg (by simp)]
  unfold zqu
  rw [h, Bool.true_and]
  have := y61 φ c φ 0 (-1) (by omega) (by omega) (by omega) (by omega) (by omega)
  simpa using this
theorem zgr {α ρ : Type} [Inhabited α] (L : Nat -> Bool -> Int -> Option ρ) (k : Bool -> Option ρ) (l : List α) (p : α -> Bool)
  (step : ∀ (n i : Nat) (s : Bool), i < l.length -> L (n + 1) s i = L n (s || p (gt l i)) ((i : Int) + 1)) (done : ∀ n s, L (n + 1) s l.length = k s) (n : Nat) (s : Bool) (hn : l.length < n) : L n s 0 = k (s || l.any p) := by
 refine z0k (fun n i t => L n t i) l.length (fun i t => t = (s || (l.take i).any p)) (fun o => o = k (s || l.any p)) ?_ ?_ n s (by simp) hn
 ·intro n i t hi ht hs
  rw [step n i t hi]
  exact hs _ (by rw [zfx _ _ _ hi, ht, Bool.or_assoc])
 ·intro n t ht
  rw [List.take_length] at ht
  rw [done, ht]
def zfw (n : Int) (r : z0y) : Bool := (((!bet r.place 0 (n - 1)) || decide (r.low < (-1000))) || decide (r.high < r.low)) || decide (1000 < r.high)
def zge (x : zg) (s : z6n) : Bool := (!bet s.place 0 ((x.places.length : Int) - 1)) || ((gt x.places s.place).kind != 4)
def zr5 (r : z0p) : Bool := !zqu r.calendar || !y5u r.key
def zga (x : Pool) : Bool :=
 ((((((x.railways.length : Int) == 0) || x.readers.any (zfw x.network.places.length)) || x.shippers.any (zge x.network)) || x.fleet.wagons.any (fun w => decide ((x.network.places.length : Int) <= w.home))) ||
 x.network.places.any (fun p => decide ((x.railways.length : Int) <= p.railway) || decide ((x.railways.length : Int) <= p.other))) || x.network.edges.any (fun e => decide ((x.railways.length : Int) <= e.railway)) || x.railways.any zr5
def zhg (x : Pool) : Bool := (decide (256 < (x.readers.length : Int)) || decide (256 < (x.shippers.length : Int))) || decide (16 < (x.railways.length : Int))
def z0e (x : Pool) : Int := if z9a x.network ≠ 0 then z9a x.network else if z6a x.fleet ≠ 0 then z6a x.fleet else bif zhg x then 2 else bif zga x then 1 else 0
theorem za3 (φ : Nat) (hφ : 800000 < φ) (x : Pool) : z3k φ x = some (z0e x, ()) := by
 unfold z3k z0e
 rw [z84 _ (by omega), Option.bind_some]
 by_cases hn : z9a x.network = 0
 case neg => rw [if_pos (by simp [hn]), if_pos hn]
 rw [if_neg (by simp [hn]), if_neg (fun e : z9a x.network ≠ 0 => e hn), zl4 _ (by omega), Option.bind_some]
 by_cases hf : z6a x.fleet = 0
 case neg => rw [if_pos (by simp [hf]), if_pos hf]
 rw [if_neg (by simp [hf]), if_neg (fun e : z6a x.fleet ≠ 0 => e hf)]
 cases hb : zhg x with
 | true =>
  have e : (((decide (256 < (x.readers.length : Int)) || decide (256 < (x.shippers.length : Int))) || decide (16 < (x.railways.length : Int)))) = zhg x := rfl
  rw [e, hb]; rfl
 | false =>
  have hb' : ¬ (((decide (256 < (x.readers.length : Int)) || decide (256 < (x.shippers.length : Int))) || decide (16 < (x.railways.length : Int))) = true) := by
   rw [show (((decide (256 < (x.readers.length : Int)) || decide (256 < (x.shippers.length : Int))) || decide (16 < (x.railways.length : Int)))) = zhg x from rfl, hb]; simp
  rw [if_neg hb']
  simp only [Bool.or_eq_true, decide_eq_true_eq, not_or] at hb'
  obtain ⟨n1, n2, _, _⟩ := zj7 hn
  obtain ⟨f1, f2, _⟩ := z9g hf
  have hp : W ((x.network.places.length : Int) - 1) = (x.network.places.length : Int) - 1 := W_id (by omega) (by omega)
  have a1 := zgr (fun n s i => z14 φ n x.network.places (x.railways.length : Int) s x.readers (x.readers.length : Int) i x) (fun s => z0o φ φ x.network.places (x.railways.length : Int) s x.shippers (x.shippers.length : Int) 0 x) x.readers (zfw x.network.places.length) (fun n i s hi => by
   rw [z14, if_pos (by simp; omega), z8 ⟨by omega, by omega⟩, hp, W_id (by omega) (by omega)]
   unfold zfw
   cases s with
   | true => rw [gz_f (by simp)]; rfl
   | false => rw [gz_t rfl]; rfl) (fun n s => by rw [z14, if_neg (by simp)]) φ ((x.railways.length : Int) == 0) (by omega)
  refine a1.trans ?_
  have a2 := fun s0 => zgr (fun n s i => z0o φ n x.network.places (x.railways.length : Int) s x.shippers (x.shippers.length : Int) i x) (fun s => z0r φ φ x.network.places (x.railways.length : Int) s x.fleet.wagons (x.fleet.wagons.length : Int) 0 x) x.shippers (zge x.network) (fun n i s hi => by
   rw [z0o, if_pos (by simp; omega), z8 ⟨by omega, by omega⟩, hp, W_id (by omega) (by omega)]
   unfold zge
   cases s with
   | true => rw [gz_f (by simp), Option.bind_some, z8 (by simp)]; rfl
   | false =>
    rw [gz_t rfl, z2h, Option.bind_some]
    cases hbt : bet (gt x.shippers i).place 0 ((x.network.places.length : Int) - 1) with
    | true => rw [z8 (fun _ => by have := zzk hbt; omega)]; rfl
    | false => rw [z8 (by simp)]; rfl) (fun n s => by rw [z0o, if_neg (by simp)]) φ s0 (by omega)
  refine (a2 _).trans ?_
  have a3 := fun s0 => zgr (fun n s i => z0r φ n x.network.places (x.railways.length : Int) s x.fleet.wagons (x.fleet.wagons.length : Int) i x) (fun s => z0m φ φ (x.railways.length : Int) s x.network.places (x.network.places.length : Int) 0 x) x.fleet.wagons (fun w => decide ((x.network.places.length : Int) <= w.home)) (fun n i s hi => by
   rw [z0r, if_pos (by simp; omega), z8 ⟨by omega, by omega⟩, W_id (by omega) (by omega)]) (fun n s => by rw [z0r, if_neg (by simp)]) φ s0 (by omega)
  refine (a3 _).trans ?_
  have a4 := fun s0 => zgr (fun n s i => z0m φ n (x.railways.length : Int) s x.network.places (x.network.places.length : Int) i x) (fun s => z0q φ φ (x.railways.length : Int) s x.network.edges (x.network.edges.length : Int) 0 x) x.network.places (fun p => decide ((x.railways.length : Int) <= p.railway) || decide ((x.railways.length : Int) <= p.other)) (fun n i s hi => by
   rw [z0m, if_pos (by simp; omega), z8 ⟨by omega, by omega⟩, W_id (by omega) (by omega), Bool.or_assoc]) (fun n s => by rw [z0m, if_neg (by simp)]) φ s0 (by omega)
  refine (a4 _).trans ?_
  have a5 := fun s0 => zgr (fun n s i => z0q φ n (x.railways.length : Int) s x.network.edges (x.network.edges.length : Int) i x) (fun s => z0n φ φ s x.railways (x.railways.length : Int) 0) x.network.edges (fun e => decide ((x.railways.length : Int) <= e.railway)) (fun n i s hi => by
   rw [z0q, if_pos (by simp; omega), z8 ⟨by omega, by omega⟩, W_id (by omega) (by omega)]) (fun n s => by rw [z0q, if_neg (by simp)]) φ s0 (by omega)
  refine (a5 _).trans ?_
  have a6 := fun s0 => zgr (fun n s i => z0n φ n s x.railways (x.railways.length : Int) i) (fun s => if s = true then some (1, ()) else some (0, ())) x.railways zr5 (fun n i s hi => by
   rw [z0n, if_pos (by simp; omega), z8 ⟨by omega, by omega⟩, W_id (by omega) (by omega)]
   unfold zr5
   cases s with
   | true => rw [gz_f (by simp), Option.bind_some, gz_f (by simp)]; rfl
   | false =>
    rw [gz_t rfl, zgo _ hφ, Option.bind_some]
    cases zqu (gt x.railways i).calendar with
    | false => rw [gz_f (by simp)]; rfl
    | true => rw [gz_t (by simp), zmi _ (by omega)]; rfl) (fun n s => by rw [z0n, if_neg (by simp)]) φ s0 (by omega)
  refine (a6 _).trans ?_
  show (if zga x = true then some ((1 : Int), ()) else some (0, ())) = _
  cases zga x <;> rfl
theorem z8l {p : Pool} (h : z0e p = 0) : z9a p.network = 0 /\ z6a p.fleet = 0 /\ p.readers.length <= 256 /\ p.shippers.length <= 256 /\ p.railways.length <= 16 /\ zga p = false := by
 unfold z0e at h
 by_cases hn : z9a p.network = 0
 case neg => rw [if_pos hn] at h; exact absurd h hn
 rw [if_neg (fun e : z9a p.network ≠ 0 => e hn)] at h
 by_cases hf : z6a p.fleet = 0
 case neg => rw [if_pos hf] at h; exact absurd h hf
 rw [if_neg (fun e : z6a p.fleet ≠ 0 => e hf)] at h
 cases hb : zhg p with
 | true => rw [hb] at h; cases h
 | false =>
  rw [hb] at h
  cases hd : zga p with
  | true => rw [hd] at h; cases h
  | false =>
   simp only [zhg, Bool.or_eq_false_iff, decide_eq_false_iff_not] at hb
   exact ⟨hn, hf, by omega, by omega, by omega, rfl⟩
theorem zgl {p : Pool} (h : z0e p = 0) : (∀ r ∈ p.readers, 0 <= r.place /\ r.place < (p.network.places.length : Int) /\ -1000 <= r.low /\ r.low <= r.high /\ r.high <= 1000) /\
  (∀ w ∈ p.fleet.wagons, 0 <= w.home /\ w.home < (p.network.places.length : Int)) /\ (∀ e ∈ p.network.edges, e.railway < (p.railways.length : Int)) /\ 0 < p.railways.length := by
 obtain ⟨hn, hf, h1, h2, h3, hb⟩ := z8l h
 simp only [zga, Bool.or_eq_false_iff] at hb
 obtain ⟨⟨⟨⟨⟨⟨b0, b1⟩, b2⟩, b3⟩, b4⟩, b5⟩, b6⟩ := hb
 obtain ⟨_, _, _, _, _, hw, _, _⟩ := z9g hf
 refine ⟨fun r hr => ?_, fun w hw' => ?_, fun e he => ?_, ?_⟩
 ·have := List.any_eq_false.1 b1 r hr
  simp only [zfw, Bool.not_eq_true, Bool.or_eq_false_iff, Bool.not_eq_false', decide_eq_false_iff_not] at this
  obtain ⟨⟨⟨c1, c2⟩, c3⟩, c4⟩ := this
  have := zzk c1
  omega
 ·have := List.any_eq_false.1 b3 w hw'
  have h3 := hw w hw'
  simp only [zep, Bool.and_eq_true] at h3
  have := zzk h3.1.1.2
  simp at *
  omega
 ·have := List.any_eq_false.1 b5 e he
  simp at this; omega
 ·simp at b0
  exact List.length_pos_iff.2 b0
end Px
end
section
namespace Px
open Go
set_option linter.unusedVariables false
set_option linter.unusedSimpArgs false
theorem y57 {n b : Nat} (h : n <= 100000) (hb : b <= 1000) : fits n b := by
 unfold fits
 have : n * b <= 100000 * 1000 := Nat.mul_le_mul h hb
 omega
abbrev Ln := List ((Nat -> Int) × Int)
abbrev keyP (a b : Int) : Nat -> Int := upd (upd (fun _ => (default : Int)) 0 a) 1 b
abbrev lget (m : Ln) (a b : Int) : Option Int := @mget _ _ ⟨beqA 2⟩ m (keyP a b)
abbrev lset (m : Ln) (a b i : Int) : Ln := @mset _ _ ⟨beqA 2⟩ m (keyP a b) i
theorem y1j (f g : Nat -> Int) : beqA 2 f g = (f 0 == g 0 && f 1 == g 1) := by
 simp [beqA, List.range_succ]
theorem y7k (a b : Int) : keyP a b 0 = a := rfl
theorem y5o (a b : Int) : keyP a b 1 = b := rfl
theorem zkn (m : Ln) (a b i c d : Int) : lget (lset m a b i) c d = if c = a /\ d = b then some i else lget m c d := by
 induction m with
 | nil =>
  show (bif beqA 2 (keyP c d) (keyP a b) then some i else none) = _
  rw [y1j]
  simp only [y7k, y5o]
  by_cases h : c = a /\ d = b
  ·rw [if_pos h]; simp [h]
  ·rw [if_neg h]
   have : (c == a && d == b) = false := by rw [<- Bool.not_eq_true]; simpa using h
   rw [this]; rfl
 | cons p m ih =>
  obtain ⟨k, v⟩ := p
  show lget (bif beqA 2 (keyP a b) k then (keyP a b, i) :: m else (k, v) :: lset m a b i) c d = _
  have e1 : lget ((k, v) :: m) c d = bif beqA 2 (keyP c d) k then some v else lget m c d := rfl
  cases h1 : beqA 2 (keyP a b) k with
  | true =>
   rw [y1j] at h1
   simp only [y7k, y5o, Bool.and_eq_true, beq_iff_eq] at h1
   show (bif beqA 2 (keyP c d) (keyP a b) then some i else lget m c d) = _
   rw [e1, y1j, y1j]
   simp only [y7k, y5o]
   by_cases h : c = a /\ d = b
   ·rw [if_pos h]; simp [h]
   ·rw [if_neg h]
    have h2 : (c == a && d == b) = false := by rw [<- Bool.not_eq_true]; simpa using h
    have h3 : (c == k 0 && d == k 1) = false := by rw [<- h1.1, <- h1.2]; exact h2
    rw [h2, h3]; rfl
  | false =>
   show (bif beqA 2 (keyP c d) k then some v else lget (lset m a b i) c d) = _
   rw [ih, e1]
   cases h2 : beqA 2 (keyP c d) k with
   | false => rfl
   | true =>
    by_cases h : c = a /\ d = b
    ·obtain ⟨rfl, rfl⟩ := h
     rw [h1] at h2; cases h2
    ·show some v = _
     rw [if_neg h]; rfl
theorem y0y {b : Bool} (h : ¬ (!b) = true) : b = true := by cases b <;> simp_all
def ent1 (es : List Edge) (i a b : Int) (s : List (List Int) × Ln) : List (List Int) × Ln :=
 (if (!(lget s.2 a b).isSome) = true then z05 s.1 a (gt s.1 a ++ [b]) else s.1,
  if (!(lget s.2 a b).isSome || decide ((gt es i).minutes < (gt es ((lget s.2 a b).getD default)).minutes)) = true then lset s.2 a b i else s.2)
def entE (es : List Edge) (i : Int) (s : List (List Int) × Ln) : List (List Int) × Ln := ent1 es i (gt es i).b (gt es i).a (ent1 es i (gt es i).a (gt es i).b s)
structure GI (es : List Edge) (P k : Nat) (s : List (List Int) × Ln) : Prop where
 len : s.1.length = P
 near : ∀ a b : Int, 0 <= a -> a < (P : Int) -> (b ∈ gt s.1 a ↔ (lget s.2 a b).isSome = true)
 line : ∀ a b i : Int, lget s.2 a b = some i -> 0 <= i /\ i < (k : Int) /\ (((gt es i).a = a /\ (gt es i).b = b) \/ ((gt es i).a = b /\ (gt es i).b = a))
 size : ∀ a : Int, 0 <= a -> a < (P : Int) -> (gt s.1 a).length <= 2 * k
structure HI (es : List Edge) (P k : Nat) (s : List (List Int) × Ln) : Prop extends GI es P k s where
 sym : ∀ a b : Int, lget s.2 a b = lget s.2 b a
theorem y2k (es : List Edge) (P : Nat) : HI es P 0 (List.replicate P (default : List Int), []) where
 len := by simp
 near := fun a b h0 h1 => by
  rw [z2w _ _ _ h0 (by omega)]
  show b ∈ ([] : List Int) ↔ _
  simp [lget, mget]
 line := fun a b i h => by simp [lget, mget] at h
 size := fun a h0 h1 => by rw [z2w _ _ _ h0 (by omega)]; simp; rfl
 sym := fun a b => rfl
theorem y8a {es : List Edge} {P k : Nat} {s : List (List Int) × Ln} (h : GI es P k s) {a b : Int} (ha : 0 <= a) (ha' : a < (P : Int)) (he : ((gt es (k : Int)).a = a /\ (gt es (k : Int)).b = b) \/ ((gt es (k : Int)).a = b /\ (gt es (k : Int)).b = a)) :
  (ent1 es k a b s).1.length = P /\ (∀ c d : Int, 0 <= c -> c < (P : Int) -> (d ∈ gt (ent1 es k a b s).1 c ↔ (lget (ent1 es k a b s).2 c d).isSome = true)) /\
  (∀ c d i : Int, lget (ent1 es k a b s).2 c d = some i -> 0 <= i /\ i < ((k + 1 : Nat) : Int) /\ (((gt es i).a = c /\ (gt es i).b = d) \/ ((gt es i).a = d /\ (gt es i).b = c))) /\
  (∀ c : Int, 0 <= c -> c < (P : Int) -> (gt (ent1 es k a b s).1 c).length <= (gt s.1 c).length + 1) /\
  (∀ c d : Int, ¬ (c = a /\ d = b) -> lget (ent1 es k a b s).2 c d = lget s.2 c d) /\
  lget (ent1 es k a b s).2 a b = (if (!(lget s.2 a b).isSome || decide ((gt es (k : Int)).minutes < (gt es ((lget s.2 a b).getD default)).minutes)) = true then some (k : Int) else lget s.2 a b) := by
 have hl2 : ∀ c d : Int, lget (ent1 es k a b s).2 c d = if (c = a /\ d = b) then (if (!(lget s.2 a b).isSome || decide ((gt es (k : Int)).minutes < (gt es ((lget s.2 a b).getD default)).minutes)) = true then some (k : Int) else lget s.2 a b) else lget s.2 c d := by
  intro c d
  unfold ent1
  simp only []
  split
  ·rw [zkn]
  ·split
   ·rename_i q; rw [q.1, q.2]
   ·rfl
 have hsm : (lget (ent1 es k a b s).2 a b).isSome = true := by
  rw [hl2, if_pos ⟨rfl, rfl⟩]
  split
  ·rfl
  ·rename_i q
   simp only [Bool.or_eq_true, not_or] at q
   exact y0y q.1
 refine ⟨?_, ?_, ?_, ?_, fun c d hcd => by rw [hl2, if_neg hcd], by rw [hl2, if_pos ⟨rfl, rfl⟩]⟩
 ·unfold ent1
  simp only []
  split
  ·rw [z1f]; exact h.len
  ·exact h.len
 ·intro c d hc hc'
  by_cases hcd : c = a /\ d = b
  ·obtain ⟨rfl, rfl⟩ := hcd
   rw [hsm]
   refine ⟨fun _ => rfl, fun _ => ?_⟩
   unfold ent1
   simp only []
   split
   ·rw [z0j _ _ _ _ hc (by rw [h.len]; exact hc') hc, if_pos rfl]; simp
   ·rename_i q
    exact (h.near c d hc hc').2 (y0y q)
  ·rw [hl2, if_neg hcd, <- h.near c d hc hc']
   unfold ent1
   simp only []
   split
   ·rw [z0j _ _ _ _ ha (by rw [h.len]; exact ha') hc]
    by_cases e : c = a
    ·subst e
     rw [if_pos rfl]
     simp only [List.mem_append, List.mem_singleton]
     exact ⟨fun q => q.resolve_right (fun e => hcd ⟨rfl, e⟩), .inl⟩
    ·rw [if_neg e]
   ·exact Iff.rfl
 ·intro c d i hi
  rw [hl2] at hi
  split at hi
  ·rename_i q
   obtain ⟨rfl, rfl⟩ := q
   split at hi
   ·have := Option.some.inj hi
    subst this
    exact ⟨by omega, by omega, he⟩
   ·obtain ⟨h1, h2, h3⟩ := h.line _ _ _ hi
    exact ⟨h1, by omega, h3⟩
  ·obtain ⟨h1, h2, h3⟩ := h.line _ _ _ hi
   exact ⟨h1, by omega, h3⟩
 ·intro c hc hc'
  unfold ent1
  simp only []
  split
  ·rw [z0j _ _ _ _ ha (by rw [h.len]; exact ha') hc]
   split
   ·rename_i e; subst e; simp
   ·omega
  ·omega
theorem y7u {es : List Edge} {P k : Nat} {s : List (List Int) × Ln} (h : HI es P k s) (ha : 0 <= (gt es (k : Int)).a) (ha' : (gt es (k : Int)).a < (P : Int)) (hb : 0 <= (gt es (k : Int)).b) (hb' : (gt es (k : Int)).b < (P : Int)) (hne : (gt es (k : Int)).a ≠ (gt es (k : Int)).b) :
  HI es P (k + 1) (entE es k s) := by
 obtain ⟨a1, a2, a3, a4, a5, a6⟩ := y8a h.toGI ha ha' (.inl ⟨rfl, rfl⟩)
 unfold entE
 generalize hs1 : ent1 es k (gt es (k : Int)).a (gt es (k : Int)).b s = s1 at *
 generalize (gt es (k : Int)).a = a at *
 generalize (gt es (k : Int)).b = b at *
 -- the second end, by the same law: only the zbj on the numbers has moved
 have hl2 : ∀ c d : Int, lget (ent1 es k b a s1).2 c d = if (c = b /\ d = a) then (if (!(lget s1.2 b a).isSome || decide ((gt es (k : Int)).minutes < (gt es ((lget s1.2 b a).getD default)).minutes)) = true then some (k : Int) else lget s1.2 b a) else lget s1.2 c d := by
  intro c d
  unfold ent1
  simp only []
  split
  ·rw [zkn]
  ·split
   ·rename_i q; rw [q.1, q.2]
   ·rfl
 have hba : lget s1.2 b a = lget s.2 a b := by rw [a5 b a (fun q => hne q.2), h.sym]
 have hsm : (lget (ent1 es k b a s1).2 b a).isSome = true := by
  rw [hl2, if_pos ⟨rfl, rfl⟩]
  split
  ·rfl
  ·rename_i q
   simp only [Bool.or_eq_true, not_or] at q
   exact y0y q.1
 have hlab : lget (ent1 es k b a s1).2 a b = lget s1.2 a b := by rw [hl2, if_neg (fun q => hne q.1)]
 have hlba : lget (ent1 es k b a s1).2 b a = lget s1.2 a b := by
  rw [hl2, if_pos ⟨rfl, rfl⟩, hba, a6]
 have hab : ((gt es (k : Int)).a = a /\ (gt es (k : Int)).b = b) \/ ((gt es (k : Int)).a = b /\ (gt es (k : Int)).b = a) -> True := fun _ => trivial
 refine ⟨⟨?_, ?_, ?_, ?_⟩, ?_⟩
 ·unfold ent1
  simp only []
  split
  ·rw [z1f]; exact a1
  ·exact a1
 ·intro c d hc hc'
  by_cases hcd : c = b /\ d = a
  ·obtain ⟨rfl, rfl⟩ := hcd
   rw [hsm]
   refine ⟨fun _ => rfl, fun _ => ?_⟩
   unfold ent1
   simp only []
   split
   ·rw [z0j _ _ _ _ hc (by rw [a1]; exact hc') hc, if_pos rfl]; simp
   ·rename_i q
    exact (a2 c d hc hc').2 (y0y q)
  ·rw [hl2, if_neg hcd, <- a2 c d hc hc']
   unfold ent1
   simp only []
   split
   ·rw [z0j _ _ _ _ hb (by rw [a1]; exact hb') hc]
    by_cases e : c = b
    ·subst e
     rw [if_pos rfl]
     simp only [List.mem_append, List.mem_singleton]
     exact ⟨fun q => q.resolve_right (fun e => hcd ⟨rfl, e⟩), .inl⟩
    ·rw [if_neg e]
   ·exact Iff.rfl
 ·intro c d i hi
  by_cases hcd : c = b /\ d = a
  ·obtain ⟨rfl, rfl⟩ := hcd
   rw [hlba] at hi
   obtain ⟨h1, h2, h3⟩ := a3 _ _ _ hi
   exact ⟨h1, h2, h3.elim .inr .inl⟩
  ·rw [hl2, if_neg hcd] at hi
   exact a3 _ _ _ hi
 ·intro c hc hc'
  have h1 := a4 c hc hc'
  have h0 := h.size c hc hc'
  have h2 : (gt (ent1 es k b a s1).1 c).length <= (gt s1.1 c).length + 1 := by
   unfold ent1
   simp only []
   split
   ·rw [z0j _ _ _ _ hb (by rw [a1]; exact hb') hc]
    split
    ·rename_i e; subst e; simp
    ·omega
   ·omega
  omega
 ·intro c d
  by_cases h1 : c = b /\ d = a
  ·obtain ⟨rfl, rfl⟩ := h1
   rw [hlba, hlab]
  ·by_cases h2 : c = a /\ d = b
   ·obtain ⟨rfl, rfl⟩ := h2
    rw [hlab, hlba]
   ·rw [hl2, if_neg h1, hl2, if_neg (fun q => h2 ⟨q.2, q.1⟩), a5 c d h2, a5 d c (fun q => h1 ⟨q.2, q.1⟩), h.sym]
def zhk (es : List Edge) (P : Nat) : Nat -> List (List Int) × Ln
 | 0 => (List.replicate P default, [])
 | k + 1 => entE es k (zhk es P k)
structure zj9 (x : zg) : Prop where
 places : x.places.length <= 512
 edges : x.edges.length <= 2048
 edge : ∀ i : Int, 0 <= i -> i < (x.edges.length : Int) -> zcs x.places.length (gt x.edges i) = true
theorem y6v {x : zg} (h : z9a x = 0) : zj9 x := by
 obtain ⟨h1, h2, _, h4⟩ := zj7 h
 exact ⟨h1, h2, fun i h0 hi => h4 _ (z21 h0 hi)⟩
theorem zj9.ends {x : zg} (h : zj9 x) {i : Int} (h0 : 0 <= i) (hi : i < (x.edges.length : Int)) : 0 <= (gt x.edges i).a /\ (gt x.edges i).a < (x.places.length : Int) /\ 0 <= (gt x.edges i).b /\ (gt x.edges i).b < (x.places.length : Int) /\
  (gt x.edges i).a ≠ (gt x.edges i).b /\ 0 <= (gt x.edges i).railway /\ (gt x.edges i).railway <= 15 /\ 1 <= (gt x.edges i).minutes /\ (gt x.edges i).minutes <= 100000 /\ 0 <= (gt x.edges i).km /\ (gt x.edges i).km <= 10000 := by
 have := h.edge i h0 hi
 simp only [zcs, Bool.and_eq_true, zrz, bne_iff_ne, ne_eq] at this
 obtain ⟨⟨⟨⟨⟨q1, q2⟩, q3⟩, q4⟩, q5⟩, q6⟩ := this
 exact ⟨q1.1, by omega, q2.1, by omega, q3, q4.1, q4.2, q5.1, q5.2, q6.1, q6.2⟩
theorem ze1 {x : zg} (h : zj9 x) : ∀ k, k <= x.edges.length -> HI x.edges x.places.length k (zhk x.edges x.places.length k)
 | 0, _ => y2k _ _
 | k + 1, hk => by
  obtain ⟨a1, a2, a3, a4, a5, _⟩ := h.ends (i := (k : Int)) (by omega) (by omega)
  exact y7u (ze1 h k (by omega)) a1 a2 a3 a4 a5
structure Gr (P : Nat) (near : List (List Int)) (wt : Int -> Int -> Int) : Prop where
 len : near.length = P
 small : P <= 512
 size : ∀ a : Int, 0 <= a -> a < (P : Int) -> (gt near a).length <= 5000
 rng : ∀ a b : Int, 0 <= a -> a < (P : Int) -> b ∈ gt near a -> 0 <= b /\ b < (P : Int)
 sym : ∀ a b : Int, 0 <= a -> a < (P : Int) -> b ∈ gt near a -> a ∈ gt near b /\ wt b a = wt a b
 wt : ∀ a b : Int, 0 <= a -> a < (P : Int) -> b ∈ gt near a -> 1 <= wt a b /\ wt a b <= 100000
def z9j (x : zg) : Ln := (zhk x.edges x.places.length x.edges.length).2
def wtN (x : zg) (a b : Int) : Int := (gt x.edges ((lget (z9j x) a b).getD default)).minutes
def zff (x : zg) : List (List Int) := (zhk x.edges x.places.length x.edges.length).1
def z3c (x : zg) : List (List Int) := (zff x).map fun l => zd8 (fun a b => decide (a < b)) l
theorem zz6 {α β : Type} [Inhabited α] [Inhabited β] (f : α -> β) (l : List α) {i : Int} (h0 : 0 <= i) (h : i < (l.length : Int)) : gt (l.map f) i = f (gt l i) := by
 obtain ⟨n, rfl⟩ : ∃ n : Nat, i = (n : Int) := ⟨i.toNat, by omega⟩
 rw [z1m (by simp; omega), z1m (by omega)]
 simp
theorem znv {x : zg} (h : zj9 x) {a b : Int} (ha : 0 <= a) (ha' : a < (x.places.length : Int)) (hb : b ∈ gt (z3c x) a) : ∃ i, lget (z9j x) a b = some i /\ 0 <= i /\ i < (x.edges.length : Int) /\ (((gt x.edges i).a = a /\ (gt x.edges i).b = b) \/ ((gt x.edges i).a = b /\ (gt x.edges i).b = a)) := by
 have H := ze1 h x.edges.length (Nat.le_refl _)
 unfold z3c at hb
 rw [zz6 _ _ ha (by show a < ((zff x).length : Int); rw [show (zff x).length = _ from H.len]; exact ha')] at hb
 have hb := (z15 _ _).mem_iff.1 hb
 have := (H.near a b ha ha').1 hb
 obtain ⟨i, hi⟩ := Option.isSome_iff_exists.1 this
 obtain ⟨h1, h2, h3⟩ := H.line _ _ _ hi
 exact ⟨i, hi, h1, h2, h3⟩
theorem grN {x : zg} (h : zj9 x) : Gr x.places.length (z3c x) (wtN x) := by
 have H := ze1 h x.edges.length (Nat.le_refl _)
 have hlen : (z3c x).length = x.places.length := by unfold z3c; rw [List.length_map]; exact H.len
 have hl0 : (zff x).length = x.places.length := H.len
 have hmem : ∀ a b : Int, 0 <= a -> a < (x.places.length : Int) -> (b ∈ gt (z3c x) a ↔ (lget (z9j x) a b).isSome = true) := by
  intro a b ha ha'
  unfold z3c
  rw [zz6 _ _ ha (by rw [hl0]; exact ha')]
  exact ((z15 _ _).mem_iff).trans (H.near a b ha ha')
 refine ⟨hlen, h.places, ?_, ?_, ?_, ?_⟩
 ·intro a ha ha'
  unfold z3c
  rw [zz6 _ _ ha (by rw [hl0]; exact ha'), (z15 _ _).length_eq]
  have := H.size a ha ha'
  have := h.edges
  show (gt (zhk x.edges x.places.length x.edges.length).1 a).length <= _
  omega
 ·intro a b ha ha' hb
  obtain ⟨i, _, h1, h2, h3⟩ := znv h ha ha' hb
  obtain ⟨e1, e2, e3, e4, _⟩ := h.ends h1 h2
  rcases h3 with ⟨rfl, rfl⟩ | ⟨rfl, rfl⟩
  ·exact ⟨e3, e4⟩
  ·exact ⟨e1, e2⟩
 ·intro a b ha ha' hb
  obtain ⟨i, hi, h1, h2, h3⟩ := znv h ha ha' hb
  obtain ⟨e1, e2, e3, e4, _⟩ := h.ends h1 h2
  have hbr : 0 <= b /\ b < (x.places.length : Int) := by
   rcases h3 with ⟨rfl, rfl⟩ | ⟨rfl, rfl⟩
   ·exact ⟨e3, e4⟩
   ·exact ⟨e1, e2⟩
  have hs : lget (z9j x) b a = lget (z9j x) a b := H.sym b a
  refine ⟨(hmem b a hbr.1 hbr.2).2 (by rw [hs, hi]; rfl), ?_⟩
  unfold wtN
  rw [hs]
 ·intro a b ha ha' hb
  obtain ⟨i, hi, h1, h2, _⟩ := znv h ha ha' hb
  obtain ⟨_, _, _, _, _, _, _, e1, e2, _⟩ := h.ends h1 h2
  unfold wtN
  rw [hi]
  exact ⟨e1, e2⟩
structure DI (P : Nat) (near : List (List Int)) (wt : Int -> Int -> Int) (s : Int) (k : Nat) (t : List Int) (d : List Bool) : Prop where
 lt : t.length = P
 ld : d.length = P
 src : gt t s = 0
 bd : ∀ i : Int, 0 <= i -> i < (P : Int) -> gt t i = -1 \/ (0 <= gt t i /\ gt t i <= 100000 * k)
 don : ∀ i : Int, 0 <= i -> i < (P : Int) -> gt d i = true -> 0 <= gt t i
 pre : ∀ a : Int, 0 <= a -> a < (P : Int) -> a ≠ s -> 0 <= gt t a -> ∃ q, 0 <= q /\ q < (P : Int) /\ gt d q = true /\ q ∈ gt near a /\ gt t a = gt t q + wt q a
 mon : ∀ q i : Int, 0 <= q -> q < (P : Int) -> 0 <= i -> i < (P : Int) -> gt d q = true -> gt d i = false -> 0 <= gt t i -> gt t q <= gt t i
 nbr : ∀ q i : Int, 0 <= q -> q < (P : Int) -> gt d q = true -> i ∈ gt near q -> 0 <= gt t i /\ gt t i <= gt t q + wt q i
 cnt : d.count true = k
structure RndI (P : Nat) (near : List (List Int)) (wt : Int -> Int -> Int) (s p : Int) (k : Nat) (t0 : List Int) (d : List Bool) (seen : List Int) (t : List Int) : Prop where
 lt : t.length = P
 own : gt t p = gt t0 p
 val : ∀ i : Int, 0 <= i -> i < (P : Int) -> gt t i = gt t0 i \/ (i ∈ seen /\ gt t i = gt t0 p + wt p i /\ (gt t0 i < 0 \/ gt t0 p + wt p i < gt t0 i))
 got : ∀ i ∈ seen, 0 <= i -> 0 <= gt t i /\ gt t i <= gt t p + wt p i
end Px
end
section
namespace Px
open Go
set_option linter.unusedVariables false
set_option linter.unusedSimpArgs false
section
variable {P : Nat} {near : List (List Int)} {wt : Int -> Int -> Int} {s : Int}
theorem zv1 {α : Type} [Inhabited α] (l : List α) {i : Int} (h0 : 0 <= i) (h : i < (l.length : Int)) : z05 l i (gt l i) = l := by
 obtain ⟨n, rfl⟩ : ∃ n : Nat, i = (n : Int) := ⟨i.toNat, by omega⟩
 rw [z1m (by omega)]
 simp [z05]
theorem zxc {p : Int} {k : Nat} {t0 : List Int} {d : List Bool} (h : DI P near wt s k t0 d) : RndI P near wt s p k t0 d [] t0 :=
 ⟨h.lt, rfl, fun i _ _ => .inl rfl, fun i hi => by cases hi⟩
theorem y0p (hG : Gr P near wt) {p : Int} (hp : 0 <= p) (hp' : p < (P : Int)) {k : Nat} {t0 : List Int} {d : List Bool} (hp0 : 0 <= gt t0 p) {seen t : List Int} (h : RndI P near wt s p k t0 d seen t) {q : Int} (hq : q ∈ gt near p) :
  RndI P near wt s p k t0 d (seen ++ [q]) (if (decide (gt t q < 0) || decide (gt t p + wt p q < gt t q)) = true then z05 t q (gt t p + wt p q) else t) := by
 obtain ⟨q0, q1⟩ := hG.rng p q hp hp' hq
 obtain ⟨w0, w1⟩ := hG.wt p q hp hp' hq
 have hown := h.own
 by_cases c : gt t q < 0 \/ gt t p + wt p q < gt t q
 ·rw [if_pos (by simpa using c)]
  have hqp : q ≠ p := fun e => by subst e; omega
  refine ⟨by rw [z1f]; exact h.lt, ?_, fun i h0 h1 => ?_, fun i hi hneg => ?_⟩
  ·rw [z0j _ _ _ _ q0 (by rw [h.lt]; exact q1) hp, if_neg (fun e => hqp e.symm)]; exact hown
  ·rw [z0j _ _ _ _ q0 (by rw [h.lt]; exact q1) h0]
   by_cases e : i = q
   ·subst e
    rw [if_pos rfl]
    refine .inr ⟨by simp, by rw [hown], ?_⟩
    rcases h.val i h0 h1 with h2 | ⟨_, h2, _⟩
    ·rw [h2, hown] at c; exact c
    ·rw [h2, hown] at c; exfalso; omega
   ·rw [if_neg e]
    rcases h.val i h0 h1 with h2 | ⟨h2, h3, h4⟩
    ·exact .inl h2
    ·exact .inr ⟨List.mem_append_left _ h2, h3, h4⟩
  ·by_cases e : i = q
   ·subst e
    rw [z0j _ _ _ _ q0 (by rw [h.lt]; exact q1) q0, if_pos rfl, z0j _ _ _ _ q0 (by rw [h.lt]; exact q1) hp, if_neg (fun e => hqp e.symm)]
    omega
   ·have hi : i ∈ seen := by
     rcases List.mem_append.1 hi with hi | hi
     ·exact hi
     ·exact absurd (List.mem_singleton.1 hi) e
    rw [z0j _ _ _ _ q0 (by rw [h.lt]; exact q1) hneg, if_neg e, z0j _ _ _ _ q0 (by rw [h.lt]; exact q1) hp, if_neg (fun e => hqp e.symm)]
    exact h.got i hi hneg
 ·rw [if_neg (by simpa using c)]
  refine ⟨h.lt, hown, fun i h0 h1 => ?_, fun i hi hneg => ?_⟩
  ·rcases h.val i h0 h1 with h2 | ⟨h2, h3, h4⟩
   ·exact .inl h2
   ·exact .inr ⟨List.mem_append_left _ h2, h3, h4⟩
  ·rcases List.mem_append.1 hi with hi | hi
   ·exact h.got i hi hneg
   ·rw [List.mem_singleton.1 hi]; omega
theorem zru {d : List Bool} {p : Int} (hp : 0 <= p) (hp' : p < (d.length : Int)) (h : gt d p = false) : (z05 d p true).count true = d.count true + 1 := by
 obtain ⟨n, rfl⟩ : ∃ n : Nat, p = (n : Int) := ⟨p.toNat, by omega⟩
 have hn : n < d.length := by omega
 rw [z1m hn] at h
 unfold z05
 rw [Int.toNat_natCast, List.count_set hn, h]
 simp
theorem y0o (hG : Gr P near wt) {p : Int} (hp : 0 <= p) (hp' : p < (P : Int)) {k : Nat} {t0 : List Int} {d : List Bool} (h : DI P near wt s k t0 d) (hs : 0 <= s) (hs' : s < (P : Int)) (hp0 : 0 <= gt t0 p) (hd : gt d p = false)
  (hmin : ∀ i : Int, 0 <= i -> i < (P : Int) -> 0 <= gt t0 i -> gt d i = false -> gt t0 p <= gt t0 i) {t : List Int} (hr : RndI P near wt s p k t0 d (gt near p) t) : DI P near wt s (k + 1) t (z05 d p true) := by
 have hds : ∀ i : Int, 0 <= i -> gt (z05 d p true) i = if i = p then true else gt d i := fun i hi => z0j _ _ _ _ hp (by rw [h.ld]; exact hp') hi
 have hw : ∀ i, i ∈ gt near p -> 1 <= wt p i /\ wt p i <= 100000 := fun i hi => hG.wt p i hp hp' hi
 -- what is done stays
 have hdone : ∀ i : Int, 0 <= i -> i < (P : Int) -> gt d i = true -> gt t i = gt t0 i := by
  intro i h0 h1 hdi
  rcases hr.val i h0 h1 with h2 | ⟨h2, h3, h4⟩
  ·exact h2
  ·have := hw i h2
   have := h.don i h0 h1 hdi
   have := h.mon i p h0 h1 hp hp' hdi hd hp0
   omega
 have hbdp := (h.bd p hp hp').resolve_left (by omega)
 refine ⟨hr.lt, by rw [z1f]; exact h.ld, ?_, fun i h0 h1 => ?_, fun i h0 h1 hdi => ?_, fun a h0 h1 has hta => ?_, fun q i q0 q1 h0 h1 hdq hdi hti => ?_, fun q i q0 q1 hdq hin => ?_, ?_⟩
 ·rcases hr.val s hs hs' with h2 | ⟨h2, h3, h4⟩
  ·rw [h2, h.src]
  ·have := hw s h2
   have := h.src
   omega
 ·rcases hr.val i h0 h1 with h2 | ⟨h2, h3, h4⟩
  ·rw [h2]
   rcases h.bd i h0 h1 with h5 | h5
   ·exact .inl h5
   ·right; omega
  ·have := hw i h2
   right; omega
 ·rw [hds i h0] at hdi
  by_cases e : i = p
  ·subst e; rw [hr.own]; exact hp0
  ·rw [if_neg e] at hdi
   rw [hdone i h0 h1 hdi]; exact h.don i h0 h1 hdi
 ·rcases hr.val a h0 h1 with h2 | ⟨h2, h3, h4⟩
  ·rw [h2] at hta ⊢
   obtain ⟨q, q0, q1, hdq, hqn, he⟩ := h.pre a h0 h1 has hta
   refine ⟨q, q0, q1, ?_, hqn, by rw [hdone q q0 q1 hdq]; exact he⟩
   rw [hds q q0]; split
   ·rfl
   ·exact hdq
  ·obtain ⟨hsy, hwt⟩ := hG.sym p a hp hp' h2
   exact ⟨p, hp, hp', by rw [hds p hp, if_pos rfl], hsy, by rw [hr.own, h3]⟩
 ·rw [hds q q0] at hdq
  rw [hds i h0] at hdi
  have hip : i ≠ p := fun e => by rw [if_pos e] at hdi; cases hdi
  rw [if_neg hip] at hdi
  have hge : gt t0 p <= gt t i := by
   rcases hr.val i h0 h1 with h2 | ⟨h2, h3, h4⟩
   ·rw [h2] at hti ⊢; exact hmin i h0 h1 hti hdi
   ·have := hw i h2; omega
  by_cases e : q = p
  ·subst e; rw [hr.own]; exact hge
  ·rw [if_neg e] at hdq
   have := h.mon q p q0 q1 hp hp' hdq hd hp0
   rw [hdone q q0 q1 hdq]; omega
 ·rw [hds q q0] at hdq
  by_cases e : q = p
  ·subst e; exact hr.got i hin (hG.rng q i hp hp' hin).1
  ·rw [if_neg e] at hdq
   obtain ⟨i0, i1⟩ := hG.rng q i q0 q1 hin
   have := h.nbr q i q0 q1 hdq hin
   rw [hdone q q0 q1 hdq]
   rcases hr.val i i0 i1 with h2 | ⟨h2, h3, h4⟩
   ·rw [h2]; exact this
   ·have := hw i h2; omega
 ·rw [zru hp (by rw [h.ld]; exact hp') hd, h.cnt]
structure DF (P : Nat) (near : List (List Int)) (wt : Int -> Int -> Int) (s : Int) (t : List Int) : Prop where
 lt : t.length = P
 src : gt t s = 0
 bd : ∀ i : Int, 0 <= i -> i < (P : Int) -> gt t i = -1 \/ (0 <= gt t i /\ gt t i <= 51200000)
 pre : ∀ a : Int, 0 <= a -> a < (P : Int) -> a ≠ s -> 0 <= gt t a -> ∃ q, 0 <= q /\ q < (P : Int) /\ q ∈ gt near a /\ 0 <= gt t q /\ gt t a = gt t q + wt q a
 nbr : ∀ q i : Int, 0 <= q -> q < (P : Int) -> 0 <= gt t q -> i ∈ gt near q -> 0 <= gt t i /\ gt t i <= gt t q + wt q i
theorem ybf (hG : Gr P near wt) {k : Nat} {t : List Int} {d : List Bool} (h : DI P near wt s k t d) (hall : ∀ i : Int, 0 <= i -> i < (P : Int) -> 0 <= gt t i -> gt d i = true) : DF P near wt s t := by
 have hk : k <= P := by rw [<- h.cnt, <- h.ld]; exact List.count_le_length
 have := hG.small
 refine ⟨h.lt, h.src, fun i h0 h1 => ?_, fun a h0 h1 ha hta => ?_, fun q i q0 q1 hq hi => h.nbr q i q0 q1 (hall q q0 q1 hq) hi⟩
 ·rcases h.bd i h0 h1 with h2 | h2
  ·exact .inl h2
  ·right; omega
 ·obtain ⟨q, q0, q1, hdq, hqn, he⟩ := h.pre a h0 h1 ha hta
  exact ⟨q, q0, q1, hqn, h.don q q0 q1 hdq, he⟩
theorem y0w (hs : 0 <= s) (hs' : s < (P : Int)) (t : List Int) (ht : t.length = P) (hall : ∀ i : Int, 0 <= i -> i < (P : Int) -> gt t i = if i = s then 0 else -1) : DI P near wt s 0 t (List.replicate P (default : Bool)) := by
 have hd : ∀ i : Int, 0 <= i -> i < (P : Int) -> gt (List.replicate P (default : Bool)) i = false := fun i h0 h1 => by rw [z2w _ _ _ h0 (by omega)]; rfl
 refine ⟨ht, by simp, by rw [hall s hs hs', if_pos rfl], fun i h0 h1 => ?_, fun i h0 h1 h => ?_, fun a h0 h1 ha hta => ?_, fun q i q0 q1 h0 h1 hdq => ?_, fun q i q0 q1 hdq => ?_, ?_⟩
 ·rw [hall i h0 h1]; split <;> omega
 ·rw [hd i h0 h1] at h; cases h
 ·rw [hall a h0 h1, if_neg ha] at hta; omega
 ·rw [hd q q0 q1] at hdq; cases hdq
 ·rw [hd q q0 q1] at hdq; cases hdq
 ·simp [List.count_replicate]
end
section walk
variable {ρ : Type} {P : Nat} {near : List (List Int)} {wt : Int -> Int -> Int} {s : Int}
theorem yaj (hP : P <= 512) (A : Nat -> Int -> Int -> Option ρ) (fin : Int -> Option ρ) (t : List Int) (d : List Bool) (ht : t.length = P) (hd : d.length = P)
  (stp : ∀ n p i, A (n + 1) p i = (if (decide ((i : Int) < (P : Int))) = true then (ck ((0 : Int) <= i /\ i < (t.length : Int)) (ck (((decide ((0 : Int) <= (gt t i))) = true) -> (0 : Int) <= i /\ i < (d.length : Int)) (ck ((((decide ((0 : Int) <= (gt t i))) && (!(gt d i))) = true /\ (decide ((p : Int) < 0)) = false) -> (0 : Int) <= i /\ i < (t.length : Int)) (ck ((((decide ((0 : Int) <= (gt t i))) && (!(gt d i))) = true /\ (decide ((p : Int) < 0)) = false) -> (0 : Int) <= p /\ p < (t.length : Int)) (if (((decide ((0 : Int) <= (gt t i))) && (!(gt d i))) && ((decide ((p : Int) < 0)) || (decide (((gt t i) : Int) < (gt t p))))) = true then (A n i (W (i + 1))) else (A n p (W (i + 1)))))))) else fin p)) (n : Nat) (hn : P < n) :
  ∃ p, A n (-1) 0 = fin p /\ ((p = -1 /\ ∀ i : Int, 0 <= i -> i < (P : Int) -> 0 <= gt t i -> gt d i = true) \/ (0 <= p /\ p < (P : Int) /\ 0 <= gt t p /\ gt d p = false /\ ∀ i : Int, 0 <= i -> i < (P : Int) -> 0 <= gt t i -> gt d i = false -> gt t p <= gt t i)) := by
 refine z0k (fun n i (p : Int) => A n p i) P (fun i p => (p = -1 /\ ∀ j : Int, 0 <= j -> j < (i : Int) -> 0 <= gt t j -> gt d j = true) \/ (0 <= p /\ p < (i : Int) /\ 0 <= gt t p /\ gt d p = false /\ ∀ j : Int, 0 <= j -> j < (i : Int) -> 0 <= gt t j -> gt d j = false -> gt t p <= gt t j))
  (fun o => ∃ p, o = fin p /\ ((p = -1 /\ ∀ i : Int, 0 <= i -> i < (P : Int) -> 0 <= gt t i -> gt d i = true) \/ (0 <= p /\ p < (P : Int) /\ 0 <= gt t p /\ gt d p = false /\ ∀ i : Int, 0 <= i -> i < (P : Int) -> 0 <= gt t i -> gt d i = false -> gt t p <= gt t i))) ?_ ?_ n (-1) (.inl ⟨rfl, fun j h0 h1 => by omega⟩) hn
 ·intro n i p hi hI hs
  rw [stp, if_pos (by simp; omega), z8 ⟨by omega, by omega⟩, z8 (fun _ => ⟨by omega, by omega⟩), z8 (fun _ => ⟨by omega, by omega⟩), W_id (by omega) (by omega)]
  have hpr : (decide ((p : Int) < 0)) = false -> (0 : Int) <= p /\ p < (t.length : Int) := by
   intro h
   simp only [decide_eq_false_iff_not] at h
   rcases hI with ⟨rfl, _⟩ | ⟨h1, h2, _⟩
   ·omega
   ·exact ⟨h1, by omega⟩
  rw [z8 (fun h => hpr h.2)]
  have split_j : ∀ j : Int, j < ((i + 1 : Nat) : Int) -> j < (i : Int) \/ j = (i : Int) := fun j h => by omega
  by_cases c : (0 <= gt t (i : Int) /\ gt d (i : Int) = false) /\ (p < 0 \/ gt t (i : Int) < gt t p)
  ·rw [if_pos (by simpa using c)]
   refine hs _ (.inr ⟨by omega, by omega, c.1.1, c.1.2, fun j h0 h1 htj hdj => ?_⟩)
   rcases split_j j h1 with h2 | rfl
   ·rcases hI with ⟨_, h3⟩ | ⟨q0, _, _, _, h3⟩
    ·have := h3 j h0 h2 htj; rw [hdj] at this; cases this
    ·have := h3 j h0 h2 htj hdj
     have := c.2.resolve_left (by omega)
     omega
   ·exact Int.le_refl _
  ·rw [if_neg (by simpa using c)]
   refine hs p ?_
   rcases hI with ⟨rfl, h3⟩ | ⟨q0, q1, q2, q3, h3⟩
   ·refine .inl ⟨rfl, fun j h0 h1 htj => ?_⟩
    rcases split_j j h1 with h2 | rfl
    ·exact h3 j h0 h2 htj
    ·cases hdi : gt d (i : Int) with
     | true => rfl
     | false => exact absurd ⟨⟨htj, hdi⟩, .inl (by omega)⟩ c
   ·refine .inr ⟨q0, by omega, q2, q3, fun j h0 h1 htj hdj => ?_⟩
    rcases split_j j h1 with h2 | rfl
    ·exact h3 j h0 h2 htj hdj
    ·rcases Int.lt_or_le (gt t (i : Int)) (gt t p) with h4 | h4
     ·exact absurd ⟨⟨htj, hdj⟩, .inr h4⟩ c
     ·exact h4
 ·intro n p hI
  rw [stp, if_neg (by simp)]
  exact ⟨p, rfl, hI⟩
theorem yag (hG : Gr P near wt) {p : Int} (hp : 0 <= p) (hp' : p < (P : Int)) {k : Nat} (hk : k <= 512) {t0 : List Int} {d : List Bool} (hD : DI P near wt s k t0 d) (hp0 : 0 <= gt t0 p) (B : Nat -> Int -> List Int -> Option ρ) (K : List Int -> Option ρ) (nb : List Int) (hnb : nb = gt near p) (E : Nat) (lg : Int -> Int) (mins : Int -> Int)
  (hlg : ∀ q ∈ nb, 0 <= lg q /\ lg q < (E : Int) /\ mins (lg q) = wt p q)
  (stp : ∀ n i t, B (n + 1) i t = (if (decide ((i : Int) < (nb.length : Int))) = true then (ck ((0 : Int) <= i /\ i < (nb.length : Int)) (ck ((0 : Int) <= p /\ p < (t.length : Int)) (ck ((0 : Int) <= lg (gt nb i) /\ lg (gt nb i) < (E : Int)) (ck ((0 : Int) <= (gt nb i) /\ (gt nb i) < (t.length : Int)) (ck (((decide (((gt t (gt nb i)) : Int) < 0)) = false) -> (0 : Int) <= (gt nb i) /\ (gt nb i) < (t.length : Int)) (if ((decide (((gt t (gt nb i)) : Int) < 0)) || (decide (((W ((gt t p) + mins (lg (gt nb i)))) : Int) < (gt t (gt nb i))))) = true then (ck ((0 : Int) <= (gt nb i) /\ (gt nb i) < (t.length : Int)) (B n (W (i + 1)) (z05 t (gt nb i) (W ((gt t p) + mins (lg (gt nb i))))))) else (B n (W (i + 1)) t))))))) else K t)) (n : Nat) (hn : nb.length < n) :
  ∃ t, B n 0 t0 = K t /\ RndI P near wt s p k t0 d nb t := by
 have hsz : nb.length <= 5000 := by rw [hnb]; exact hG.size p hp hp'
 have hbp := (hD.bd p hp hp').resolve_left (by omega)
 refine z0k (fun n i t => B n i t) nb.length (fun i t => RndI P near wt s p k t0 d (nb.take i) t) (fun o => ∃ t, o = K t /\ RndI P near wt s p k t0 d nb t) ?_ ?_ n t0 (zxc hD) hn
 ·intro n i t hi hI hs
  have hm : gt nb (i : Int) ∈ gt near p := by rw [<- hnb]; exact z21 (by omega) (by omega)
  obtain ⟨q0, q1⟩ := hG.rng p _ hp hp' hm
  obtain ⟨w0, w1⟩ := hG.wt p _ hp hp' hm
  obtain ⟨l0, l1, l2⟩ := hlg (gt nb (i : Int)) (by rw [hnb]; rw [hnb] at hm; exact hm)
  have hlt := hI.lt
  have hst := y0p hG hp hp' hp0 hI hm
  rw [<- z0w nb i hi] at hst
  have hr := hs _ hst
  have hown := hI.own
  rw [stp, if_pos (by simp; omega), z8 ⟨by omega, by omega⟩, z8 ⟨by omega, by omega⟩, z8 ⟨l0, l1⟩, z8 ⟨by omega, by omega⟩, z8 (fun _ => ⟨by omega, by omega⟩), l2, W_id (x := gt t p + _) (by omega) (by omega), W_id (by omega) (by omega)]
  generalize gt nb (i : Int) = q at *
  by_cases c : (decide (gt t q < 0) || decide (gt t p + wt p q < gt t q)) = true
  ·rw [if_pos c] at hr ⊢
   rw [z8 ⟨by omega, by omega⟩]
   exact hr
  ·rw [if_neg c] at hr ⊢
   exact hr
 ·intro n t hI
  rw [stp, if_neg (by simp)]
  rw [List.take_length] at hI
  exact ⟨t, rfl, hI⟩
theorem y2y (hG : Gr P near wt) (hs : 0 <= s) (hs' : s < (P : Int)) (M : Nat -> List Int -> List Bool -> Option ρ) (fin : List Int -> Option ρ) (φ : Nat)
  (rnd : ∀ n k t d, k <= 512 -> DI P near wt s k t d -> (∃ t', DF P near wt s t' /\ M (n + 1) t d = fin t') \/ (∃ t' p, 0 <= p /\ p < (P : Int) /\ DI P near wt s (k + 1) t' (z05 d p true) /\ M (n + 1) t d = M n t' (z05 d p true))) :
  ∀ n k t d, DI P near wt s k t d -> P < n + k -> ∃ t', DF P near wt s t' /\ M n t d = fin t' := by
 intro n
 induction n with
 | zero =>
  intro k t d h hn
  have hk : k <= P := by rw [<- h.cnt, <- h.ld]; exact List.count_le_length
  omega
 | succ n ih =>
  intro k t d h hn
  have hk : k <= P := by rw [<- h.cnt, <- h.ld]; exact List.count_le_length
  have := hG.small
  rcases rnd n k t d (by omega) h with h1 | ⟨t', p, _, _, h2, h3⟩
  ·exact h1
  ·rw [h3]
   exact ih (k + 1) t' _ h2 (by omega)
end walk
end Px
end
section
namespace Px
open Go
set_option linter.unusedVariables false
set_option linter.unusedSimpArgs false
section zq
variable (φ : Nat) (K : List Edge -> Int -> Int -> Int -> Int -> zg -> zg -> List (List Int) -> Ln -> Option (Int × Int × Unit)) (x : zg) (a0 b0 : Int)
theorem z6g {i : Nat} (hi : i < x.edges.length) {P : Nat} {near : List (List Int)} {line : Ln} {a b : Int} (hl : near.length = P) (ha : 0 <= a) (ha' : a < (P : Int)) (hsz : (gt near a).length <= 10000) (hx : x.edges.length <= 2048) (hold : ∀ o, lget line a b = some o -> 0 <= o /\ o < (x.edges.length : Int)) :
  (if (!(lget line a b).isSome) = true then (ck ((0 : Int) <= a /\ a < (near.length : Int)) (ck ((0 : Int) <= a /\ a < (near.length : Int)) (ck ((a : Int) = a) (ck (fits ((gt near a).length + ([b]).length) 8) (ck ((0 : Int) <= a /\ a < (near.length : Int)) (ck ((a : Int) = a) (z2b φ K i ((lget line a b).getD default) ((lget line a b).isSome) x.edges (x.edges.length : Int) i a0 b0 x (keyP a b) x (z05 near a (gt near a ++ [b])) line))))))) else (z2b φ K i ((lget line a b).getD default) ((lget line a b).isSome) x.edges (x.edges.length : Int) i a0 b0 x (keyP a b) x near line)) =
  K x.edges (x.edges.length : Int) ((i : Int) + 1) a0 b0 x x (ent1 x.edges i a b (near, line)).1 (ent1 x.edges i a b (near, line)).2 := by
 have hW : W ((i : Int) + 1) = (i : Int) + 1 := W_id (by omega) (by omega)
 unfold z2b ent1
 simp only []
 cases h : lget line a b with
 | none =>
  simp only [Option.isSome_none, Bool.not_false, if_true, Option.getD_none, Bool.true_or]
  rw [z8 ⟨ha, by omega⟩, z8 ⟨ha, by omega⟩, z8 trivial, z8 (y57 (by simp; omega) (by omega)), z8 ⟨ha, by omega⟩, z8 trivial, z8 (by simp), z8 (by simp), hW]
 | some o =>
  have ho := hold o h
  simp only [Option.isSome_some, Bool.not_true, Bool.false_eq_true, if_false, Option.getD_some, Bool.false_or]
  rw [z8 (fun _ => ⟨by omega, by omega⟩), z8 (fun _ => ho), hW]
  by_cases c : decide ((gt x.edges (i : Int)).minutes < (gt x.edges o).minutes) = true
  ·rw [if_pos c, if_pos c]
  ·rw [if_neg c, if_neg c]
theorem zc2 {i : Nat} (hi : i < x.edges.length) {P : Nat} {near : List (List Int)} {line : Ln} {a b : Int} (hl : near.length = P) (ha : 0 <= a) (ha' : a < (P : Int)) (hsz : (gt near a).length <= 10000) (hx : x.edges.length <= 2048) (hold : ∀ o, lget line a b = some o -> 0 <= o /\ o < (x.edges.length : Int)) :
  (if (!(lget line a b).isSome) = true then (ck ((0 : Int) <= a /\ a < (near.length : Int)) (ck ((0 : Int) <= a /\ a < (near.length : Int)) (ck ((a : Int) = a) (ck (fits ((gt near a).length + ([b]).length) 8) (ck ((0 : Int) <= a /\ a < (near.length : Int)) (ck ((a : Int) = a) (z26 φ K i ((lget line a b).getD default) ((lget line a b).isSome) x.edges (x.edges.length : Int) i a0 b0 x (keyP a b) x (z05 near a (gt near a ++ [b])) line))))))) else (z26 φ K i ((lget line a b).getD default) ((lget line a b).isSome) x.edges (x.edges.length : Int) i a0 b0 x (keyP a b) x near line)) =
  K x.edges (x.edges.length : Int) ((i : Int) + 1) a0 b0 x x (ent1 x.edges i a b (near, line)).1 (ent1 x.edges i a b (near, line)).2 := z6g φ K x a0 b0 hi hl ha ha' hsz hx hold
theorem z6h (hx : zj9 x) {i : Nat} (hi : i < x.edges.length) {near near1 : List (List Int)} {line : Ln} (old : Int) (sm : Bool) (hl : near1.length = x.places.length) (ho : sm = true -> 0 <= old /\ old < (x.edges.length : Int))
  (hsz : (gt near1 (gt x.edges (i : Int)).b).length <= 10000) (hline : ∀ a b o, lget line a b = some o -> 0 <= o /\ o < (x.edges.length : Int)) (line1 : Ln) (h1 : line1 = if (!sm || decide ((gt x.edges (i : Int)).minutes < (gt x.edges old).minutes)) = true then lset line (gt x.edges (i : Int)).a (gt x.edges (i : Int)).b i else line) :
  z27 φ K i old sm i x.edges (x.edges.length : Int) i a0 b0 x (keyP (gt x.edges (i : Int)).a (gt x.edges (i : Int)).b) (gt x.edges (i : Int)) x near1 line =
  K x.edges (x.edges.length : Int) ((i : Int) + 1) a0 b0 x x (ent1 x.edges i (gt x.edges (i : Int)).b (gt x.edges (i : Int)).a (near1, line1)).1 (ent1 x.edges i (gt x.edges (i : Int)).b (gt x.edges (i : Int)).a (near1, line1)).2 := by
 obtain ⟨e1, e2, e3, e4, e5, _⟩ := hx.ends (i := (i : Int)) (by omega) (by omega)
 unfold z27
 rw [z8 (fun _ => ⟨by omega, by omega⟩), z8 (fun h => ho (by simpa using h))]
 by_cases c : (!sm || decide ((gt x.edges (i : Int)).minutes < (gt x.edges old).minutes)) = true
 ·rw [if_pos c] at h1 ⊢
  subst h1
  refine z6g φ K x a0 b0 hi hl e3 e4 hsz hx.edges fun o h => ?_
  rw [zkn, if_neg (fun q => e5 q.1.symm)] at h
  exact hline _ _ o h
 ·rw [if_neg c] at h1 ⊢
  subst h1
  exact zc2 φ K x a0 b0 hi hl e3 e4 hsz hx.edges fun o h => hline _ _ o h
end zq
section zq
variable (φ : Nat) (x : zg) (a0 b0 : Int)
theorem ze7 (hx : zj9 x) (n : Nat) {i : Nat} (hi : i < x.edges.length) {s : List (List Int) × Ln} (h : HI x.edges x.places.length i s) :
  zj φ (n + 1) x.edges (x.edges.length : Int) i a0 b0 x x s.1 s.2 = zj φ n x.edges (x.edges.length : Int) ((i : Int) + 1) a0 b0 x x (entE x.edges i s).1 (entE x.edges i s).2 := by
 obtain ⟨e1, e2, e3, e4, e5, _⟩ := hx.ends (i := (i : Int)) (by omega) (by omega)
 have hE := hx.edges
 have hline : ∀ a b o, lget s.2 a b = some o -> 0 <= o /\ o < (x.edges.length : Int) := fun a b o ho => by
  obtain ⟨h1, h2, _⟩ := h.line _ _ _ ho
  exact ⟨h1, by omega⟩
 have hsa := h.size _ e1 e2
 have hsb := h.size _ e3 e4
 have hlen := h.len
 rw [zj, if_pos (by simp; omega), z8 ⟨by omega, by omega⟩]
 unfold entE
 generalize hs1 : ent1 x.edges i (gt x.edges (i : Int)).a (gt x.edges (i : Int)).b s = s1
 have hs1' := hs1
 unfold ent1 at hs1'
 cases hg : lget s.2 (gt x.edges (i : Int)).a (gt x.edges (i : Int)).b with
 | none =>
  have hg' : @mget (Nat -> Int) Int ⟨beqA 2⟩ s.2 (upd (upd (fun _ => (default : Int)) 0 (gt x.edges (i : Int)).a) 1 (gt x.edges (i : Int)).b) = none := hg
  rw [hg] at hs1'
  simp only [Option.isSome_none, Bool.not_false, if_true, Option.getD_none, Bool.true_or] at hs1'
  rw [hg']
  simp only [Option.isSome_none, Bool.not_false, if_true, Option.getD_none]
  rw [z8 ⟨e1, by omega⟩, z8 ⟨e1, by omega⟩, z8 trivial, z8 (y57 (by simp; omega) (by omega)), z8 ⟨e1, by omega⟩, z8 trivial, <- hs1']
  refine z6h φ (zj φ n) x a0 b0 hx hi (near := s.1) _ _ (by rw [z1f]; exact hlen) (fun h => by cases h) ?_ hline _ (by simp)
  rw [z0j _ _ _ _ e1 (by omega) e3, if_neg (fun q => e5 q.symm)]
  omega
 | some o =>
  have hg' : @mget (Nat -> Int) Int ⟨beqA 2⟩ s.2 (upd (upd (fun _ => (default : Int)) 0 (gt x.edges (i : Int)).a) 1 (gt x.edges (i : Int)).b) = some o := hg
  rw [hg] at hs1'
  simp only [Option.isSome_some, Bool.not_true, Bool.false_eq_true, if_false, Option.getD_some, Bool.false_or] at hs1'
  rw [hg']
  simp only [Option.isSome_some, Bool.not_true, Bool.false_eq_true, if_false, Option.getD_some]
  rw [<- hs1']
  exact z6h φ (zj φ n) x a0 b0 hx hi (near := s.1) _ _ hlen (fun _ => hline _ _ _ hg) (by omega) hline _ (by simp)
theorem ze3 (hx : zj9 x) (hφ : 5000 < φ) (line : Ln) : z0l φ φ ((zff x).length : Int) 0 a0 b0 (zff x) x line = (ck (z52 (x.places.length : Int) 8) (ck (z52 (((List.replicate ((x.places.length : Int) : Int).toNat (default : Int)).length : Int)) 1) (zr φ φ a0 (((List.replicate ((x.places.length : Int) : Int).toNat (default : Int)).length : Int)) 0 b0 x (List.replicate ((x.places.length : Int) : Int).toNat (default : Int)) ((List.replicate (((List.replicate ((x.places.length : Int) : Int).toNat (default : Int)).length : Int) : Int).toNat (default : Bool))) (z3c x) line))) := by
 have hl0 : (zff x).length = x.places.length := (ze1 hx x.edges.length (Nat.le_refl _)).len
 have hP := hx.places
 have hE := hx.edges
 obtain ⟨n0, hn0⟩ : ∃ n0, n0 = x.places.length := ⟨_, rfl⟩
 rw [<- hn0] at hl0 hP
 rw [hl0]
 have hfin : ∀ o : List (List Int), o.length = n0 -> (∀ w : Nat, w < n0 -> gt o (w : Int) = zd8 (fun a b => decide (a < b)) (gt (zff x) (w : Int))) -> o = z3c x := by
  intro o ho hw
  unfold z3c
  refine List.ext_getElem (by simp [ho, hl0]) fun i h1 h2 => ?_
  have := hw i (by omega)
  rw [z1m h1, z1m (by omega)] at this
  simpa using this
 refine z0k (fun n i o => z0l φ n (n0 : Int) i a0 b0 o x line) n0 (fun i o => o.length = n0 /\ ∀ w : Nat, w < n0 -> gt o (w : Int) = if w < i then zd8 (fun a b => decide (a < b)) (gt (zff x) (w : Int)) else gt (zff x) (w : Int)) (fun o => o = (ck (z52 (x.places.length : Int) 8) (ck (z52 (((List.replicate ((x.places.length : Int) : Int).toNat (default : Int)).length : Int)) 1) (zr φ φ a0 (((List.replicate ((x.places.length : Int) : Int).toNat (default : Int)).length : Int)) 0 b0 x (List.replicate ((x.places.length : Int) : Int).toNat (default : Int)) ((List.replicate (((List.replicate ((x.places.length : Int) : Int).toNat (default : Int)).length : Int) : Int).toNat (default : Bool))) (z3c x) line)))) ?_ ?_ φ (zff x) ⟨hl0, fun w hw => by rw [if_neg (by omega)]⟩ (by omega)
 ·intro n i o hi ⟨ho1, ho2⟩ hs
  have hsz := (ze1 hx x.edges.length (Nat.le_refl _)).size (i : Int) (by omega) (by omega)
  have hsz : (gt (zff x) (i : Int)).length <= 2 * x.edges.length := hsz
  have hso : zmm (gt (zff x) (i : Int)) = some (zd8 (fun a b => decide (a < b)) (gt (zff x) (i : Int))) := by
   unfold zmm zik; rw [if_pos (by omega)]
  rw [z0l, if_pos (by simp; omega), z8 ⟨by omega, by omega⟩, z8 ⟨by omega, by omega⟩, z8 rfl, ho2 i hi, if_neg (by omega), hso, Option.bind_some, W_id (by omega) (by omega)]
  refine hs _ ⟨by rw [z1f]; exact ho1, fun w hw => ?_⟩
  rw [z0j _ _ _ _ (by omega) (by omega) (by omega)]
  by_cases e : w = i
  ·subst e; rw [if_pos rfl, if_pos (by omega)]
  ·rw [if_neg (by omega), ho2 w hw]
   by_cases h2 : w < i
   ·rw [if_pos h2, if_pos (by omega)]
   ·rw [if_neg h2, if_neg (by omega)]
 ·intro n o ⟨ho1, ho2⟩
  have := hfin o ho1 fun w hw => by rw [ho2 w hw, if_pos hw]
  subst this
  rw [z0l, if_neg (by simp)]
theorem z7p (hx : zj9 x) (hφ : 5000 < φ) : zj φ φ x.edges (x.edges.length : Int) 0 a0 b0 x x (List.replicate ((x.places.length : Int)).toNat (default : List Int)) [] = (ck (z52 (x.places.length : Int) 8) (ck (z52 (((List.replicate ((x.places.length : Int) : Int).toNat (default : Int)).length : Int)) 1) (zr φ φ a0 (((List.replicate ((x.places.length : Int) : Int).toNat (default : Int)).length : Int)) 0 b0 x (List.replicate ((x.places.length : Int) : Int).toNat (default : Int)) ((List.replicate (((List.replicate ((x.places.length : Int) : Int).toNat (default : Int)).length : Int) : Int).toNat (default : Bool))) (z3c x) (z9j x)))) := by
 have hE := hx.edges
 have h0 : (List.replicate ((x.places.length : Int)).toNat (default : List Int), ([] : Ln)) = zhk x.edges x.places.length 0 := by simp [zhk]
 refine z0k (fun n i (s : List (List Int) × Ln) => zj φ n x.edges (x.edges.length : Int) i a0 b0 x x s.1 s.2) x.edges.length (fun i s => s = zhk x.edges x.places.length i) (fun o => o = (ck (z52 (x.places.length : Int) 8) (ck (z52 (((List.replicate ((x.places.length : Int) : Int).toNat (default : Int)).length : Int)) 1) (zr φ φ a0 (((List.replicate ((x.places.length : Int) : Int).toNat (default : Int)).length : Int)) 0 b0 x (List.replicate ((x.places.length : Int) : Int).toNat (default : Int)) ((List.replicate (((List.replicate ((x.places.length : Int) : Int).toNat (default : Int)).length : Int) : Int).toNat (default : Bool))) (z3c x) (z9j x))))) ?_ ?_ φ (List.replicate ((x.places.length : Int)).toNat (default : List Int), []) h0 (by omega)
 ·intro n i s hi hs hk
  subst hs
  rw [ze7 φ x a0 b0 hx n hi (ze1 hx i (by omega))]
  exact hk _ rfl
 ·intro n s hs
  subst hs
  rw [zj, if_neg (by simp)]
  exact ze3 φ x a0 b0 hx hφ (z9j x)
end zq
section network_Route
variable (φ : Nat) (K : List Edge -> Int -> Int -> Int -> Int -> zg -> zg -> List (List Int) -> Ln -> Option ((List Int) × Int × Unit)) (x : zg) (a0 b0 : Int)
end network_Route
section network_Route
variable (φ : Nat) (x : zg) (a0 b0 : Int)
end network_Route
section network_Shares
end network_Shares
section network_Shares
end network_Shares
end Px
end
section
namespace Px
open Go
set_option linter.unusedVariables false
set_option linter.unusedSimpArgs false
section zq
variable (φ : Nat) (x : zg) (a0 b0 : Int)
theorem z7j (hx : zj9 x) (hφ : 800000 < φ) (hs : 0 <= a0) (hs' : a0 < (x.places.length : Int)) : ∃ t, DF x.places.length (z3c x) (wtN x) a0 t /\
  zr φ φ a0 (((List.replicate ((x.places.length : Int) : Int).toNat (default : Int)).length : Int)) 0 b0 x (List.replicate ((x.places.length : Int) : Int).toNat (default : Int)) ((List.replicate (((List.replicate ((x.places.length : Int) : Int).toNat (default : Int)).length : Int) : Int).toNat (default : Bool)))  (z3c x) (z9j x) = (ck ((0 : Int) <= b0 /\ b0 < (t.length : Int)) (if (decide (((gt t b0) : Int) < 0)) = true then (some (0, 80, ())) else (some ((gt t b0), 0, ())))) := by
 have hG := grN hx
 have hP := hx.places
 have hrep : (List.replicate ((x.places.length : Int) : Int).toNat (default : Int)).length = x.places.length := by simp
 rw [hrep]
 have e1 : ((x.places.length : Int)).toNat = x.places.length := by simp
 rw [e1]
 -- the search
 have search : ∀ t : List Int, t.length = x.places.length -> (∀ i : Int, 0 <= i -> i < (x.places.length : Int) -> gt t i = if i = a0 then 0 else -1) ->
   ∃ t', DF x.places.length (z3c x) (wtN x) a0 t' /\ zl φ φ b0 x t (List.replicate x.places.length (default : Bool))  (z3c x) (z9j x) = (ck ((0 : Int) <= b0 /\ b0 < (t'.length : Int)) (if (decide (((gt t' b0) : Int) < 0)) = true then (some (0, 80, ())) else (some ((gt t' b0), 0, ())))) := by
  intro t ht hall
  refine y2y hG hs hs' (fun n t d => zl φ n b0 x t d  (z3c x) (z9j x)) (fun t' => (ck ((0 : Int) <= b0 /\ b0 < (t'.length : Int)) (if (decide (((gt t' b0) : Int) < 0)) = true then (some (0, 80, ())) else (some ((gt t' b0), 0, ()))))) φ ?_ φ 0 t _ (y0w hs hs' t ht hall) (by omega)
  intro n k t d hk hD
  obtain ⟨p, hp1, hp2⟩ := yaj hP (fun m p i => z0c φ (zl φ n) m p (x.places.length : Int) i b0 x t d  (z3c x) (z9j x))
   (fun p => (if (decide ((p : Int) < 0)) = true then (ck ((0 : Int) <= b0 /\ b0 < (t.length : Int)) (if (decide (((gt t b0) : Int) < 0)) = true then (some (0, 80, ())) else (some ((gt t b0), 0, ())))) else (ck ((0 : Int) <= p /\ p < (d.length : Int)) (ck ((0 : Int) <= p /\ p < ((z3c x).length : Int)) (ck ((0 : Int) <= p /\ p < ((z3c x).length : Int)) (ck ((p : Int) = p) (z0a φ (zl φ n) φ p ((gt (z3c x) p).length : Int) 0 b0 x t (z05 d p true) (gt (z3c x) p)  (z3c x) p (z9j x))))))))
   t d hD.lt hD.ld (fun m p i => by rw [z0c]) φ (by omega)
  have hM : zl φ (n + 1) b0 x t d  (z3c x) (z9j x) = z0c φ (zl φ n) φ (-1) (x.places.length : Int) 0 b0 x t d  (z3c x) (z9j x) := by
   rw [zl, hD.lt]
  simp only [] at hp1
  simp only [hM]
  rw [hp1]
  rcases hp2 with ⟨rfl, hall⟩ | ⟨p0, p1, p2, p3, p4⟩
  ·left
   refine ⟨t, ybf hG hD hall, ?_⟩
   rw [if_pos (by decide)]
  ·right
   rw [if_neg (by simp; omega), z8 ⟨p0, by rw [hD.ld]; exact p1⟩, z8 ⟨p0, by rw [hG.len]; exact p1⟩, z8 ⟨p0, by rw [hG.len]; exact p1⟩, z8 trivial]
   obtain ⟨t', h1, h2⟩ := yag hG p0 p1 hk hD p2 (fun m i t => z0a φ (zl φ n) m p ((gt (z3c x) p).length : Int) i b0 x t (z05 d p true) (gt (z3c x) p)  (z3c x) p (z9j x))
    (fun t => zl φ n b0 x t (z05 d p true)  (z05 (z3c x) p (gt (z3c x) p)) (z9j x)) (gt (z3c x) p) rfl x.edges.length (fun q => (lget (z9j x) p q).getD default) (fun i => (gt x.edges i).minutes)
    (fun q hq => by
     obtain ⟨i, hi, i0, i1, _⟩ := znv hx p0 p1 hq
     rw [hi]
     exact ⟨i0, i1, by unfold wtN; rw [hi]⟩) (fun m i t => by rw [z0a]) φ (by have := hG.size p p0 p1; omega)
   refine ⟨t', p, p0, p1, y0o hG p0 p1 hD hs hs' p2 p3 p4 h2, ?_⟩
   rw [zv1 _ p0 (by rw [hG.len]; exact p1)] at h1
   exact h1
 -- all times are unknown at first
 refine z0k (fun n i t => zr φ n a0 (x.places.length : Int) i b0 x t (List.replicate x.places.length (default : Bool))  (z3c x) (z9j x)) x.places.length (fun i t => t.length = x.places.length /\ ∀ j : Int, 0 <= j -> j < (i : Int) -> gt t j = -1) (fun o => ∃ t, DF x.places.length (z3c x) (wtN x) a0 t /\ o = (ck ((0 : Int) <= b0 /\ b0 < (t.length : Int)) (if (decide (((gt t b0) : Int) < 0)) = true then (some (0, 80, ())) else (some ((gt t b0), 0, ()))))) ?_ ?_ φ (List.replicate x.places.length (default : Int)) ⟨by simp, fun j h0 h1 => by omega⟩ (by omega)
 ·intro n i t hi ⟨h1, h2⟩ hs
  rw [zr, if_pos (by simp; omega), z8 ⟨by omega, by omega⟩, W_id (by omega) (by omega)]
  refine hs _ ⟨by rw [z1f]; exact h1, fun j j0 j1 => ?_⟩
  rw [z0j _ _ _ _ (by omega) (by omega) j0]
  by_cases e : j = (i : Int)
  ·rw [if_pos e]
  ·rw [if_neg e]; exact h2 j j0 (by omega)
 ·intro n t ⟨h1, h2⟩
  rw [zr, if_neg (by simp), z8 ⟨hs, by omega⟩]
  obtain ⟨t', h3, h4⟩ := search (z05 t a0 0) (by rw [z1f]; exact h1) (fun i i0 i1 => by
   rw [z0j _ _ _ _ hs (by omega) i0]
   split
   ·rfl
   ·exact h2 i i0 i1)
  exact ⟨t', h3, h4⟩
end zq
section network_Route
variable (φ : Nat) (x : zg) (a0 b0 : Int)
end network_Route
theorem zfa {n b : Nat} (h : n <= 100000000) (hb : b <= 1000) : fits n b := by
 unfold fits
 have : n * b <= 100000000 * 1000 := Nat.mul_le_mul h hb
 omega
theorem zll (φ : Nat) (hφ : 800000 < φ) (x : zg) (a b : Int) : ∃ t e, zq φ x a b = some (t, e, ()) /\ 0 <= t /\ t <= 51200000 := by
 unfold zq
 rw [z84 _ (by omega), Option.bind_some]
 by_cases hn : z9a x = 0
 case neg =>
  rw [if_pos (by simpa using hn), if_pos (by simpa using hn)]
  exact ⟨0, _, rfl, by omega, by omega⟩
 have hx := y6v hn
 have hP := hx.places
 rw [if_neg (by simp [hn])]
 obtain ⟨m, rfl⟩ : ∃ m, φ = m + 3 := ⟨φ - 3, by omega⟩
 have g0 : gt [a, b] 0 = a := rfl
 have g1 : gt [a, b] 1 = b := rfl
 have L : ((([a, b] : List Int).length : Nat) : Int) = 2 := rfl
 have step : ∀ n i, z02 (m + 3) (n + 1) 2 i a b x [a, b] x [] = (if (decide ((i : Int) < 2)) = true then (ck ((0 : Int) <= i /\ i < (2 : Int)) (if ((decide (((gt [a, b] i) : Int) < 0)) || (decide (((x.places.length : Int) : Int) <= (gt [a, b] i)))) = true then (some (0, 1, ())) else (z02 (m + 3) n 2 (W (i + 1)) a b x [a, b] x []))) else (ck (z52 (x.places.length : Int) 24) (zj (m + 3) (m + 3) x.edges (x.edges.length : Int) 0 a b x x (List.replicate ((x.places.length : Int) : Int).toNat (default : (List Int))) ([] : List ((Nat -> Int) × Int))))) := fun n i => by rw [z02]; rfl
 rw [L, show m + 3 = (m + 2) + 1 from rfl, step, if_pos (by decide), z8 (by decide), g0]
 by_cases ha : 0 <= a /\ a < (x.places.length : Int)
 case neg =>
  rw [if_pos (by simp; omega)]
  exact ⟨0, 1, rfl, by omega, by omega⟩
 rw [if_neg (by simp; omega), show W (0 + 1) = 1 by rfl, show m + 2 = (m + 1) + 1 from rfl, step, if_pos (by decide), z8 (by decide), g1]
 by_cases hb : 0 <= b /\ b < (x.places.length : Int)
 case neg =>
  rw [if_pos (by simp; omega)]
  exact ⟨0, 1, rfl, by omega, by omega⟩
 rw [if_neg (by simp; omega), show W (1 + 1) = 2 by rfl, step, if_neg (by decide), z8 (mk_t _ _ (by omega) (by omega) (by omega)), z7p (m + 3) x a b hx (by omega), z8 (mk_t _ _ (by omega) (by omega) (by omega)), z8 (mk_t _ _ (by omega) (by simp; omega) (by omega))]
 obtain ⟨t, h1, h2⟩ := z7j (m + 3) x a b hx (by omega) ha.1 ha.2
 rw [h2, z8 ⟨hb.1, by rw [h1.lt]; exact hb.2⟩]
 rcases h1.bd b hb.1 hb.2 with h3 | ⟨h3, h4⟩
 ·rw [if_pos (by simp; omega)]
  exact ⟨0, 80, rfl, by omega, by omega⟩
 ·rw [if_neg (by simp; omega)]
  exact ⟨_, 0, rfl, h3, h4⟩
end Px
end
section
namespace Px
set_option linter.unusedVariables false
namespace BF
section
variable {β : Type} (si sj : β -> Nat) (sw : β -> Int)
abbrev X := Nat -> Option Int
def ltO (a : Int) : Option Int -> Bool
 | none => true
 | some b => decide (a < b)
def imp (x : X) (b : β) : Bool := match x (si b) with
 | none => false
 | some a => ltO (a + sw b) (x (sj b))
def rlx (x : X) (b : β) : X := match x (si b) with
 | none => x
 | some a => if ltO (a + sw b) (x (sj b)) = true then fun v => if v = sj b then some (a + sw b) else x v else x
def rnd (L : List β) (x : X) : X := L.foldl (rlx si sj sw) x
def rnds (L : List β) (x : X) : Nat -> X
 | 0 => x
 | n + 1 => rnd si sj sw L (rnds L x n)
inductive Wk (x0 : X) (L : List β) : Nat -> Nat -> Int -> Prop where
 | nil {v : Nat} {c : Int} : x0 v = some c -> Wk x0 L 0 v c
 | step {m : Nat} {c : Int} {b : β} : Wk x0 L m (si b) c -> b ∈ L -> Wk x0 L (m + 1) (sj b) (c + sw b)
def le (o : Option Int) (c : Int) : Prop := ∃ a, o = some a /\ a <= c
variable {si sj sw}
theorem rlx_not {x : X} {b : β} (h : imp si sj sw x b = false) : rlx si sj sw x b = x := by
 unfold imp at h; unfold rlx
 cases hx : x (si b) with
 | none => rfl
 | some a => rw [hx] at h; simp only at h ⊢; rw [if_neg (by rw [h]; simp)]
theorem rlx_imp {x : X} {b : β} (h : imp si sj sw x b = true) : ∃ a, x (si b) = some a /\ ltO (a + sw b) (x (sj b)) = true /\ rlx si sj sw x b = fun v => if v = sj b then some (a + sw b) else x v := by
 unfold imp at h; unfold rlx
 cases hx : x (si b) with
 | none => rw [hx] at h; cases h
 | some a => rw [hx] at h; simp only at h ⊢; exact ⟨a, rfl, h, by rw [if_pos h]⟩
theorem rlx_mono {x : X} {b : β} {v : Nat} {c : Int} (h : le (x v) c) : le (rlx si sj sw x b v) c := by
 cases hi : imp si sj sw x b with
 | false => rw [rlx_not hi]; exact h
 | true =>
  obtain ⟨a, ha, hl, e⟩ := rlx_imp hi
  rw [e]
  simp only
  split
  ·rename_i hv; subst hv
   obtain ⟨d, hd, hc⟩ := h
   rw [hd] at hl
   simp only [ltO, decide_eq_true_eq] at hl
   exact ⟨_, rfl, by omega⟩
  ·exact h
theorem rlx_new {x : X} {b : β} {c : Int} (h : le (x (si b)) c) : le (rlx si sj sw x b (sj b)) (c + sw b) := by
 obtain ⟨a, ha, hc⟩ := h
 cases hi : imp si sj sw x b with
 | false =>
  rw [rlx_not hi]
  unfold imp at hi
  rw [ha] at hi
  simp only at hi
  cases hx : x (sj b) with
  | none => rw [hx] at hi; cases hi
  | some d => rw [hx] at hi; simp only [ltO, decide_eq_false_iff_not] at hi; exact ⟨d, rfl, by omega⟩
 | true =>
  obtain ⟨a', ha', hl, e⟩ := rlx_imp hi
  rw [ha] at ha'; cases ha'
  rw [e]
  exact ⟨_, if_pos rfl, by omega⟩
theorem rnd_mono {v : Nat} {c : Int} : ∀ (L : List β) (x : X), le (x v) c -> le (rnd si sj sw L x v) c
 | [], x, h => h
 | b :: L, x, h => rnd_mono L _ (rlx_mono h)
theorem rnd_new {c : Int} : ∀ (L : List β) (x : X) (b : β), b ∈ L -> le (x (si b)) c -> le (rnd si sj sw L x (sj b)) (c + sw b)
 | b' :: L, x, b, hb, h => by
  rcases List.mem_cons.1 hb with rfl | hb
  ·exact rnd_mono L _ (rlx_new h)
  ·exact rnd_new L _ b hb (rlx_mono h)
theorem rnds_mono (L : List β) {x : X} {v : Nat} {c : Int} (h : le (x v) c) : ∀ n, le (rnds si sj sw L x n v) c
 | 0 => h
 | n + 1 => rnd_mono L _ (rnds_mono L h n)
theorem rnds_low {L : List β} {x0 : X} : ∀ (k m v : Nat) (c : Int), Wk si sj sw x0 L m v c -> m <= k -> le (rnds si sj sw L x0 k v) c
 | k, 0, v, c, h, hm => by cases h with | nil h => exact rnds_mono L ⟨c, h, Int.le_refl _⟩ k
 | k + 1, m + 1, v, c, h, hm => by
  cases h with
  | step h hb => exact rnd_new L _ _ hb (rnds_low k m _ _ h (by omega))
def Inv (si sj : β -> Nat) (sw : β -> Int) (x0 : X) (L : List β) (x : X) : Prop := ∀ v a, x v = some a -> ∃ m, Wk si sj sw x0 L m v a
theorem Inv.rlx {x0 x : X} {L : List β} {b : β} (h : Inv si sj sw x0 L x) (hb : b ∈ L) : Inv si sj sw x0 L (rlx si sj sw x b) := by
 cases hi : imp si sj sw x b with
 | false => rw [rlx_not hi]; exact h
 | true =>
  obtain ⟨a, ha, hl, e⟩ := rlx_imp hi
  intro v d hv
  rw [e] at hv
  simp only at hv
  split at hv
  ·rename_i hj; subst hj
   cases hv
   obtain ⟨m, hm⟩ := h _ _ ha
   exact ⟨_, .step hm hb⟩
  ·exact h v d hv
theorem Inv.rnd {x0 : X} {L : List β} : ∀ (M : List β) (x : X), (∀ b ∈ M, b ∈ L) -> Inv si sj sw x0 L x -> Inv si sj sw x0 L (rnd si sj sw M x)
 | [], x, _, h => h
 | b :: M, x, hM, h => Inv.rnd M _ (fun b hb => hM b (List.mem_cons_of_mem _ hb)) (h.rlx (hM b (List.mem_cons_self ..)))
theorem Inv.rnds {x0 : X} {L : List β} : ∀ n, Inv si sj sw x0 L (rnds si sj sw L x0 n)
 | 0 => fun v a h => ⟨0, .nil h⟩
 | n + 1 => Inv.rnd L _ (fun _ h => h) (Inv.rnds n)
theorem least {Q : Nat -> Prop} : ∀ n, Q n -> ∃ m, Q m /\ ∀ k, Q k -> m <= k := by
 intro n
 induction n using Nat.strongRecOn with
 | _ n ih =>
  intro h
  by_cases hk : ∃ k, k < n /\ Q k
  ·obtain ⟨k, hk, hq⟩ := hk; exact ih k hk hq
  ·exact ⟨n, h, fun k hq => Nat.le_of_not_lt fun hl => hk ⟨k, hl, hq⟩⟩
structure Feas (si sj : β -> Nat) (sw : β -> Int) (x0 : X) (L : List β) (n : Nat) : Prop where
 ex : ∃ (p : Nat -> Int) (C : Int), (∀ b ∈ L, p (sj b) <= p (si b) + sw b) /\ ∀ v c, x0 v = some c -> p v - c <= C
 j : ∀ b ∈ L, sj b < n
 z : ∀ v c, x0 v = some c -> v < n
theorem Wk.lt {x0 : X} {L : List β} {n : Nat} (F : Feas si sj sw x0 L n) {m v : Nat} {c : Int} (h : Wk si sj sw x0 L m v c) : v < n := by
 cases h with
 | nil h => exact F.z _ _ h
 | step h hb => exact F.j _ hb
theorem Wk.low {x0 : X} {L : List β} {p : Nat -> Int} {C : Int} (h1 : ∀ b ∈ L, p (sj b) <= p (si b) + sw b) (h2 : ∀ v c, x0 v = some c -> p v - c <= C) : ∀ {m v : Nat} {c : Int}, Wk si sj sw x0 L m v c -> p v - c <= C
 | 0, _, _, .nil h => h2 _ _ h
 | _ + 1, _, _, .step h hb => by have := Wk.low h1 h2 h; have := h1 _ hb; omega
structure Mn (si sj : β -> Nat) (sw : β -> Int) (x0 : X) (L : List β) (v m : Nat) (c : Int) : Prop where
 w : Wk si sj sw x0 L m v c
 lo : ∀ m' c', Wk si sj sw x0 L m' v c' -> c <= c'
 sh : ∀ m', Wk si sj sw x0 L m' v c -> m <= m'
theorem Mn.ex {x0 : X} {L : List β} {n : Nat} (F : Feas si sj sw x0 L n) {m v : Nat} {c : Int} (h : Wk si sj sw x0 L m v c) : ∃ m c, Mn si sj sw x0 L v m c := by
 obtain ⟨p, C, h1, h2⟩ := F.ex
 obtain ⟨k, ⟨m1, c1, hk, hw⟩, hl⟩ := least (Q := fun k => ∃ m c, (C - (p v - c)).toNat = k /\ Wk si sj sw x0 L m v c) _ ⟨m, c, rfl, h⟩
 obtain ⟨m2, hm, hm2⟩ := least (Q := fun m => Wk si sj sw x0 L m v c1) m1 hw
 refine ⟨m2, c1, hm, fun m' c' h' => ?_, hm2⟩
 have := hl _ ⟨m', c', rfl, h'⟩
 have := Wk.low h1 h2 hw
 have := Wk.low h1 h2 h'
 omega
theorem Mn.pred {x0 : X} {L : List β} {v m : Nat} {c : Int} (h : Mn si sj sw x0 L v (m + 1) c) : ∃ u d, Mn si sj sw x0 L u m d := by
 obtain ⟨w, hc, hm⟩ := h
 cases w with
 | @step _ d b hw hb =>
  refine ⟨si b, d, hw, fun m' c' h' => ?_, fun m' h' => ?_⟩
  ·have := hc _ _ (.step h' hb); omega
  ·have := hm _ (.step h' hb); omega
theorem Mn.all {x0 : X} {L : List β} : ∀ {m v : Nat} {c : Int}, Mn si sj sw x0 L v m c -> ∀ k, k <= m -> ∃ u d, Mn si sj sw x0 L u k d
 | 0, v, c, h, k, hk => by
  have : k = 0 := by omega
  subst this
  exact ⟨v, c, h⟩
 | m + 1, v, c, h, k, hk => by
  by_cases e : k = m + 1
  ·subst e; exact ⟨v, c, h⟩
  ·obtain ⟨u, d, h'⟩ := h.pred; exact Mn.all h' k (by omega)
theorem Mn.uniq {x0 : X} {L : List β} {v m m' : Nat} {c c' : Int} (h : Mn si sj sw x0 L v m c) (h' : Mn si sj sw x0 L v m' c') : c = c' /\ m = m' := by
 have e : c = c' := Int.le_antisymm (h.lo _ _ h'.w) (h'.lo _ _ h.w)
 subst e
 exact ⟨rfl, Nat.le_antisymm (h.sh _ h'.w) (h'.sh _ h.w)⟩
theorem holes : ∀ (n M : Nat) (R : Nat -> Nat -> Prop), (∀ k k' u, R k u -> R k' u -> k = k') -> (∀ k, k < M -> ∃ u, u < n /\ R k u) -> M <= n
 | 0, M, R, _, h => by
  cases M with
  | zero => exact Nat.le_refl _
  | succ M => obtain ⟨u, hu, _⟩ := h 0 (by omega); omega
 | n + 1, M, R, hR, h => by
  by_cases hk : ∃ k, k < M /\ R k n
  ·obtain ⟨k0, hk0, hr⟩ := hk
   have := holes n (M - 1) (fun k u => R (if k < k0 then k else k + 1) u) (fun k k' u h1 h2 => by
    have := hR _ _ _ h1 h2
    split at this <;> split at this <;> omega) fun k hk => by
    obtain ⟨u, hu, hru⟩ := h (if k < k0 then k else k + 1) (by split <;> omega)
    refine ⟨u, ?_, hru⟩
    by_cases e : u = n
    ·subst e
     have := hR _ _ _ hru hr
     split at this <;> omega
    ·omega
   omega
  ·have := holes n M R hR fun k hk' => by
    obtain ⟨u, hu, hru⟩ := h k hk'
    exact ⟨u, by
     by_cases e : u = n
     ·subst e; exact (hk ⟨k, hk', hru⟩).elim
     ·omega, hru⟩
   omega
theorem Mn.short {x0 : X} {L : List β} {n : Nat} (F : Feas si sj sw x0 L n) {m v : Nat} {c : Int} (h : Mn si sj sw x0 L v m c) : m < n :=
 holes n (m + 1) (fun k u => ∃ d, Mn si sj sw x0 L u k d) (fun k k' u ⟨_, a⟩ ⟨_, b⟩ => (a.uniq b).2) fun k hk => by
  obtain ⟨u, d, hu⟩ := h.all k (by omega)
  exact ⟨u, hu.w.lt F, d, hu⟩
theorem done {x0 : X} {L : List β} {n : Nat} (F : Feas si sj sw x0 L n) {k : Nat} (hk : n <= k + 1) : ∀ b ∈ L, imp si sj sw (rnds si sj sw L x0 k) b = false := by
 intro b hb
 unfold imp
 cases hx : rnds si sj sw L x0 k (si b) with
 | none => rfl
 | some a =>
  obtain ⟨m, hm⟩ := Inv.rnds k _ _ hx
  obtain ⟨m', d, hd⟩ := Mn.ex F (.step hm hb)
  obtain ⟨e, he, hed⟩ := rnds_low k m' _ _ hd.w (by have := hd.short F; omega)
  have := hd.lo _ _ (.step hm hb)
  rw [he]
  simp only [ltO, decide_eq_false_iff_not]
  omega
def Fix (si sj : β -> Nat) (sw : β -> Int) (L : List β) (x : X) : Prop := ∀ b ∈ L, imp si sj sw x b = false
theorem Fix.le {L : List β} {x : X} (h : Fix si sj sw L x) {b : β} (hb : b ∈ L) {a : Int} (ha : x (si b) = some a) : ∃ d, x (sj b) = some d /\ d <= a + sw b := by
 have := h b hb
 unfold imp at this
 rw [ha] at this
 simp only at this
 cases hx : x (sj b) with
 | none => rw [hx] at this; cases this
 | some d => rw [hx] at this; simp only [ltO, decide_eq_false_iff_not] at this; exact ⟨d, rfl, by omega⟩
end
end BF
end Px
end
section
namespace Px
open Go
set_option linter.unusedVariables false
set_option linter.unusedSimpArgs false
def y2s (e : Edge) (a b : Int) : Prop := (e.a = a /\ e.b = b) \/ (e.a = b /\ e.b = a)
instance (e : Edge) (a b : Int) : Decidable (y2s e a b) := inferInstanceAs (Decidable (_ \/ _))
def ryl (t : List Int) (a b m : Int) : List Int := if 0 <= gt t a /\ (gt t b < 0 \/ gt t a + m < gt t b) then z05 t b (gt t a + m) else t
def rst (t : List Int) (e : Edge) : List Int := ryl (ryl t e.a e.b e.minutes) e.b e.a e.minutes
end Px
end
section
namespace Px
open Go
set_option linter.unusedVariables false
set_option linter.unusedSimpArgs false
def chF (t : List Int) (e : Edge) : Bool := (gt (rst t e) e.a != gt t e.a) || (gt (rst t e) e.b != gt t e.b)
def rnT (es : List Edge) (t : List Int) : Nat -> List Int
 | 0 => t
 | m + 1 => rst (rnT es t m) (gt es (m : Int))
def fl (es : List Edge) (t : List Int) : Nat -> Bool
 | 0 => false
 | m + 1 => fl es t m || chF (rnT es t m) (gt es (m : Int))
end Px
end
section
namespace Px
open Go
set_option linter.unusedVariables false
set_option linter.unusedSimpArgs false
theorem zv9 (φ : Nat) (hφ : 800000 < φ) {x : zg} (hn : z9a x = 0) {a b : Int} (ha : 0 <= a /\ a < (x.places.length : Int)) (hb : 0 <= b /\ b < (x.places.length : Int)) :
  ∃ t, DF x.places.length (z3c x) (wtN x) a t /\ zq φ x a b = some (if gt t b < 0 then (0, 80, ()) else (gt t b, 0, ())) := by
 unfold zq
 rw [z84 _ (by omega), Option.bind_some]
 have hx := y6v hn
 have hP := hx.places
 rw [if_neg (by simp [hn])]
 obtain ⟨m, rfl⟩ : ∃ m, φ = m + 3 := ⟨φ - 3, by omega⟩
 have g0 : gt [a, b] 0 = a := rfl
 have g1 : gt [a, b] 1 = b := rfl
 have L : ((([a, b] : List Int).length : Nat) : Int) = 2 := rfl
 rw [L, show m + 3 = (m + 2) + 1 from rfl, z02, if_pos (by decide), z8 (by rw [L]; decide), g0]
 rw [if_neg (by simp; omega), show W (0 + 1) = 1 by rfl, show m + 2 = (m + 1) + 1 from rfl, z02, if_pos (by decide), z8 (by rw [L]; decide), g1]
 rw [if_neg (by simp; omega), show W (1 + 1) = 2 by rfl, z02, if_neg (by decide), z8 (mk_t _ _ (by omega) (by omega) (by omega))]
 have hbuild := z7p (m + 3) x a b hx (by omega)
 obtain ⟨t, h1, h2⟩ := z7j (m + 3) x a b hx (by omega) ha.1 ha.2
 refine ⟨t, h1, ?_⟩
 refine hbuild.trans ?_
 rw [z8 (mk_t _ _ (by omega) (by omega) (by omega)), z8 (mk_t _ _ (by omega) (by simp; omega) (by omega)), h2, z8 ⟨hb.1, by rw [h1.lt]; exact hb.2⟩]
 by_cases h3 : gt t b < 0
 ·rw [if_pos (by simpa using h3), if_pos h3]
 ·rw [if_neg (by simpa using h3), if_neg h3]
  try rfl
end Px
end
section
namespace Px
open Go
set_option linter.unusedVariables false
set_option linter.unusedSimpArgs false
theorem y4a {P : Nat} {near : List (List Int)} {wt : Int -> Int -> Int} (hG : Gr P near wt) {s b : Int} {t u : List Int} (hT : DF P near wt s t) (hU : DF P near wt b u) (hb : 0 <= gt t b) :
  ∀ (n : Nat) (c : Int), 0 <= c -> c < (P : Int) -> 0 <= gt u c -> (gt u c).toNat = n -> 0 <= gt t c /\ gt t c <= gt t b + gt u c := by
 intro n
 induction n using Nat.strongRecOn with
 | _ n ih =>
  intro c c0 c1 hc hn
  by_cases e : c = b
  ·subst e; rw [hU.src]; omega
  ·obtain ⟨q, q0, q1, q2, q3, q4⟩ := hU.pre c c0 c1 e hc
   obtain ⟨s1, s2⟩ := hG.sym c q c0 c1 q2
   have w := (hG.wt q c q0 q1 s1).1
   obtain ⟨i1, i2⟩ := ih (gt u q).toNat (by omega) q q0 q1 q3 rfl
   obtain ⟨n1, n2⟩ := hT.nbr q c q0 q1 i1 s1
   omega
theorem y78 {P : Nat} {near : List (List Int)} {wt : Int -> Int -> Int} (hG : Gr P near wt) {s : Int} {t u : List Int} (hT : DF P near wt s t) (hU : DF P near wt s u) {c : Int} (c0 : 0 <= c) (c1 : c < (P : Int)) : gt t c = gt u c := by
 have t0 := hT.src
 have u0 := hU.src
 have key : ∀ {t u : List Int}, DF P near wt s t -> DF P near wt s u -> 0 <= gt u c -> 0 <= gt t c /\ gt t c <= gt u c := fun {t u} hT hU h => by
  have := y4a hG hT hU (by rw [hT.src]; omega) _ c c0 c1 h rfl
  rw [hT.src] at this
  omega
 rcases hT.bd c c0 c1 with h1 | h1
 ·rcases hU.bd c c0 c1 with h2 | h2
  ·omega
  ·have := key hT hU h2.1; omega
 ·have a := key hU hT h1.1
  have b := key hT hU a.1
  omega
def Dst (φ : Nat) (x : zg) (a b : Int) : Option Int := match zq φ x a b with
 | some (t, e, _) => if e = 0 then some t else none
 | none => none
def okPl (x : zg) (a : Int) : Prop := 0 <= a /\ a < (x.places.length : Int)
section
variable {φ : Nat} (hφ : 800000 < φ) {x : zg} (hn : z9a x = 0)
include hφ hn
theorem zw8 {a b : Int} (ha : okPl x a) (hb : okPl x b) : ∃ t, DF x.places.length (z3c x) (wtN x) a t /\ Dst φ x a b = if gt t b < 0 then none else some (gt t b) := by
 obtain ⟨t, h1, h2⟩ := zv9 φ hφ hn ha hb
 refine ⟨t, h1, ?_⟩
 unfold Dst
 rw [h2]
 by_cases q : gt t b < 0
 ·rw [if_pos q, if_pos q]; rfl
 ·rw [if_neg q, if_neg q]; rfl
theorem y69 {a b c p q : Int} (ha : okPl x a) (hb : okPl x b) (hc : okPl x c) (h1 : Dst φ x a b = some p) (h2 : Dst φ x b c = some q) : ∃ r, Dst φ x a c = some r /\ r <= p + q := by
 obtain ⟨t, d1, e1⟩ := zw8 hφ hn ha hb
 obtain ⟨t', d1', e3⟩ := zw8 hφ hn ha hc
 obtain ⟨u, d2, e2⟩ := zw8 hφ hn hb hc
 have hG := grN (y6v hn)
 rw [e1] at h1
 rw [e2] at h2
 split at h1
 ·cases h1
 split at h2
 ·cases h2
 cases h1; cases h2
 have := y4a hG d1 d2 (by omega) _ c hc.1 hc.2 (by omega) rfl
 have e := y78 hG d1' d1 hc.1 hc.2
 rw [e3, e, if_neg (by omega)]
 exact ⟨_, rfl, this.2⟩
end
end Px
end
section
namespace Px
open Go
set_option linter.unusedVariables false
set_option linter.unusedSimpArgs false
theorem zj5 (φ : Nat) : ∀ (n m N : Nat), m <= N -> N < n + m -> 1 <= m \/ N = 0 -> N <= 5000 -> z37 φ n (m : Int) (List.replicate m (-1) ++ List.replicate (N - m) (default : Int)) = some (List.replicate N (-1), ())
 | 0, m, N, h1, h2, _, _ => by omega
 | n + 1, m, N, h1, h2, h3, h4 => by
  have hlen : (List.replicate m (-1 : Int) ++ List.replicate (N - m) (default : Int)).length = N := by simp; omega
  rw [z37, hlen]
  by_cases h : m < N
  ·rw [if_pos (by simp; omega), z8 ⟨by omega, by omega, by omega⟩, z8 ⟨by omega, by omega, by omega⟩]
   have e1 : z59 (List.replicate m (-1 : Int) ++ List.replicate (N - m) (default : Int)) ((0 : Int).toNat) ((m : Int).toNat) = List.replicate m (-1) := by
    simp [z59, List.take_append]
   rw [e1, List.length_replicate]
   have e2 : ((N : Int).toNat - (m : Int).toNat) = N - m := by omega
   have e3 : W ((m : Int) + ((min m (N - m) : Nat) : Int)) = ((m + min m (N - m) : Nat) : Int) := by rw [W_id (by omega) (by omega)]; omega
   rw [e2, e3]
   have e4 : cpy (List.replicate m (-1 : Int) ++ List.replicate (N - m) (default : Int)) ((m : Int).toNat) (N - m) (List.replicate m (-1)) = List.replicate (m + min m (N - m)) (-1) ++ List.replicate (N - (m + min m (N - m))) (default : Int) := by
    unfold cpy
    rw [Int.toNat_natCast, List.length_replicate, List.take_append_of_le_length (by simp), List.take_of_length_le (by simp), List.take_replicate, List.drop_append, List.drop_of_length_le (by simp), List.drop_replicate, List.length_replicate, List.nil_append]
    rw [show min (min m (N - m)) m = min m (N - m) by omega, List.replicate_append_replicate]
    congr 2
    omega
   rw [e4]
   exact zj5 φ n (m + min m (N - m)) N (by omega) (by omega) (by omega) h4
  ·rw [if_neg (by simp; omega)]
   have : m = N := by omega
   subst this
   simp
theorem zxm (φ : Nat) (n : Nat) (hn : n <= 5000) (hφ : 5001 < φ) : z32 φ [-1] (n : Int) = some (List.replicate n (-1), ()) := by
 unfold z32 zmd
 rw [if_neg (by simp), show (([-1] : List Int).length : Int) = 1 from rfl, U_id (x := 1) (by omega) (by omega), U_id (x := (n : Int)) (by omega) (by omega), zuc φ 1 n (by omega) (by omega) (by omega) (by omega)]
 simp only [Option.bind_some, Int.one_mul]
 have e1 : (n : Int) / 18446744073709551616 = 0 := by omega
 have e2 : (n : Int) % 18446744073709551616 = n := by omega
 rw [e1, e2, if_neg (by simp; omega), W_id (by omega) (by omega), z8 (mk_t _ _ (by omega) (by omega) (by omega))]
 rw [Int.toNat_natCast]
 have e3 : cpy (List.replicate n (default : Int)) 0 ((List.replicate n (default : Int)).length - 0) [-1] = List.replicate (min 1 n) (-1) ++ List.replicate (n - min 1 n) (default : Int) := by
  cases n with
  | zero => rfl
  | succ n => simp [cpy, show min 1 (n + 1) = 1 by omega]
 rw [e3, List.length_replicate]
 exact zj5 φ φ (min 1 n) n (by omega) (by omega) (by omega) hn
structure LS where
 x : List Int
 y : List Int
 z : Int
def stp (b : za) (i : Int) (s : LS) : LS := if gt s.x b.i + b.w < gt s.x b.j then ⟨z05 s.x b.j (gt s.x b.i + b.w), z05 s.y b.j i, i⟩ else s
def rndL (L : List za) : Nat -> LS -> LS
 | 0, s => s
 | m + 1, s => stp (gt L (m : Int)) m (rndL L m s)
def lowR (L : List za) : Nat -> LS -> LS
 | 0, s => s
 | k + 1, s => if (rndL L L.length ⟨s.x, s.y, -1⟩).z < 0 then rndL L L.length ⟨s.x, s.y, -1⟩ else lowR L k (rndL L L.length ⟨s.x, s.y, -1⟩)
def low (n : Nat) (L : List za) : LS := lowR L n ⟨List.replicate n 0, List.replicate n (-1), -1⟩
def okBd (n : Nat) (b : za) : Prop := 0 <= b.i /\ b.i < (n : Int) /\ 0 <= b.j /\ b.j < (n : Int) /\ -1099511627776 <= b.w /\ b.w <= 1099511627776
structure LB (n c : Nat) (s : LS) : Prop where
 lx : s.x.length = n
 ly : s.y.length = n
 bd : ∀ i : Int, 0 <= i -> i < (n : Int) -> -(1099511627776 * (c : Int)) <= gt s.x i /\ gt s.x i <= 0
theorem LB.up {n c d : Nat} {s : LS} (h : LB n c s) (hd : c <= d) : LB n d s := ⟨h.lx, h.ly, fun i h0 h1 => by have := h.bd i h0 h1; omega⟩
theorem LB.stp {n c : Nat} {s : LS} (h : LB n c s) {b : za} (hb : okBd n b) (i : Int) : LB n (c + 1) (stp b i s) := by
 unfold Px.stp
 obtain ⟨a1, a2, a3, a4, a5, a6⟩ := hb
 have hx := h.lx
 have hy := h.ly
 split
 ·rename_i hlt
  refine ⟨by rw [z1f]; exact hx, by rw [z1f]; exact hy, fun k h0 h1 => ?_⟩
  have q1 := h.bd b.i a1 a2
  have q2 := h.bd k h0 h1
  have q3 := h.bd b.j a3 a4
  rw [z0j _ _ _ _ a3 (by rw [hx]; exact a4) h0]
  split <;> omega
 ·exact h.up (by omega)
theorem LB.rnd {n c : Nat} {s : LS} (h : LB n c s) {L : List za} (hL : ∀ b ∈ L, okBd n b) : ∀ m, m <= L.length -> LB n (c + m) (rndL L m s)
 | 0, _ => h
 | m + 1, hm => (LB.rnd h hL m (by omega)).stp (hL _ (z21 (by omega) (by omega))) m
theorem y0h (φ : Nat) (k : List za -> Int -> Int -> Int -> List Int -> List Int -> Option (List Int × List Int × Int × Unit)) (L : List za) (n : Nat) (r : Int) (c : Nat) (s : LS) (hs : LB n c s) (hL : ∀ b ∈ L, okBd n b) (hl : L.length <= 5000) (hc : c + L.length <= 2100000) (hφ : 5001 < φ) :
  z1i φ k φ L s.z n r L (L.length : Int) 0 s.x s.y = if (rndL L L.length s).z < 0 then some ((rndL L L.length s).x, (rndL L L.length s).y, (rndL L L.length s).z, ()) else k L (rndL L L.length s).z n (W (r + 1)) (rndL L L.length s).x (rndL L L.length s).y := by
 refine z0k (fun f i (t : LS) => z1i φ k f L t.z n r L (L.length : Int) i t.x t.y) L.length (fun i t => t = rndL L i s) (fun o => o = _) ?_ ?_ φ s rfl (by omega)
 ·intro f i t hi ht hk
  have hB := hs.rnd hL i (by omega)
  rw [<- ht] at hB
  obtain ⟨a1, a2, a3, a4, a5, a6⟩ := hL _ (z21 (l := L) (i := (i : Int)) (by omega) (by omega))
  have q1 := hB.bd _ a1 a2
  have q2 := hB.bd _ a3 a4
  have hx := hB.lx
  have hy := hB.ly
  have hk' := hk (stp (gt L (i : Int)) i t) (by rw [ht]; rfl)
  rw [z1i, if_pos (by simp; omega), z8 ⟨by omega, by omega⟩, z8 ⟨a1, by rw [hx]; exact a2⟩, z8 ⟨a3, by rw [hx]; exact a4⟩, W_id (x := gt t.x (gt L (i : Int)).i + (gt L (i : Int)).w) (by omega) (by omega)]
  unfold stp at hk'
  by_cases h : gt t.x (gt L (i : Int)).i + (gt L (i : Int)).w < gt t.x (gt L (i : Int)).j
  ·rw [if_pos h] at hk'
   rw [if_pos (by simpa using h), z3p, z8 ⟨a3, by rw [hx]; exact a4⟩, z8 ⟨a3, by rw [hy]; exact a4⟩, W_id (x := (i : Int) + 1) (by omega) (by omega)]
   exact hk'
  ·rw [if_neg h] at hk'
   rw [if_neg (by simpa using h), W_id (x := (i : Int) + 1) (by omega) (by omega)]
   exact hk'
 ·intro f t ht
  subst ht
  rw [z1i, if_neg (by simp)]
  by_cases h : (rndL L L.length s).z < 0
  ·rw [if_pos (by simpa using h), if_pos h]; rfl
  ·rw [if_neg (by simpa using h), if_neg h]
theorem zp5 (φ : Nat) (L : List za) (n : Nat) (hn : n <= 512) (hL : ∀ b ∈ L, okBd n b) (hl : L.length <= 4096) (hφ : 5001 < φ) :
  ∀ (f k : Nat) (s : LS), LB n (k * L.length) s -> k <= n -> n < f + k -> z2s φ f L s.z n (k : Int) s.x s.y = some ((lowR L (n - k) s).x, (lowR L (n - k) s).y, (lowR L (n - k) s).z, ())
 | 0, k, s, _, h1, h2 => by omega
 | f + 1, k, s, hs, h1, h2 => by
  rw [z2s]
  by_cases h : k < n
  ·have hs1 : LB n (k * L.length) ⟨s.x, s.y, -1⟩ := ⟨hs.lx, hs.ly, hs.bd⟩
   have hb := Nat.mul_le_mul (show k + 1 <= 512 by omega) hl
   rw [Nat.add_mul, Nat.one_mul] at hb
   rw [if_pos (by simp; omega)]
   have := y0h φ (z2s φ f) L n (k : Int) _ ⟨s.x, s.y, -1⟩ hs1 hL (by omega) (by omega) hφ
   refine this.trans ?_
   rw [show n - k = (n - (k + 1)) + 1 by omega, lowR, W_id (x := (k : Int) + 1) (by omega) (by omega)]
   have hs2 := hs1.rnd hL L.length (Nat.le_refl _)
   split
   ·rfl
   ·exact zp5 φ L n hn hL hl hφ f (k + 1) _ (hs2.up (by rw [Nat.add_mul, Nat.one_mul]; omega)) (by omega) (by omega)
  ·rw [if_neg (by simp; omega), show n - k = 0 by omega]; rfl
theorem lb0 (n : Nat) : LB n 0 ⟨List.replicate n 0, List.replicate n (-1), -1⟩ := ⟨by simp, by simp, fun i h0 h1 => by rw [show gt (LS.x ⟨List.replicate n 0, List.replicate n (-1), -1⟩) i = 0 from z2w n 0 i h0 h1]; omega⟩
theorem zx5 (φ : Nat) (hφ : 5001 < φ) (L : List za) (n : Nat) (hn : n <= 512) (hL : ∀ b ∈ L, okBd n b) (hl : L.length <= 4096) : zb3 φ (n : Int) L = some ((low n L).x, (low n L).y, (low n L).z, ()) := by
 unfold zb3 z3n z3a
 rw [z8 (mk_t _ _ (by omega) (by omega) (by omega)), zxm φ n (by omega) hφ, Option.bind_some, Int.toNat_natCast]
 have := zp5 φ L n hn hL hl hφ φ 0 ⟨List.replicate n 0, List.replicate n (-1), -1⟩ ((lb0 n).up (by omega)) (by omega) (by omega)
 exact this
def zl3 (n : Int) (b : za) : Bool := (((decide ((min2 b.i b.j) < 0) || decide (n <= max2 b.i b.j)) || decide (b.w < (-1099511627776))) || decide (1099511627776 < b.w))
def chkD (n : Int) (L : List za) : Int := if n < 1 then 1 else if 512 < n \/ 4096 < L.length then 2 else bif L.any (zl3 n) then 1 else 0
theorem zod {n : Nat} {b : za} : zl3 n b = false ↔ okBd n b := by
 unfold zl3 okBd
 simp only [Bool.or_eq_false_iff, decide_eq_false_iff_not, zw3, y7b]
 have : ¬ ((n : Int) <= max2 b.i b.j) ↔ b.i < n /\ b.j < n := by unfold max2; split <;> omega
 rw [this]
 omega
theorem zm5 (φ : Nat) (hφ : 5001 < φ) (n : Int) (L : List za) : zdx φ n L = some (chkD n L, ()) := by
 unfold zdx chkD
 by_cases h1 : n < 1
 ·rw [if_pos (by simpa using h1), if_pos h1]
 ·rw [if_neg (by simpa using h1), if_neg h1]
  by_cases h2 : 512 < n \/ 4096 < L.length
  ·rw [if_pos (by simp; omega), if_pos h2]
  ·rw [if_neg (by simp; omega), if_neg h2]
   have := zij (fun f i => z47 φ f n L (L.length : Int) i) (some (0, ())) (some (1, ())) L (zl3 n) (fun f i hi => by
     rw [z47, if_pos (by simp; omega), z8 ⟨by omega, by omega⟩, W_id (by omega) (by omega)]
     show (if zl3 n (gt L (i : Int)) = true then _ else _) = _
     cases zl3 n (gt L (i : Int)) <;> rfl) (fun f => by
     rw [z47, if_neg (by simp)]) φ (by omega)
   rw [this]; cases L.any (zl3 n) <;> rfl
theorem y6d {n : Int} {L : List za} (h : chkD n L = 0) : ∃ m : Nat, n = m /\ 1 <= m /\ m <= 512 /\ L.length <= 4096 /\ ∀ b ∈ L, okBd m b := by
 unfold chkD at h
 split at h
 ·cases h
 ·split at h
  ·cases h
  ·refine ⟨n.toNat, by omega, by omega, by omega, by omega, fun b hb => ?_⟩
   cases ha : L.any (zl3 n) with
   | true => rw [ha] at h; cases h
   | false =>
    rw [<- zod, show ((n.toNat : Nat) : Int) = n by omega]
    cases hbb : zl3 n b with
    | false => rfl
    | true => rw [List.any_eq_false] at ha; exact absurd hbb (ha b hb)
theorem y7s {n : Nat} {L : List za} (h1 : 1 <= n) (h2 : n <= 512) (h3 : L.length <= 4096) (h4 : ∀ b ∈ L, okBd n b) : chkD n L = 0 := by
 unfold chkD
 rw [if_neg (by omega), if_neg (by omega)]
 have : L.any (zl3 n) = false := by
  rw [List.any_eq_false]
  intro b hb h
  rw [zod.2 (h4 b hb)] at h; cases h
 rw [this]; rfl
theorem y2t (φ : Nat) (hφ : 5001 < φ) (n : Int) (L : List za) : zaq φ n L = some (if chkD n L ≠ 0 then ([], chkD n L, ()) else if 0 <= (low n.toNat L).z then ([], 230, ()) else ((low n.toNat L).x, 0, ())) := by
 unfold zaq
 rw [zm5 φ hφ, Option.bind_some]
 by_cases h : chkD n L = 0
 ·rw [if_neg (by simpa using h), if_neg (by simpa using h)]
  obtain ⟨m, rfl, h1, h2, h3, h4⟩ := y6d h
  rw [zx5 φ hφ L m h2 h4 h3, Option.bind_some, Int.toNat_natCast]
  by_cases hz : 0 <= (low m L).z
  ·rw [if_pos (by simpa using hz), if_pos hz]
  ·rw [if_neg (by simpa using hz), if_neg hz]
 ·rw [if_pos (by simpa using h), if_pos (by simpa using h)]
end Px
end
