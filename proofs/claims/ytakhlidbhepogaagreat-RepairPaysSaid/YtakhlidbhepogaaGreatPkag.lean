/- A part of the proof of repairPays_holds. Conditions: none. -/
import Derived.Test.YtakhlidbhepogaaGreatPkaf
import Derived.Test.YtakhlidbhepogaaGreatProg
import Derived.Ground.SlsfProg
import Derived.Ground.NamesProg
import Derived.Shelf.SlIterI.Nil
import Derived.Ground.GgzProg
import Derived.KernelRfl
section
namespace Go.Proofs
open Go.Shelf
def Tryz.sortEv_ren : Go.Shelf.Ren := ⟨fun | 6 => 37 | 15 => 65 | 14 => 64 | 28 => 107 | 29 => 108 | 20 => 99 | 21 => 100 | 22 => 101 | 23 => 102 | 24 => 103 | 25 => 104 | 26 => 105 | 27 => 106 | 46 => 140 | 47 => 141 | 48 => 142 | 49 => 143 | 50 => 144 | 57 => 166 | n => n, fun | 22 => 28 | 24 => 24 | 25 => 94 | 3 => 3 | 39 => 134 | 0 => 0 | 53 => 175 | 55 => 110 | 4 => 4 | 46 => 168 | 45 => 167 | 50 => 172 | 5 => 5 | 9 => 9 | 66 => 204 | 70 => 158 | 76 => 223 | 77 => 224 | n => n, fun | n => n⟩
theorem Tryz.sortEv : Go.Proofs.SlLaysF0.n6 Tryz.prog Tryz.sortEv_ren := {
 mixed := by kernel_rfl
 f6 := ⟨Tryz.f37.name, by decide, Tryz.func37.trans (congrArg some (by kernel_rfl))⟩
 f14 := ⟨Tryz.f64.name, by decide, Tryz.func64.trans (congrArg some (by kernel_rfl))⟩
 f15 := Tryz.func65.trans (congrArg some (by kernel_rfl))
 f20 := ⟨Tryz.f99.name, by decide, Tryz.func99.trans (congrArg some (by kernel_rfl))⟩
 f21 := ⟨Tryz.f100.name, by decide, Tryz.func100.trans (congrArg some (by kernel_rfl))⟩
 f22 := ⟨Tryz.f101.name, by decide, Tryz.func101.trans (congrArg some (by kernel_rfl))⟩
 f23 := ⟨Tryz.f102.name, by decide, Tryz.func102.trans (congrArg some (by kernel_rfl))⟩
 f24 := ⟨Tryz.f103.name, by decide, Tryz.func103.trans (congrArg some (by kernel_rfl))⟩
 f25 := ⟨Tryz.f104.name, by decide, Tryz.func104.trans (congrArg some (by kernel_rfl))⟩
 f26 := ⟨Tryz.f105.name, by decide, Tryz.func105.trans (congrArg some (by kernel_rfl))⟩
 f27 := ⟨Tryz.f106.name, by decide, Tryz.func106.trans (congrArg some (by kernel_rfl))⟩
 f28 := Tryz.func107.trans (congrArg some (by kernel_rfl))
 f29 := Tryz.func108.trans (congrArg some (by kernel_rfl))
 f46 := ⟨Tryz.f140.name, by decide, Tryz.func140.trans (congrArg some (by kernel_rfl))⟩
 f47 := Tryz.func141.trans (congrArg some (by kernel_rfl))
 f48 := Tryz.func142.trans (congrArg some (by kernel_rfl))
 f49 := ⟨Tryz.f143.name, by decide, Tryz.func143.trans (congrArg some (by kernel_rfl))⟩
 f50 := ⟨Tryz.f144.name, by decide, Tryz.func144.trans (congrArg some (by kernel_rfl))⟩
 f57 := ⟨Tryz.f166.name, by decide, Tryz.func166.trans (congrArg some (by kernel_rfl))⟩
 t0 := Tryz.underlying0
 a0 := Tryz.isAgg0
 z0 := Tryz.sizeOf0
 v0 := Tryz.zeroValue0
 t3 := Tryz.underlying3
 a3 := Tryz.isAgg3
 z3 := Tryz.sizeOf3
 v3 := Tryz.zeroValue3
 t4 := Tryz.underlying4
 a4 := Tryz.isAgg4
 z4 := Tryz.sizeOf4
 v4 := Tryz.zeroValue4
 t5 := Tryz.underlying5
 a5 := Tryz.isAgg5
 z5 := Tryz.sizeOf5
 v5 := Tryz.zeroValue5
 t9 := Tryz.underlying9
 a9 := Tryz.isAgg9
 z9 := Tryz.sizeOf9
 v9 := Tryz.zeroValue9
 t22 := Tryz.underlying28
 a22 := Tryz.isAgg28
 z22 := Tryz.sizeOf28
 v22 := Tryz.zeroValue28
 t25 := Tryz.underlying94
 a25 := Tryz.isAgg94
 z25 := Tryz.sizeOf94
 v25 := Tryz.zeroValue94
 t39 := Tryz.underlying134
 a39 := Tryz.isAgg134
 z39 := Tryz.sizeOf134
 v39 := Tryz.zeroValue134
 t45 := Tryz.underlying167
 a45 := Tryz.isAgg167
 z45 := Tryz.sizeOf167
 v45 := Tryz.zeroValue167
 t46 := Tryz.underlying168
 a46 := Tryz.isAgg168
 z46 := Tryz.sizeOf168
 v46 := Tryz.zeroValue168
 t50 := Tryz.underlying172
 a50 := Tryz.isAgg172
 z50 := Tryz.sizeOf172
 v50 := Tryz.zeroValue172
 t53 := Tryz.underlying175
 a53 := Tryz.isAgg175
 z53 := Tryz.sizeOf175
 v53 := Tryz.zeroValue175
 t55 := Tryz.underlying110
 a55 := Tryz.isAgg110
 z55 := Tryz.sizeOf110
 v55 := Tryz.zeroValue110
 t66 := Tryz.underlying204
 a66 := Tryz.isAgg204
 z66 := Tryz.sizeOf204
 v66 := Tryz.zeroValue204
 t70 := Tryz.underlying158
 a70 := Tryz.isAgg158
 z70 := Tryz.sizeOf158
 v70 := Tryz.zeroValue158
 t76 := Tryz.underlying223
 a76 := Tryz.isAgg223
 z76 := Tryz.sizeOf223
 v76 := Tryz.zeroValue223
 t77 := Tryz.underlying224
 a77 := Tryz.isAgg224
 z77 := Tryz.sizeOf224
 v77 := Tryz.zeroValue224 }
def Tryz.lays189_ren : Go.Shelf.Ren := ⟨fun | 189 => 71 | 125 => 65 | 257 => 110 | 128 => 107 | 129 => 108 | 294 => 145 | 295 => 146 | 296 => 147 | 297 => 148 | 298 => 149 | 299 => 150 | 216 => 151 | 300 => 152 | 301 => 153 | 328 => 167 | 329 => 141 | 330 => 142 | 331 => 168 | 332 => 169 | 215 => 66 | 343 => 182 | n => n, fun | 28 => 34 | 3 => 3 | 46 => 134 | 0 => 0 | 51 => 175 | 53 => 110 | 4 => 4 | 183 => 168 | 182 => 167 | 131 => 172 | 5 => 5 | 9 => 9 | 218 => 204 | 222 => 158 | 228 => 223 | 229 => 224 | n => n, fun | n => n⟩
theorem Tryz.lays189 : Go.Proofs.Lays.n189 Tryz.prog Tryz.lays189_ren := {
 mixed := by kernel_rfl
 f125 := Tryz.func65.trans (congrArg some (by kernel_rfl))
 f128 := Tryz.func107.trans (congrArg some (by kernel_rfl))
 f129 := Tryz.func108.trans (congrArg some (by kernel_rfl))
 f189 := Tryz.func71.trans (congrArg some (by kernel_rfl))
 f215 := Tryz.func66.trans (congrArg some (by kernel_rfl))
 f216 := Tryz.func151.trans (congrArg some (by kernel_rfl))
 f257 := Tryz.func110.trans (congrArg some (by kernel_rfl))
 f294 := Tryz.func145.trans (congrArg some (by kernel_rfl))
 f295 := Tryz.func146.trans (congrArg some (by kernel_rfl))
 f296 := Tryz.func147.trans (congrArg some (by kernel_rfl))
 f297 := Tryz.func148.trans (congrArg some (by kernel_rfl))
 f298 := Tryz.func149.trans (congrArg some (by kernel_rfl))
 f299 := Tryz.func150.trans (congrArg some (by kernel_rfl))
 f300 := Tryz.func152.trans (congrArg some (by kernel_rfl))
 f301 := Tryz.func153.trans (congrArg some (by kernel_rfl))
 f328 := Tryz.func167.trans (congrArg some (by kernel_rfl))
 f329 := Tryz.func141.trans (congrArg some (by kernel_rfl))
 f330 := Tryz.func142.trans (congrArg some (by kernel_rfl))
 f331 := Tryz.func168.trans (congrArg some (by kernel_rfl))
 f332 := Tryz.func169.trans (congrArg some (by kernel_rfl))
 f343 := Tryz.func182.trans (congrArg some (by kernel_rfl))
 t0 := Tryz.underlying0
 a0 := Tryz.isAgg0
 z0 := Tryz.sizeOf0
 v0 := Tryz.zeroValue0
 t3 := Tryz.underlying3
 a3 := Tryz.isAgg3
 z3 := Tryz.sizeOf3
 v3 := Tryz.zeroValue3
 t4 := Tryz.underlying4
 a4 := Tryz.isAgg4
 z4 := Tryz.sizeOf4
 v4 := Tryz.zeroValue4
 t5 := Tryz.underlying5
 a5 := Tryz.isAgg5
 z5 := Tryz.sizeOf5
 v5 := Tryz.zeroValue5
 t9 := Tryz.underlying9
 a9 := Tryz.isAgg9
 z9 := Tryz.sizeOf9
 v9 := Tryz.zeroValue9
 t28 := Tryz.underlying34
 a28 := Tryz.isAgg34
 z28 := Tryz.sizeOf34
 v28 := Tryz.zeroValue34
 t46 := Tryz.underlying134
 a46 := Tryz.isAgg134
 z46 := Tryz.sizeOf134
 v46 := Tryz.zeroValue134
 t51 := Tryz.underlying175
 a51 := Tryz.isAgg175
 z51 := Tryz.sizeOf175
 v51 := Tryz.zeroValue175
 t53 := Tryz.underlying110
 a53 := Tryz.isAgg110
 z53 := Tryz.sizeOf110
 v53 := Tryz.zeroValue110
 t131 := Tryz.underlying172
 a131 := Tryz.isAgg172
 z131 := Tryz.sizeOf172
 v131 := Tryz.zeroValue172
 t182 := Tryz.underlying167
 a182 := Tryz.isAgg167
 z182 := Tryz.sizeOf167
 v182 := Tryz.zeroValue167
 t183 := Tryz.underlying168
 a183 := Tryz.isAgg168
 z183 := Tryz.sizeOf168
 v183 := Tryz.zeroValue168
 t218 := Tryz.underlying204
 a218 := Tryz.isAgg204
 z218 := Tryz.sizeOf204
 v218 := Tryz.zeroValue204
 t222 := Tryz.underlying158
 a222 := Tryz.isAgg158
 z222 := Tryz.sizeOf158
 v222 := Tryz.zeroValue158
 t228 := Tryz.underlying223
 a228 := Tryz.isAgg223
 z228 := Tryz.sizeOf223
 v228 := Tryz.zeroValue223
 t229 := Tryz.underlying224
 a229 := Tryz.isAgg224
 z229 := Tryz.sizeOf224
 v229 := Tryz.zeroValue224 }
def Tryz.sortedK_ren : Go.Shelf.Ren := ⟨fun | 6 => 44 | 8 => 70 | 9 => 71 | 11 => 109 | 13 => 65 | 12 => 110 | 23 => 107 | 24 => 108 | 14 => 145 | 15 => 146 | 16 => 147 | 17 => 148 | 18 => 149 | 19 => 150 | 20 => 151 | 21 => 152 | 22 => 153 | 25 => 167 | 26 => 141 | 27 => 142 | 28 => 168 | 29 => 169 | 30 => 66 | 31 => 182 | n => n, fun | 26 => 3 | 28 => 100 | 24 => 34 | 0 => 0 | 3 => 3 | 37 => 134 | 48 => 175 | 50 => 110 | 4 => 4 | 40 => 168 | 39 => 167 | 45 => 172 | 5 => 5 | 9 => 9 | 51 => 204 | 55 => 158 | 57 => 223 | 58 => 224 | 33 => 135 | n => n, fun | n => n⟩
theorem Tryz.sortedK : Go.Proofs.SlLaysZI.n6 Tryz.prog Tryz.sortedK_ren := {
 mixed := by kernel_rfl
 f6 := ⟨Tryz.f44.name, by decide, Tryz.func44.trans (congrArg some (by kernel_rfl))⟩
 f8 := ⟨Tryz.f70.name, by decide, Tryz.func70.trans (congrArg some (by kernel_rfl))⟩
 f11 := ⟨Tryz.f109.name, by decide, Tryz.func109.trans (congrArg some (by kernel_rfl))⟩
 t0 := Tryz.underlying0
 a0 := Tryz.isAgg0
 z0 := Tryz.sizeOf0
 v0 := Tryz.zeroValue0
 t24 := Tryz.underlying34
 a24 := Tryz.isAgg34
 z24 := Tryz.sizeOf34
 v24 := Tryz.zeroValue34
 t26 := Tryz.underlying3
 a26 := Tryz.isAgg3
 z26 := Tryz.sizeOf3
 v26 := Tryz.zeroValue3
 t28 := Tryz.underlying100
 a28 := Tryz.isAgg100
 z28 := Tryz.sizeOf100
 v28 := Tryz.zeroValue100
 i26 := by kernel_rfl }
def Tryz.keysK_ren : Go.Shelf.Ren := ⟨fun | 10 => 72 | n => n, fun | 33 => 135 | 23 => 89 | 0 => 0 | 4 => 4 | 26 => 3 | 3 => 4 | n => n, fun | n => n⟩
theorem Tryz.keysK : Go.Proofs.SlLaysZI.n10 Tryz.prog Tryz.keysK_ren := {
 mixed := by kernel_rfl
 f10 := ⟨Tryz.f72.name, by decide, Tryz.func72.trans (congrArg some (by kernel_rfl))⟩
 t0 := Tryz.underlying0
 a0 := Tryz.isAgg0
 z0 := Tryz.sizeOf0
 v0 := Tryz.zeroValue0
 t4 := Tryz.underlying4
 a4 := Tryz.isAgg4
 z4 := Tryz.sizeOf4
 v4 := Tryz.zeroValue4
 t23 := Tryz.underlying89
 a23 := Tryz.isAgg89
 z23 := Tryz.sizeOf89
 v23 := Tryz.zeroValue89
 t26 := Tryz.underlying3
 a26 := Tryz.isAgg3
 z26 := Tryz.sizeOf3
 v26 := Tryz.zeroValue3
 t33 := Tryz.underlying135
 a33 := Tryz.isAgg135
 z33 := Tryz.sizeOf135
 v33 := Tryz.zeroValue135 }
end Go.Proofs
end
section
namespace Px
open Go
set_option linter.unusedVariables false
set_option linter.unusedSimpArgs false
theorem y1y {σ ρ : Type} (L : Nat -> Int -> σ -> Option ρ) (len : Nat) (Inv : Nat -> σ -> Prop) (G : Option ρ -> Prop)
  (step : ∀ n i s, i < len -> Inv i s -> (∀ s', Inv (i + 1) s' -> G (L n ((i : Int) + 1) s')) -> G (L (n + 1) i s))
  (done : ∀ n s, Inv len s -> G (L (n + 1) len s)) : ∀ n i s, i <= len -> Inv i s -> len - i < n -> G (L n i s) := by
 intro n
 induction n with
 | zero => intro i s _ _ h; omega
 | succ n ih =>
  intro i s hi hI hn
  by_cases h : i = len
  ·subst h; exact done n s hI
  ·refine step n i s (by omega) hI fun s' hs' => ?_
   have := ih (i + 1) s' (by omega) hs' (by omega)
   simpa using this
theorem z6y {σ ρ : Type} (L : Nat -> Int -> σ -> Option ρ) (len : Nat) (Inv : Nat -> σ -> Prop) (G : Option ρ -> Prop)
  (step : ∀ n i s, i < len -> Inv i s -> (∀ s', Inv (i + 1) s' -> G (L n ((i : Int) + 1) s')) -> G (L (n + 1) i s))
  (done : ∀ n s, Inv len s -> G (L (n + 1) len s)) (n : Nat) (s : σ) (h : Inv 0 s) (hn : len < n) : G (L n 0 s) := by
 simpa using y1y L len Inv G step done n 0 s (Nat.zero_le _) h (by omega)
theorem zuv (x : Int) : W x = if x % 18446744073709551616 >= 9223372036854775808 then x % 18446744073709551616 - 18446744073709551616 else x % 18446744073709551616 := by
 simp [W, IntKind.wrap, IntKind.bits, IntKind.signed]
theorem y4e (x : Int) : U x = x % 18446744073709551616 := by
 simp [U, IntKind.wrap, IntKind.bits, IntKind.signed]
theorem W_id {x : Int} (h : -9223372036854775808 <= x) (h' : x <= 9223372036854775807) : W x = x := by
 rw [zuv]; split <;> omega
theorem U_id {x : Int} (h : 0 <= x) (h' : x <= 18446744073709551615) : U x = x := by
 rw [y4e]; omega
theorem ziu {α : Type} [Inhabited α] (ok : α -> Bool) (l : List α) (i : Nat) (h : i < l.length) : (l.take (i + 1)).all ok = ((l.take i).all ok && ok (gt l (i : Int))) := by
 rw [List.take_succ_eq_append_getElem h, List.all_append]
 simp [gt, h]
theorem zji {α : Type} [Inhabited α] (ok : α -> Bool) (l : List α) (i : Nat) (h : i < l.length) : (l.take (i + 1)).any ok = ((l.take i).any ok || ok (gt l (i : Int))) := by
 rw [List.take_succ_eq_append_getElem h, List.any_append]
 simp [gt, h]
theorem z8c {α : Type} [Inhabited α] (l : List α) (i : Nat) (h : i < l.length) : l.take (i + 1) = l.take i ++ [gt l (i : Int)] := by
 rw [List.take_succ_eq_append_getElem h]
 simp [gt, h]
theorem zbn {α : Type} [Inhabited α] {l : List α} {i : Int} (h0 : 0 <= i) (h : i < (l.length : Int)) : gt l i ∈ l := by
 have hlt : i.toNat < l.length := by omega
 simp [gt, hlt]
theorem zon {α : Type} [Inhabited α] {l : List α} {i : Nat} (h : i < l.length) : gt l (i : Int) = l[i] := by
 simp [gt, h]
theorem yaq {α : Type} [Inhabited α] (l : List α) (i : Nat) (h : i < l.length) : l.drop i = gt l (i : Int) :: l.drop (i + 1) := by
 rw [zon h, List.getElem_cons_drop]
theorem zew {α : Type} [Inhabited α] (l m : List α) (j : Int) (h0 : 0 <= j) (h : j < (l.length : Int)) : gt (l ++ m) j = gt l j := by
 have : j.toNat < l.length := by omega
 simp [gt, List.getD, List.getElem?_append, this]
theorem zan {α : Type} [Inhabited α] (l m : List α) (j : Int) (h : (l.length : Int) <= j) : gt (l ++ m) j = gt m (j - l.length) := by
 have : ¬ j.toNat < l.length := by omega
 have e : (j - l.length).toNat = j.toNat - l.length := by omega
 simp [gt, List.getD, List.getElem?_append, this, e]
theorem zn6 {α ρ : Type} [Inhabited α] (L : Nat -> Int -> Int -> Option ρ) (k : Int -> Option ρ) (l : List α) (ok : α -> Bool)
  (step : ∀ (n i : Nat) (s : Int), i < l.length -> L (n + 1) i s = L n ((i : Int) + 1) (bif ok (gt l i) then s else 1)) (done : ∀ n s, L (n + 1) l.length s = k s) :
  ∀ n s, l.length < n -> L n 0 s = k (bif l.all ok then s else 1) := by
 intro n s hn
 refine y1y L l.length (fun i t => t = bif (l.take i).all ok then s else 1) (fun o => o = k (bif l.all ok then s else 1)) ?_ ?_ n 0 s (Nat.zero_le _) (by simp) (by omega)
 ·intro n i t hi ht hs
  rw [step n i t hi]
  refine hs _ ?_
  rw [ziu ok l i hi, ht]
  cases (l.take i).all ok <;> cases ok (gt l (i : Int)) <;> simp
 ·intro n t ht
  rw [done, ht, List.take_length]
theorem y1v {α ρ : Type} [Inhabited α] (L : Nat -> Int -> Option ρ) (k : Option ρ) (l : List α) (p : α -> Bool) (g : α -> Option ρ)
  (step : ∀ n i : Nat, i < l.length -> L (n + 1) i = bif p (gt l i) then g (gt l i) else L n ((i : Int) + 1)) (done : ∀ n, L (n + 1) l.length = k) :
  ∀ n, l.length < n -> L n 0 = match l.find? p with | some x => g x | none => k := by
 intro n hn
 refine z6y (fun n i (_ : Unit) => L n i) l.length (fun i _ => ∀ x ∈ l.take i, p x = false) (fun o => o = match l.find? p with | some x => g x | none => k) ?_ ?_ n () (by simp) hn
 ·intro n i _ hi hI hs
  simp only [step n i hi]
  cases e : p (gt l (i : Int)) with
  | false =>
   refine hs () ?_
   rw [z8c l i hi]
   intro x hx
   rcases List.mem_append.1 hx with h | h
   ·exact hI x h
   ·simp at h; rw [h]; exact e
  | true =>
   have : l.find? p = some (gt l (i : Int)) := by
    have h1 : l = l.take i ++ (gt l (i : Int) :: l.drop (i + 1)) := by
     rw [zon hi, List.getElem_cons_drop, List.take_append_drop]
    generalize gt l (i : Int) = y at *
    rw [h1, List.find?_append, List.find?_eq_none.2 (fun x hx => by simp [hI x hx])]
    simp [List.find?_cons, e]
   rw [this]; rfl
 ·intro n _ hI
  simp only [done]
  rw [List.take_length] at hI
  rw [List.find?_eq_none.2 (fun x hx => by simp [hI x hx])]
theorem y6i {α ρ : Type} (l : List α) (p : α -> Bool) (r k : ρ) : (match l.find? p with | some _ => r | none => k) = bif l.any p then r else k := by
 induction l with
 | nil => rfl
 | cons x l ih =>
  rw [List.find?_cons, List.any_cons]
  cases p x
  ·simpa using ih
  ·rfl
theorem zsg {α ρ : Type} [Inhabited α] (L : Nat -> Int -> Option ρ) (k r : Option ρ) (l : List α) (p : α -> Bool)
  (step : ∀ n i : Nat, i < l.length -> L (n + 1) i = bif p (gt l i) then r else L n ((i : Int) + 1)) (done : ∀ n, L (n + 1) l.length = k)
  (n : Nat) (hn : l.length < n) : L n 0 = bif l.any p then r else k := by
 rw [y1v L k l p (fun _ => r) step done n hn, y6i]
theorem zeh {α σ ρ : Type} [Inhabited α] (L : Nat -> Int -> σ -> Option ρ) (k : σ -> Option ρ) (l : List α) (f : σ -> α -> σ) (Inv : Nat -> σ -> Prop)
  (step : ∀ (n i : Nat) (s : σ), i < l.length -> Inv i s -> L (n + 1) i s = L n ((i : Int) + 1) (f s (gt l i)) /\ Inv (i + 1) (f s (gt l i))) (done : ∀ n s, Inv l.length s -> L (n + 1) l.length s = k s)
  (n : Nat) (s : σ) (h0 : Inv 0 s) (hn : l.length < n) : L n 0 s = k (l.foldl f s) /\ Inv l.length (l.foldl f s) := by
 refine z6y L l.length (fun i t => t = (l.take i).foldl f s /\ Inv i t) (fun o => o = k (l.foldl f s) /\ Inv l.length (l.foldl f s)) ?_ ?_ n s ⟨by simp, h0⟩ hn
 ·intro n i t hi ⟨ht, hI⟩ hs
  rw [(step n i t hi hI).1]
  refine hs _ ⟨?_, (step n i t hi hI).2⟩
  rw [z8c l i hi, List.foldl_append, <- ht]; rfl
 ·intro n t ⟨ht, hI⟩
  rw [List.take_length] at ht
  subst ht
  exact ⟨done n _ hI, hI⟩
def bet (a b c : Int) : Bool := decide (b <= a) && decide (a <= c)
theorem y3x {a b c : Int} : bet a b c = true ↔ b <= a /\ a <= c := by simp [bet]
theorem y3u {a b c : Int} (h : bet a b c = true) : b <= a /\ a <= c := y3x.1 h
theorem yba {x y z : Int} : min2 x y < z ↔ x < z \/ y < z := by unfold min2; split <;> omega
end Px
end
section
namespace Px
open Go
set_option linter.unusedVariables false
set_option linter.unusedSimpArgs false
theorem zc9 {a b : Int} : cmpI a b < 0 ↔ a < b := by unfold cmpI; (repeat' split) <;> omega
theorem zin {a b : Int} : cmpI a b = 0 ↔ a = b := by unfold cmpI; (repeat' split) <;> omega
theorem zot {a b : Int} : or2 a b < 0 ↔ a < 0 \/ (a = 0 /\ b < 0) := by unfold or2; split <;> omega
theorem zeo {a b : Part} : zj0 a b < 0 ↔ a.kind < b.kind \/ (a.kind = b.kind /\ a.serial < b.serial) := by
 unfold zj0; rw [zot, zc9, zc9, zin]
theorem zz4 : Sort.SWO (Proofs.ltOf fun a b : {y : Part // (fun _ : Part => true) y = true} => zj0 a.1 b.1) where
 irrefl := fun x => by simp only [Proofs.ltOf, decide_eq_false_iff_not]; rw [zeo]; omega
 trans := fun x y z h1 h2 => by simp only [Proofs.ltOf, decide_eq_true_eq] at *; rw [zeo] at *; omega
 ntrans := fun x y z h1 h2 => by simp only [Proofs.ltOf, decide_eq_false_iff_not] at *; rw [zeo] at *; omega
theorem zc4 (φ : Nat) (a b : Int) : z1g φ a b = some (cmpI a b, ()) := by
 unfold z1g cmpI
 simp only [bne_self_eq_false, Bool.false_eq_true, if_false, decide_eq_true_eq]
 split
 ·rfl
 ·split <;> rfl
theorem zzw (φ : Nat) (h : 3 <= φ) (a b : Int) : zfs φ [a, b] = some (or2 a b, ()) := by
 obtain ⟨n, rfl⟩ : ∃ n, φ = n + 3 := ⟨φ - 3, by omega⟩
 unfold zfs or2
 simp only [zae, List.length_cons, List.length_nil]
 have w : ∀ x : Int, 0 <= x -> x < 100 -> W (x + 1) = x + 1 := fun x h1 h2 => W_id (by omega) (by omega)
 have g0 : gt [a, b] 0 = a := rfl
 have g1 : gt [a, b] 1 = b := rfl
 rw [w 0 (by omega) (by omega), show (0 : Int) + 1 = 1 by rfl, w 1 (by omega) (by omega), show (1 : Int) + 1 = 2 by rfl, g0, g1]
 simp [ck]
 repeat' (split; try rfl)
 all_goals simp_all
theorem zvt (a b : Part) : zcs 10 a b = some (zj0 a b, ()) := by
 unfold zcs zj0
 simp only [zc4, Option.bind_some]
 rw [zzw 10 (by omega)]
 rfl
theorem zyl {α : Type} {ok : α -> Bool} {cf : α -> α -> Int} (ho : ∀ a b c, cf a b >= 0 -> cf b c >= 0 -> cf a c >= 0) (hi : ∀ a, cf a a >= 0) (ht : ∀ a b c, cf a b < 0 -> cf b c < 0 -> cf a c < 0) {l l' : List α} (p : l.Perm l') : zmb ok cf l = zmb ok cf l' := by
 have hs : Sort.SWO (fun a b : α => decide (cf a b < 0)) :=
  ⟨fun a => by have := hi a; simp; omega, fun a b c h1 h2 => by simp at *; exact ht a b c h1 h2, fun a b c h1 h2 => by simp at *; exact ho a b c h1 h2⟩
 have key : ∀ l l' r : List α, l.Perm l' -> zmb ok cf l = some r -> zmb ok cf l' = some r := by
  intro l l' r p h
  obtain ⟨h1, h2, h3, rfl⟩ := ztw h
  have h3' : l.Pairwise fun a b => cf a b < 0 \/ cf b a < 0 := h3.imp fun h => by simpa using h
  rw [y5d (fun y hy => h1 y (p.mem_iff.2 hy)) (by rw [<- p.length_eq]; exact h2) ((p.pairwise_iff (fun {a b} h => h.symm)).1 h3')]
  rw [zqm (l := l) h3 ((z5o _ _).trans p.symm) (z5o _ _) (zal hs _) (zal hs _)]
 cases h : zmb ok cf l with
 | some r => exact (key l l' r p h).symm
 | none =>
  cases h' : zmb ok cf l' with
  | none => rfl
  | some r => rw [key l' l r p.symm h'] at h; cases h
theorem zrs {l l' : List Part} (p : l.Perm l') : zn5 l = zn5 l' := by
 have hlt : ∀ a b : Part, zj0 a b >= 0 -> ¬ (a.kind < b.kind \/ (a.kind = b.kind /\ a.serial < b.serial)) := fun a b h q => by have := zeo.2 q; omega
 have hge : ∀ a b : Part, ¬ (a.kind < b.kind \/ (a.kind = b.kind /\ a.serial < b.serial)) -> zj0 a b >= 0 := fun a b h => Int.not_lt.1 fun q => h (zeo.1 q)
 refine zyl (fun a b c h1 h2 => ?_) (fun a => hge a a (by omega)) (fun a b c h1 h2 => ?_) p
 ·have := hlt _ _ h1
  have := hlt _ _ h2
  exact hge _ _ (by omega)
 ·rw [zeo] at *; omega
theorem zid (φ : Nat) : ∀ (n : Nat) (w : Int) (p p' : List Part) (rem : List (z6 × List (Int × Bool))), p.Perm p' -> zp φ n w p rem = zp φ n w p' rem
 | 0, w, p, p', rem, h => rfl
 | n + 1, w, p, p', [], h => by simp only [zp, z0b, zrs h]
 | n + 1, w, p, p', e :: r, h => by
  simp only [zp, z0b, z08, Option.bind_some, h.length_eq]
  rw [zid φ n w p p' r h, zid φ n w _ _ r (h.append_right [_])]
theorem zpo (φ : Nat) {rem rem' : List (z6 × List (Int × Bool))} (h : rem.Perm rem') : ∀ (n : Nat) (w : Int) (p : List Part), zp φ n w p rem = zp φ n w p rem' := by
 induction h with
 | nil => intros; rfl
 | cons e h ih =>
  intro n w p
  cases n with
  | zero => rfl
  | succ n => simp only [zp, z0b, z08, Option.bind_some]; rw [ih n w p, ih n w (p ++ _)]
 | swap a b r =>
  intro n w p
  match n with
  | 0 => rfl
  | 1 =>
   simp only [zp, z0b, z08, Option.bind_some, ck]
   repeat' split
   all_goals rfl
  | n + 2 =>
   simp only [zp, z0b, z08, Option.bind_some]
   cases hb : (((b.2.length : Int) == 1) && ((cget kl_0 b.2 w).getD default)) <;> cases ha : (((a.2.length : Int) == 1) && ((cget kl_0 a.2 w).getD default))
   ·simp
   ·simp
   ·simp
   ·simp only [if_true, List.append_assoc, List.cons_append, List.nil_append]
    have h := zid φ n w (p ++ [⟨b.1.kind, b.1.serial, true⟩, ⟨a.1.kind, a.1.serial, true⟩]) (p ++ [⟨a.1.kind, a.1.serial, true⟩, ⟨b.1.kind, b.1.serial, true⟩]) r (List.Perm.append_left p (List.Perm.swap _ _ _))
    simp only [List.length_append, List.length_cons, List.length_nil]
    rw [h]
 | trans h1 h2 ih1 ih2 => intro n w p; rw [ih1, ih2]
theorem zmu (φ : Nat) {rem rem' : List (Int × Bool)} (h : rem.Perm rem') (hd : Ndp kl_0 rem) (k20) : ∀ (n : Nat) (a b c d e f g i) (m : List (Int × Bool)), Srt' kl_0 m -> z05 φ k20 n a b c d e f g i m rem = z05 φ k20 n a b c d e f g i m rem' := by
 induction h with
 | nil => intros; rfl
 | cons x h ih =>
  intro n a b c d e f g i m hm
  cases n with
  | zero => rfl
  | succ n => simp only [z05, z2z]; exact ih (List.pairwise_cons.1 hd).2 n _ _ _ _ _ _ _ _ _ (hm.set _ _)
 | swap x y r =>
  intro n a b c d e f g i m hm
  have hne : kl_0 y.1 ≠ kl_0 x.1 := (List.pairwise_cons.1 hd).1 x (by simp)
  match n with
  | 0 => rfl
  | 1 => rfl
  | n + 2 =>
   simp only [z05, z2z]
   rw [y0n hm hne]
 | trans h1 h2 ih1 ih2 => intro n a b c d e f g i m hm; rw [ih1 hd n _ _ _ _ _ _ _ _ m hm, ih2 (hd.perm h1) n _ _ _ _ _ _ _ _ m hm]
end Px
end
section
namespace Px
open Go Go.RowKit
set_option linter.unusedVariables false
set_option linter.unusedSimpArgs false
section
variable {κ ν : Type} {e : κ -> List Int} {num : κ -> Int}
theorem y0z (he : ∀ k, e k = [num k]) {m : List (κ × ν)} (h : Srt' e m) : (m.map fun p => num p.1).Pairwise fun a b => a < b := by
 rw [List.pairwise_map]
 refine List.Pairwise.imp (fun {a b} hab => ?_) h
 rw [he, he] at hab
 simp only [ltI] at hab
 cases hd : decide (num a.1 < num b.1) with
 | true => exact of_decide_eq_true hd
 | false =>
  rw [hd] at hab
  simp only [cond_false] at hab
  cases hb : (num a.1 == num b.1) with
  | true => rw [hb] at hab; simp at hab
  | false => rw [hb] at hab; simp at hab
theorem y00 {ss l : List Int} (hp : ss.Perm l) (hl : l.Pairwise fun a b => a < b) : ss.mergeSort (fun x y => decide (x <= y)) = l := by
 refine List.Perm.eq_of_pairwise (le := fun a b : Int => a <= b) (fun a b _ _ h1 h2 => by omega) ?_ (hl.imp fun h => by omega) ((List.mergeSort_perm _ _).trans hp)
 have := List.pairwise_mergeSort (le := fun x y : Int => decide (x <= y)) (by intro a b c h1 h2; simp at *; omega) (by intro a b; simp; omega) ss
 exact this.imp fun h => by simpa using h
theorem yaj {P : Program} {kt : TypeId} {eK : κ -> Value} {eV : ν -> Value} {w : World} {b : Nat} {m : List (κ × ν)} (hk : P.underlying kt = some (.int .i64)) (he : ∀ k, e k = [num k]) (hK : ∀ k, eK k = .int .i64 (num k))
  (hin : ∀ p ∈ m, -9223372036854775808 <= num p.1 /\ num p.1 < 9223372036854775808) (hl : m.length <= 17592186044416) (h : CM w b e eK eV m) :
  ∃ D0 : DataW Unit, w.ownsMap P kt (fun _ => some (.lit (.bool false), [])) b m.length D0 /\ Maps.size D0 = m.length /\ (intKeys D0).Perm (m.map fun p => num p.1) := by
 obtain ⟨hs, es, clock, m', h1, h2, h3, h4⟩ := h
 have hlen : es.toList.length = m.length := by
  have := congrArg List.length h4
  simp only [List.length_map] at this
  rw [this, h3.length_eq]
 have hkeys : es.toList.map (·.key) = m'.map fun p => Value.int .i64 (num p.1) := by
  have := congrArg (List.map (·.1)) h4
  simpa [Function.comp_def, hK] using this
 have hmem : ∀ x ∈ es.toList, ∃ n, x.key = .int .i64 n /\ -9223372036854775808 <= n /\ n < 9223372036854775808 := by
  intro x hx
  have : x.key ∈ es.toList.map (·.key) := List.mem_map.2 ⟨x, hx, rfl⟩
  rw [hkeys] at this
  obtain ⟨p, hp, e1⟩ := List.mem_map.1 this
  exact ⟨_, e1.symm, hin p (h3.mem_iff.1 hp)⟩
 have hrd : ∀ n : Int, -9223372036854775808 <= n -> n < 9223372036854775808 -> keyOf P kt (.int .i64 n) = some (.int .i64 n) := by
  intro n ha hb
  have hw : (Lit.int .i64 n).wf = true := by
   simp only [Lit.wf, Bool.and_eq_true, decide_eq_true_eq]
   have e1 : IntKind.i64.min = -9223372036854775808 := rfl
   have e2 : IntKind.i64.max = 9223372036854775807 := rfl
   rw [e1, e2]; omega
  simp [keyOf, hk, mapKey, hw]
 have hrd2 : ∀ x ∈ es.toList, ∀ n, x.key = .int .i64 n -> WideElems.rd P kt (fun _ => some ((.lit (.bool false) : DataW Unit), [])) x = some (.int .i64 n, .lit (.bool false)) := by
  intro x hx n hn
  obtain ⟨n', e1, ha, hb⟩ := hmem x hx
  rw [hn] at e1
  cases e1
  simp [WideElems.rd, hn, hrd n ha hb]
 have hints : es.toList.map (fun x => Go.intOf (WideElems.rg P kt (fun _ => some ((.lit (.bool false) : DataW Unit), [])) x).1) = m'.map fun p => num p.1 := by
  have e1 : es.toList.map (fun x => Go.intOf (WideElems.rg P kt (fun _ => some ((.lit (.bool false) : DataW Unit), [])) x).1) = (es.toList.map (·.key)).map fun v => match v with | .int _ n => n | _ => 0 := by
   rw [List.map_map]
   refine List.map_congr_left fun x hx => ?_
   obtain ⟨n, e1, _⟩ := hmem x hx
   simp only [WideElems.rg, hrd2 x hx n e1, Option.getD_some, Function.comp, e1, Go.intOf]
  rw [e1, hkeys, List.map_map]
  rfl
 refine ⟨.map ((es.toList.map (WideElems.rg P kt fun _ => some (.lit (.bool false), []))).foldr DataW.insert []), ⟨es, clock, h1, ⟨?_, ⟨h2.lt, h2.nd, ?_⟩, fun x hx => ?_⟩, ?_, rfl⟩, ?_, ?_⟩
 ·have : es.size = m.length := by simpa using hlen
  unfold maxLen; omega
 ·rw [hkeys]
  have h5 := y0z (num := num) he hs
  have h6 : (m'.map fun p => num p.1).Nodup := (h3.map (fun p : κ × ν => num p.1)).nodup_iff.2 (List.Pairwise.imp (fun {a b} h => by omega) h5)
  have h7 : (m'.map fun p => Value.int .i64 (num p.1)) = (m'.map fun p => num p.1).map (Value.int .i64) := by rw [List.map_map]; rfl
  rw [h7]
  exact List.pairwise_map.2 (List.Pairwise.imp (fun {a b} h q => h (by cases q; rfl)) h6)
 ·obtain ⟨n, e1, _⟩ := hmem x hx
  exact ⟨_, hrd2 x hx n e1⟩
 ·have : es.size = m.length := by simpa using hlen
  omega
 ·rw [Maps.size_eq, (WideShapes.sorted_perm _).length_eq]
  simpa using hlen
 ·show (List.map (fun p : Lit × DataW Unit => Go.intOf p.1) _).Perm _
  refine ((WideShapes.sorted_perm _).map _).trans ?_
  rw [List.map_map]
  show (es.toList.map (fun x => Go.intOf (WideElems.rg P kt (fun _ => some ((.lit (.bool false) : DataW Unit), [])) x).1)).Perm _
  rw [hints]
  exact h3.map _
end
open Proofs in
theorem yfs {V : TE} {P : Program} {ρ σ τ : Shelf.Ren} (L : SlLaysZI.n6 P ρ) (K : SlLaysZI.n10 P σ) (S : Lays.n189 P τ) {kc vc E : Nat} (num : V.T kc -> Int) (hl : ∀ k, V.kl kc k = [num k]) (hv : ∀ k, V.kv kc k = .int .i64 (num k)) (hev : ∀ k, V.ev kc k = [iv .i64 (num k)]) (hsz : V.sz kc = 1)
  (h9 : ρ.f 9 = τ.f 189) (h26 : ρ.t 26 = E) (e9 : ∀ args w, (callFunc (ρ.f 9) args).run P w = .ok (.enter (ρ.f 9) args) w) (eg : ∀ args w, (callFunc (σ.f 10) args).run P w = .ok (.enter (σ.f 10) args) w) : SoOK V P (ρ.f 6) ⟨σ.f 10, kc, vc, E⟩ := by
 intro m hm
 simp only [soK, Bool.and_eq_true, List.all_eq_true] at hm
 obtain ⟨hin, hlen⟩ := hm
 have hlen := Nat.le_of_ble_eq_true hlen
 have hin : ∀ p ∈ m, -9223372036854775808 <= num p.1 /\ num p.1 < 9223372036854775808 := by
  intro p hp
  have := hin p hp
  rw [hl] at this
  simpa [inI] using this
 intro r w vs hr hsize hA
 obtain ⟨caps, hfn, hc1, hc2⟩ := hA 0 _ rfl
 obtain ⟨Bm, hcap, hrB, hcell⟩ := hc2 0 _ rfl
 obtain ⟨u, hu, hmap, _⟩ := hcell 0 _ rfl
 have hcaps : caps = #[.pointer (some ⟨Bm, 0, none⟩)] := by
  refine Array.ext (by simpa using hc1) fun i h1 h2 => ?_
  have : i = 0 := by simp at h2; omega
  subst this
  rw [<- hcap]; simp [Array.getD_eq_getD_getElem?, h1]
 subst hcaps
 have hvs : vs = #[.func (.func (σ.f 10)) #[] #[.pointer (some ⟨Bm, 0, none⟩)]] := by
  refine Array.ext (by simpa using hsize) fun i h1 h2 => ?_
  have : i = 0 := by simp at h2; omega
  subst this
  rw [<- hfn]; simp [Array.getD_eq_getD_getElem?, h1]
 subst hvs
 have hBm := hr Bm hrB
 have hsorts : AnyZI.SortsIn P ρ Fence.wide 4 := by
  refine ⟨fun blk off cap ss W hH hb hs => callsIn_wide.2 ?_, fun p cap W => callsIn_wide.2 ?_⟩
  ·rw [h9]; exact Any.slices_Sort_int S blk off cap ss W hH hb hs
  ·rw [h9]; exact Any.slices_Sort_int_none S p cap W
 have fin : ∀ (Sq : List Int -> Prop), (∀ ss, Sq ss -> ss.Perm (m.map fun p => num p.1)) -> (m.map fun p => num p.1).Pairwise (fun a b => a < b) -> SeqGives Fence.wide 2 P (σ.f 10) #[.pointer (some ⟨Bm, 0, none⟩)] encZ Sq m.length w ->
   Calls P (ρ.f 6) #[.func (.func (σ.f 10)) #[] #[.pointer (some ⟨Bm, 0, none⟩)]] w (retR w w.heap.size r w fun x news => ∃ sv, x = eqv sv /\ news = [row E (V.ev kc) (V.sz kc) (m.map (·.1)) sv]) := by
  intro Sq hSq hlt hseq
  have cS := AnyZI.sorted_in L Fence.wide 5 trivial trivial trivial trivial rfl (by omega) hsorts e9 (σ.f 10) #[.pointer (some ⟨Bm, 0, none⟩)] trivial eg Sq m.length (by unfold maxLen; omega) (by omega) w hseq
  refine (callsIn_wide.1 cS).mono ?_
  rintro e w' ⟨v, ss, rfl, hS, hrow, hnil, hb⟩
  have hms := y00 (hSq ss hS) hlt
  have hsl : ss.length = m.length := by rw [(hSq ss hS).length_eq, List.length_map]
  rw [hms] at hrow
  refine ⟨v, eqv v, [row E (V.ev kc) (V.sz kc) (m.map (·.1)) v], r, fun j b => j = 0 /\ v.ownBlock = some b, rfl, ⟨fun _ h => h, fun b hb' => hb.block b (hr b hb'), fun _ h => .inl h⟩, ⟨⟨hb, fun h => (h : False).elim⟩, hb.size, ?_, ?_, ?_, fun b hb' => Nat.lt_of_lt_of_le (hr b hb') hb.size⟩, rfl, v, rfl, rfl⟩
  ·intro i H hi
   cases i with
   | succ i => simp at hi
   | zero =>
    simp only [List.getElem?_cons_zero, Option.some.injEq] at hi
    subst hi
    rcases hrow.2 with ⟨h1, h2⟩ | ⟨g, cap, cur, h1, h2, h3, h4, h5, h6, h7⟩
    ·exact .inl ⟨h1, by rw [List.map_eq_nil_iff]; exact List.length_eq_zero_iff.1 (by omega)⟩
    ·refine .inr ⟨g, cap, cur, ?_, ⟨rfl, by rw [h1]; rfl⟩, ?_, ?_, h5, ?_, ?_⟩
     ·rw [h1, List.length_map, hsl]
     ·rw [<- h26]; exact h3
     ·rw [List.length_map]; omega
     ·rw [hsz]; exact h6
     ·rw [List.length_map, hsz, <- hsl, h7]
      have e1 : (m.map (·.1)).flatMap (V.ev kc) = ((m.map fun p => num p.1).map encZ).map eqv := by
       rw [List.map_map, List.map_map, List.flatMap_map]
       have : ∀ l : List (V.T kc × V.T vc), l.flatMap (fun a => V.ev kc a.1) = l.map ((eqv ∘ encZ) ∘ fun p => num p.1) := by
        intro l
        induction l with
        | nil => rfl
        | cons a l ih => rw [List.flatMap_cons, ih, hev]; rfl
       exact this m
      rw [e1]
      exact zkn fun v hv => by
       obtain ⟨n, _, rfl⟩ := List.mem_map.1 hv
       rfl
  ·rintro i b ⟨rfl, hb'⟩
   rcases hrow.2 with ⟨h1, _⟩ | ⟨g, cap, cur, h1, h2, h3, _⟩
   ·rw [h1] at hb'; cases hb'
   ·rw [h1] at hb'
    cases hb'
    exact ⟨by simp, h2, (Array.getElem?_eq_some_iff.1 h3).1, fun q => Nat.lt_irrefl _ (Nat.lt_of_lt_of_le (hr _ q) h2)⟩
  ·rintro i j b ⟨rfl, _⟩ ⟨rfl, _⟩; rfl
 rcases hmap with ⟨rfl, rfl⟩ | ⟨b, t, rfl, hmt, hrb, hCM, _⟩
 ·refine fin (fun ss => ss = []) (fun ss h => by subst h; exact List.Perm.refl _) List.Pairwise.nil ?_
  exact AnyZI.keys_gives_nil { K with } Fence.wide _ trivial rfl Bm w hBm hu
 ·have hnum : (t.map fun p => num p.1) = m.map fun p => num p.1 := by rw [<- hmt, List.map_map]; rfl
  have htl : t.length = m.length := by rw [<- hmt, List.length_map]
  obtain ⟨D0, h1, h2, h3⟩ := yaj (num := num) K.t26 hl hv (fun p hp => hin (p.1, p.2.1) (by rw [<- hmt]; exact List.mem_map.2 ⟨p, hp, rfl⟩)) (by omega) hCM
  refine fin (fun ss => ss.Perm (intKeys D0)) (fun ss h => by rw [<- hnum]; exact h.trans h3) (by rw [<- hnum]; exact y0z hl hCM.1) ?_
  have := AnyZI.keys_gives { K with } Fence.wide 2 trivial rfl (by omega) Bm b _ D0 w hBm hu h1
  rw [h2, htl] at this
  exact this
end Px
end
section
set_option linter.unusedVariables false
set_option linter.unusedSimpArgs false
set_option maxHeartbeats 4000000
set_option maxRecDepth 100000
namespace Px
open Go Go.RowKit Go.Proofs
def ze0 (φ : Nat) : H TV (RTup TT [.val 2]) := .x
def zgv (P : Program) (φ : Nat) : Env TV := ⟨P, lk [], lk [], lk [], lk []⟩
theorem zso (φ : Nat) (a) : (zdp φ).F a = fnX TV (zgv Tryz.prog φ) φ Tryz.f26 [0, 1] [.val 2] (ze0 φ) a := by kernel_rfl
theorem ztb (φ : Nat) : fnO TV (zgv Tryz.prog φ) φ Tryz.f26 [.val 2] (ze0 φ) := by
 unfold fnO
 show obl _ _ _ _ _ _ _
 unfold ze0
 repeat' (first | exact trivial | (refine ⟨?_, ?_⟩) | (intro _) | kernel_rfl)
theorem zlm [Dr] (φ : Nat) : z2d TV Tryz.prog 26 (zdp φ) :=
 z3i (N := zgv Tryz.prog φ) (zl trivial trivial trivial trivial) (ze0 φ) Tryz.func26 (by kernel_rfl) (zso φ) (ztb φ)
def z7y (φ : Nat) : H TV (RTup TT [.val 7]) := .x
def zar (P : Program) (φ : Nat) : Env TV := ⟨P, lk [], lk [], lk [], lk []⟩
theorem zmr (φ : Nat) (a) : (zb6 φ).F a = fnX TV (zar Tryz.prog φ) φ Tryz.f25 [0, 0, 0, 2] [.val 7] (z7y φ) a := by kernel_rfl
theorem zm1 (φ : Nat) : fnO TV (zar Tryz.prog φ) φ Tryz.f25 [.val 7] (z7y φ) := by
 unfold fnO
 show obl _ _ _ _ _ _ _
 unfold z7y
 repeat' (first | exact trivial | (refine ⟨?_, ?_⟩) | (intro _) | kernel_rfl)
theorem zmz [Dr] (φ : Nat) : z2d TV Tryz.prog 25 (zb6 φ) :=
 z3i (N := zar Tryz.prog φ) (zl trivial trivial trivial trivial) (z7y φ) Tryz.func25 (by kernel_rfl) (zmr φ) (zm1 φ)
def z0n (φ : Nat) : H TV (List (TT 7)) := (.seq .x (.body (.loop ⟨[(53, [(0, .own 0), (1, .val 0), (2, .val 0), (3, .cmp 7), (8, .val 0)]), (1, [(0, .own 0)])], [.row 57 7]⟩ (fun n z => z2a φ n z.1 z.2.1 z.2.2.1 z.2.2.2.1 z.2.2.2.2.1) (fun zk10 => (.seq .x (.seq (.body (.seq .x (.body (.loop ⟨[(53, [(0, .own 0), (1, .val 0), (2, .val 0), (3, .cmp 7), (8, .val 0), (9, .val 0)]), (1, [(0, .own 0)])], [.row 57 7]⟩ (fun n z => z2b φ (fun a0 a1 a2 a3 a4 => zk10 (a0, a1, a2, a3, a4, ())) n z.1 z.2.1 z.2.2.1 z.2.2.2.1 z.2.2.2.2.1 z.2.2.2.2.2.1) (fun zk17 => .x))))) .x))))))
def z3c (P : Program) (φ : Nat) : Env TV := ⟨P, lk [], lk [], lk [], lk []⟩
theorem zbf (φ : Nat) (l a) : (z37 φ).F l a = fnM TV (z3c Tryz.prog φ) φ Tryz.f114 57 7 [.val 0, .val 0, .cmp 7] (z0n φ) l a := by kernel_rfl
theorem zbe (φ : Nat) : fnMO TV (z3c Tryz.prog φ) φ Tryz.f114 57 7 (z0n φ) := by
 unfold fnMO
 show obl _ _ _ _ _ _ _
 unfold z0n
 repeat' (first | exact trivial | (refine ⟨?_, ?_⟩) | (intro _) | kernel_rfl)
theorem zb9 [Dr] (φ : Nat) : zd3 TV Tryz.prog 114 (z37 φ) := z9i (N := z3c Tryz.prog φ) (zl trivial trivial trivial trivial) (z0n φ) Tryz.func114 (by kernel_rfl) (zbf φ) (zbe φ)
def z2k (φ : Nat) : H TV (List (TT 7)) := (.seq .x (.body (.loop ⟨[(38, [(0, .own 0), (1, .val 0), (2, .val 0), (3, .val 0), (10, .val 0)]), (1, [(0, .own 0)])], [.row 57 7]⟩ (fun n z => z4a φ n z.1 z.2.1 z.2.2.1 z.2.2.2.1 z.2.2.2.2.1) (fun zk11 => .x))))
def z5f (P : Program) (φ : Nat) : Env TV := ⟨P, lk [], lk [], lk [], lk []⟩
theorem ze3 (φ : Nat) (l a) : (z5b φ).F l a = fnM TV (z5f Tryz.prog φ) φ Tryz.f173 57 7 [.val 0, .val 0, .val 0, .cmp 7] (z2k φ) l a := by kernel_rfl
theorem zee (φ : Nat) : fnMO TV (z5f Tryz.prog φ) φ Tryz.f173 57 7 (z2k φ) := by
 unfold fnMO
 show obl _ _ _ _ _ _ _
 unfold z2k
 repeat' (first | exact trivial | (refine ⟨?_, ?_⟩) | (intro _) | kernel_rfl)
theorem ze5 [Dr] (φ : Nat) : zd3 TV Tryz.prog 173 (z5b φ) := z9i (N := z5f Tryz.prog φ) (zl trivial trivial trivial trivial) (z2k φ) Tryz.func173 (by kernel_rfl) (ze3 φ) (zee φ)
def z4e (φ : Nat) : H TV (List (TT 7)) := (.seq .x (.seq .x (.seq (.body (.loop ⟨[(58, [(0, .own 0), (2, .val 0), (4, .cmp 7), (10, .val 0), (11, .val 0)]), (1, [(0, .own 0)])], [.row 57 7]⟩ (fun n z => z36 φ n z.1 z.2.1 z.2.2.1 z.2.2.2.1 z.2.2.2.2.1) (fun zk11 => .x))) .x)))
def z69 (P : Program) (φ : Nat) : Env TV := ⟨P, lk [], lk [(173, z5b φ)], lk [], lk []⟩
theorem zfz (φ : Nat) (l a) : (z64 φ).F l a = fnM TV (z69 Tryz.prog φ) φ Tryz.f155 57 7 [.val 0, .val 0, .val 0, .cmp 7] (z4e φ) l a := by kernel_rfl
theorem zfy (φ : Nat) : fnMO TV (z69 Tryz.prog φ) φ Tryz.f155 57 7 (z4e φ) := by
 unfold fnMO
 show obl _ _ _ _ _ _ _
 unfold z4e
 repeat' (first | exact trivial | (refine ⟨?_, ?_⟩) | (intro _) | kernel_rfl)
theorem zg1 [Dr] (φ : Nat) : zd3 TV Tryz.prog 155 (z64 φ) := z9i (N := z69 Tryz.prog φ) (zl trivial ⟨(ze5 φ), trivial⟩ trivial trivial) (z4e φ) Tryz.func155 (by kernel_rfl) (zfz φ) (zfy φ)
def z34 (φ d : Nat) : H TV (List (TT 7)) := (.seq (.seq .x (.cond (.seq .x (.seq .x (.seq (.body (.loop ⟨[(220, [(0, .own 0), (1, .val 0), (4, .cmp 7), (10, .val 0), (11, .val 0)]), (1, [(0, .own 0)])], [.row 57 7]⟩ (fun n z => z1t φ n z.1 z.2.1 z.2.2.1 z.2.2.2.1 z.2.2.2.2.1) (fun zk11 => .x))) (.seq (.seq .x (.body (.loop ⟨[(220, [(0, .own 0), (10, .val 0), (13, .val 0)]), (1, [(0, .own 0)])], [.row 57 7]⟩ (fun n z => z4i φ n z.1 z.2.1 z.2.2.1) (fun zk16 => .x)))) .x)))) .x)) (.seq (.seq .x (.cond (.seq .x (.seq .x (.seq (.body (.loop ⟨[(220, [(0, .own 0), (2, .val 0), (4, .cmp 7), (14, .val 0), (15, .val 0)]), (1, [(0, .own 0)])], [.row 57 7]⟩ (fun n z => z1s φ n z.1 z.2.1 z.2.2.1 z.2.2.2.1 z.2.2.2.2.1) (fun zk22 => .x))) (.seq (.seq .x (.body (.loop ⟨[(220, [(0, .own 0), (14, .val 0), (17, .val 0)]), (1, [(0, .own 0)])], [.row 57 7]⟩ (fun n z => z4m φ n z.1 z.2.1 z.2.2.1) (fun zk27 => .x)))) .x)))) .x)) (.seq .x (.seq .x (.seq .x (.seq (.join ⟨[(220, [(0, .own 0), (1, .val 0), (2, .val 0), (3, .val 0), (4, .cmp 7), (18, .val 0), (19, .val 0), (20, .val 0), (21, .val 0)]), (1, [(0, .own 0)])], [.row 57 7]⟩ (fun z => z4l φ (zq φ d) z.1 z.2.1 z.2.2.1 z.2.2.2.1 z.2.2.2.2.1 z.2.2.2.2.2.1 z.2.2.2.2.2.2.1 z.2.2.2.2.2.2.2.1 z.2.2.2.2.2.2.2.2.1) (.seq .x .x)) (.seq .x (.seq (.body (.loop ⟨[(220, [(0, .own 0), (1, .val 0), (2, .val 0), (3, .val 0), (4, .cmp 7), (18, .val 0), (19, .val 0), (20, .val 0), (21, .val 0), (22, .val 0)]), (1, [(0, .own 0)])], [.row 57 7]⟩ (fun n z => z1u φ (zq φ d) n z.1 z.2.1 z.2.2.1 z.2.2.2.1 z.2.2.2.2.1 z.2.2.2.2.2.1 z.2.2.2.2.2.2.1 z.2.2.2.2.2.2.2.1 z.2.2.2.2.2.2.2.2.1 z.2.2.2.2.2.2.2.2.2.1) (fun zk48 => .x))) (.seq .x (.seq (.join ⟨[(220, [(0, .own 0), (1, .val 0), (3, .val 0), (4, .cmp 7), (18, .val 0), (20, .val 0), (24, .val 0)]), (1, [(0, .own 0)])], [.row 57 7]⟩ (fun z => z4j φ (zq φ d) z.1 z.2.1 z.2.2.1 z.2.2.2.1 z.2.2.2.2.1 z.2.2.2.2.2.1 z.2.2.2.2.2.2.1) (.seq .x .x)) (.seq (.join ⟨[(220, [(0, .own 0), (3, .val 0), (4, .cmp 7), (18, .val 0), (24, .val 0)]), (1, [(0, .own 0)])], [.row 57 7]⟩ (fun z => z4g φ (zq φ d) z.1 z.2.1 z.2.2.1 z.2.2.2.1 z.2.2.2.2.1) (.seq .x .x)) .x)))))))))))
def z5l (P : Program) (φ d : Nat) : Env TV := ⟨P, lk [], lk [(155, z64 φ), (115, z30 φ d)], lk [], lk []⟩
theorem zer (φ d : Nat) (l a) : (z30 φ (d + 1)).F l a = fnM TV (z5l Tryz.prog φ d) φ Tryz.f115 57 7 [.val 0, .val 0, .val 0, .cmp 7] (z34 φ d) l a := by kernel_rfl
theorem zei (φ d : Nat) : fnMO TV (z5l Tryz.prog φ d) φ Tryz.f115 57 7 (z34 φ d) := by
 unfold fnMO
 show obl _ _ _ _ _ _ _
 unfold z34
 repeat' (first | exact trivial | (refine ⟨?_, ?_⟩) | (intro _) | kernel_rfl)
theorem z8a [Dr] (φ : Nat) : ∀ d, zd3 TV Tryz.prog 115 (z30 φ d)
 | 0 => fun l a l2 sv h => absurd (show (none : Option (List (TT 7))) = some l2 from h) (fun q => by cases q)
 | d + 1 => z9i (N := z5l Tryz.prog φ d) (zl trivial ⟨(zg1 φ), (z8a φ d), trivial⟩ trivial trivial) (z34 φ d) Tryz.func115 (by kernel_rfl) (zer φ d) (zei φ d)
def z4f (φ : Nat) : H TV (List (TT 7)) := (.seq .x (.seq .x (.seq (.body (.loop ⟨[(63, [(0, .own 0), (1, .val 0), (2, .cmp 7), (6, .val 0), (7, .val 0), (8, .val 0)]), (1, [(0, .own 0)])], [.row 57 7]⟩ (fun n z => z5m φ n z.1 z.2.1 z.2.2.1 z.2.2.2.1 z.2.2.2.2.1 z.2.2.2.2.2.1) (fun zk10 => .x))) (.seq .x (.body (.loop ⟨[(63, [(0, .own 0), (1, .val 0), (2, .cmp 7), (6, .val 0)]), (1, [(0, .own 0)])], [.row 57 7]⟩ (fun n z => z5n φ n z.1 z.2.1 z.2.2.1 z.2.2.2.1) (fun zk17 => (.seq .x (.body (.seq .x (.seq (.body (.loop ⟨[(63, [(0, .own 0), (1, .val 0), (2, .cmp 7), (6, .val 0), (7, .val 0), (8, .val 0)]), (1, [(0, .own 0)])], [.row 57 7]⟩ (fun n z => z5q φ (fun a0 a1 a2 a3 => zk17 (a0, a1, a2, a3, ())) n z.1 z.2.1 z.2.2.1 z.2.2.2.1 z.2.2.2.2.1 z.2.2.2.2.2.1) (fun zk24 => .x))) .x)))))))))))
def z67 (P : Program) (φ : Nat) : Env TV := ⟨P, lk [], lk [(114, z37 φ), (115, z30 φ φ)], lk [], lk []⟩
theorem zg0 (φ : Nat) (l a) : (z65 φ).F l a = fnM TV (z67 Tryz.prog φ) φ Tryz.f79 57 7 [.val 0, .cmp 7] (z4f φ) l a := by kernel_rfl
theorem zfx (φ : Nat) : fnMO TV (z67 Tryz.prog φ) φ Tryz.f79 57 7 (z4f φ) := by
 unfold fnMO
 show obl _ _ _ _ _ _ _
 unfold z4f
 repeat' (first | exact trivial | (refine ⟨?_, ?_⟩) | (intro _) | kernel_rfl)
theorem zfv [Dr] (φ : Nat) : zd3 TV Tryz.prog 79 (z65 φ) := z9i (N := z67 Tryz.prog φ) (zl trivial ⟨(zb9 φ), (z8a φ φ), trivial⟩ trivial trivial) (z4f φ) Tryz.func79 (by kernel_rfl) (zg0 φ) (zfx φ)
def z3u (φ : Nat) : H TV (List (TT 7)) := .x
def z5x (P : Program) (φ : Nat) : Env TV := ⟨P, lk [], lk [(79, z65 φ)], lk [], lk []⟩
theorem zfp (φ : Nat) (l a) : (z3p φ).F l a = fnM TV (z5x Tryz.prog φ) φ Tryz.f52 57 7 [.cmp 7] (z3u φ) l a := by kernel_rfl
theorem zff (φ : Nat) : fnMO TV (z5x Tryz.prog φ) φ Tryz.f52 57 7 (z3u φ) := by
 unfold fnMO
 show obl _ _ _ _ _ _ _
 unfold z3u
 repeat' (first | exact trivial | (refine ⟨?_, ?_⟩) | (intro _) | kernel_rfl)
theorem z8n [Dr] (φ : Nat) : zd3 TV Tryz.prog 52 (z3p φ) := z9i (N := z5x Tryz.prog φ) (zl trivial ⟨(zfv φ), trivial⟩ trivial trivial) (z3u φ) Tryz.func52 (by kernel_rfl) (zfp φ) (zff φ)
def zbo (φ : Nat) : H TV (RTup TT [.val 0]) := .x
def zfn (P : Program) (φ : Nat) : Env TV := ⟨P, lk [], lk [], lk [], lk []⟩
theorem zsf (φ : Nat) (a) : (z3n φ).F a = fnX TV (zfn Tryz.prog φ) φ Tryz.f40 [0, 0] [.val 0] (zbo φ) a := by kernel_rfl
theorem zrd (φ : Nat) : fnO TV (zfn Tryz.prog φ) φ Tryz.f40 [.val 0] (zbo φ) := by
 unfold fnO
 show obl _ _ _ _ _ _ _
 unfold zbo
 repeat' (first | exact trivial | (refine ⟨?_, ?_⟩) | (intro _) | kernel_rfl)
theorem z5t [Dr] (φ : Nat) : z2d TV Tryz.prog 40 (z3n φ) :=
 z3i (N := zfn Tryz.prog φ) (zl trivial trivial trivial trivial) (zbo φ) Tryz.func40 (by kernel_rfl) (zsf φ) (zrd φ)
def znc (φ : Nat) : H TV (RTup TT [.val 0]) := (.seq .x (.seq .x (.seq (.seq .x (.body (.loop ⟨[(18, [(3, .val 0), (6, .val 8), (7, .val 0), (8, .val 0)])], []⟩ (fun n z => zae φ n z.1 z.2.1 z.2.2.1 z.2.2.2.1) (fun zk6 => .x)))) .x)))
def zqr (P : Program) (φ : Nat) : Env TV := ⟨P, lk [], lk [], lk [], lk []⟩
theorem y8g (φ : Nat) (a) : (zbr φ).F a = fnX TV (zqr Tryz.prog φ) φ Tryz.f39 [8] [.val 0] (znc φ) a := by kernel_rfl
theorem y5a (φ : Nat) : fnO TV (zqr Tryz.prog φ) φ Tryz.f39 [.val 0] (znc φ) := by
 unfold fnO
 show obl _ _ _ _ _ _ _
 unfold znc
 repeat' (first | exact trivial | (refine ⟨?_, ?_⟩) | (intro _) | kernel_rfl)
theorem zf6 [Dr] (φ : Nat) : z2d TV Tryz.prog 39 (zbr φ) :=
 z3i (N := zqr Tryz.prog φ) (zl trivial trivial trivial trivial) (znc φ) Tryz.func39 (by kernel_rfl) (y8g φ) (y5a φ)
def za7 (φ : Nat) : H TV (RTup TT [.val 0]) := .x
def zeb (P : Program) (φ : Nat) : Env TV := ⟨P, lk [(40, z3n φ), (39, zbr φ)], lk [], lk [], lk []⟩
theorem zpp (φ : Nat) (a) : (za3 φ).F a = fnX TV (zeb Tryz.prog φ) φ Tryz.f53 [7, 7] [.val 0] (za7 φ) a := by kernel_rfl
theorem zpr (φ : Nat) : fnO TV (zeb Tryz.prog φ) φ Tryz.f53 [.val 0] (za7 φ) := by
 unfold fnO
 show obl _ _ _ _ _ _ _
 unfold za7
 repeat' (first | exact trivial | (refine ⟨?_, ?_⟩) | (intro _) | kernel_rfl)
theorem zhz [Dr] (φ : Nat) : z2d TV Tryz.prog 53 (za3 φ) :=
 z3i (N := zeb Tryz.prog φ) (zl ⟨z5t φ, zf6 φ, trivial⟩ trivial trivial trivial) (za7 φ) Tryz.func53 (by kernel_rfl) (zpp φ) (zpr φ)
def z5u (φ : Nat) : H TV (RTup TT [.val 0]) := .x
def z82 (P : Program) (φ : Nat) : Env TV := ⟨P, lk [(40, z3n φ), (53, za3 φ), (39, zbr φ)], lk [], lk [], lk []⟩
theorem zih (φ : Nat) (a) : (z85 φ).F a = fnX TV (z82 Tryz.prog φ) φ Tryz.f63 [7, 7] [.val 0] (z5u φ) a := by kernel_rfl
theorem zil (φ : Nat) : fnO TV (z82 Tryz.prog φ) φ Tryz.f63 [.val 0] (z5u φ) := by
 unfold fnO
 show obl _ _ _ _ _ _ _
 unfold z5u
 repeat' (first | exact trivial | (refine ⟨?_, ?_⟩) | (intro _) | kernel_rfl)
theorem zio [Dr] (φ : Nat) : z2d TV Tryz.prog 63 (z85 φ) :=
 z3i (N := z82 Tryz.prog φ) (zl ⟨z5t φ, zhz φ, zf6 φ, trivial⟩ trivial trivial trivial) (z5u φ) Tryz.func63 (by kernel_rfl) (zih φ) (zil φ)
def zf7 (φ : Nat) : H TV (RTup TT [.val 9]) := .x
def zib (P : Program) (φ : Nat) : Env TV := ⟨P, lk [], lk [], lk [], lk []⟩
theorem zwq (φ : Nat) (a) : (z9p φ).F a = fnX TV (zib Tryz.prog φ) φ Tryz.f47 [2] [.val 9] (zf7 φ) a := by kernel_rfl
theorem zvh (φ : Nat) : fnO TV (zib Tryz.prog φ) φ Tryz.f47 [.val 9] (zf7 φ) := by
 unfold fnO
 show obl _ _ _ _ _ _ _
 unfold zf7
 repeat' (first | exact trivial | (refine ⟨?_, ?_⟩) | (intro _) | kernel_rfl)
theorem zfh [Dr] (φ : Nat) : z2d TV Tryz.prog 47 (z9p φ) :=
 z3i (N := zib Tryz.prog φ) (zl trivial trivial trivial trivial) (zf7 φ) Tryz.func47 (by kernel_rfl) (zwq φ) (zvh φ)
def z6t (φ : Nat) : H TV (RTup TT [.val 12]) := (.seq .x (.seq .x (.seq (.seq .x (.body (.loop ⟨[(80, [(1, .val 0), (5, .own 0), (14, .val 10), (15, .val 0), (16, .val 0)])], [.row 57 7]⟩ (fun n z => z6e φ n z.1 z.2.1 z.2.2.1 z.2.2.2.1 z.2.2.2.2.1) (fun zk8 => .x)))) (.seq .x (.seq .x (.seq (.seq .x (.body (.loop ⟨[(80, [(8, .own 0), (39, .own 1), (40, .val 0), (41, .val 0)])], [.map 9 11 0, .row 57 7]⟩ (fun n z => z81 φ n z.1 z.2.1 z.2.2.1 z.2.2.2.1) (fun zk14 => (.seq .x (.seq .x (.seq (.body (.seq .x (.seq .x (.body (.loop ⟨[(80, [(8, .own 0), (10, .ptr 1 0), (39, .own 2), (40, .val 0), (41, .val 0), (47, .val 5), (48, .val 0), (49, .val 0)])], [.map 9 11 0, .box 57 [.val 7], .row 57 7]⟩ (fun n z => z27 φ (fun a0 a1 a2 a3 => zk14 (a0, a1, a2, a3, ())) n z.1 z.2.1 z.2.2.1 z.2.2.2.1 z.2.2.2.2.1 z.2.2.2.2.2.1 z.2.2.2.2.2.2.1 z.2.2.2.2.2.2.2.1) (fun zk23 => (.seq .x (.seq .x (.seq (.body (.seq .x (.seq .x (.seq (.seq .x (.cond (.seq (.foc (8, none) (54, none) .x) .x) .x)) (.seq (.seq (.foc (8, none) (54, none) .x) .x) .x))))) .x))))))))) .x))))))) .x))))))
def z9v (P : Program) (φ : Nat) : Env TV := ⟨P, lk [(63, z85 φ), (47, z9p φ)], lk [(52, z3p φ)], lk [], lk []⟩
theorem zli (φ : Nat) (a) : (z5s φ).F a = fnX TV (z9v Tryz.prog φ) φ Tryz.f35 [10, 0] [.val 12] (z6t φ) a := by kernel_rfl
theorem zkx (φ : Nat) : fnO TV (z9v Tryz.prog φ) φ Tryz.f35 [.val 12] (z6t φ) := by
 unfold fnO
 show obl _ _ _ _ _ _ _
 unfold z6t
 repeat' (first | exact trivial | (refine ⟨?_, ?_⟩) | (intro _) | kernel_rfl)
theorem z9z [Dr] (φ : Nat) : z2d TV Tryz.prog 35 (z5s φ) :=
 z3i (N := z9v Tryz.prog φ) (zl ⟨zio φ, zfh φ, trivial⟩ ⟨(z8n φ), trivial⟩ trivial trivial) (z6t φ) Tryz.func35 (by kernel_rfl) (zli φ) (zkx φ)
def z3m (φ : Nat) : H TV (RTup TT [.val 2]) := .x
def z5v (P : Program) (φ : Nat) : Env TV := ⟨P, lk [], lk [], lk [], lk []⟩
theorem zex (φ : Nat) (a) : (z3s φ).F a = fnX TV (z5v Tryz.prog φ) φ Tryz.f36 [9] [.val 2] (z3m φ) a := by kernel_rfl
theorem zf4 (φ : Nat) : fnO TV (z5v Tryz.prog φ) φ Tryz.f36 [.val 2] (z3m φ) := by
 unfold fnO
 show obl _ _ _ _ _ _ _
 unfold z3m
 repeat' (first | exact trivial | (refine ⟨?_, ?_⟩) | (intro _) | kernel_rfl)
theorem z8m [Dr] (φ : Nat) : z2d TV Tryz.prog 36 (z3s φ) :=
 z3i (N := z5v Tryz.prog φ) (zl trivial trivial trivial trivial) (z3m φ) Tryz.func36 (by kernel_rfl) (zex φ) (zf4 φ)
theorem y9w : SoOK TV Tryz.prog 44 ⟨72, 0, 1, 3⟩ :=
 yfs (V := TV) (ρ := Tryz.sortedK_ren) (σ := Tryz.keysK_ren) (τ := Tryz.lays189_ren) Tryz.sortedK Tryz.keysK Tryz.lays189 (kc := 0) (vc := 1) (E := 3) (fun n : Int => n) (fun _ => rfl) (fun _ => rfl) (fun _ => rfl) (by kernel_rfl) rfl rfl (enters_of Tryz.func71 (by kernel_rfl) rfl) (enters_of Tryz.func72 (by kernel_rfl) rfl)
def z6u (φ : Nat) : H TV (RTup TT [.val 14]) := (.seq .x (.seq .x (.seq .x (.seq (.seq .x (.body (.loop ⟨[(41, [(8, .own 0), (9, .ptr 1 0), (10, .val 11), (23, .own 2), (24, .val 0), (25, .val 0)])], [.row 73 13, .box 88 [.val 9], .row 3 0]⟩ (fun n z => z83 φ n z.1 z.2.1 z.2.2.1 z.2.2.2.1 z.2.2.2.2.1 z.2.2.2.2.2.1) (fun zk12 => .x)))) .x))))
def z9w (P : Program) (φ : Nat) : Env TV := ⟨P, lk [(35, z5s φ), (36, z3s φ)], lk [], lk [], lk [(44, ⟨72, 0, 1, 3⟩)]⟩
theorem zl1 (φ : Nat) (a) : (za1 φ).F a = fnX TV (z9w Tryz.prog φ) φ Tryz.f16 [10, 0, 0, 0] [.val 14] (z6u φ) a := by kernel_rfl
theorem zl2 (φ : Nat) : fnO TV (z9w Tryz.prog φ) φ Tryz.f16 [.val 14] (z6u φ) := by
 unfold fnO
 show obl _ _ _ _ _ _ _
 unfold z6u
 repeat' (first | exact trivial | (refine ⟨?_, ?_⟩) | (intro _) | kernel_rfl)
theorem zlf (φ : Nat) : z2d TV Tryz.prog 16 (za1 φ) :=
 z3i (N := z9w Tryz.prog φ) (zl ⟨z9z φ, z8m φ, trivial⟩ trivial trivial ⟨y9w, trivial⟩) (z6u φ) Tryz.func16 (by kernel_rfl) (zl1 φ) (zl2 φ)
def z8t (φ : Nat) : H TV (RTup TT [.val 13]) := .x
def zcc (P : Program) (φ : Nat) : Env TV := ⟨P, lk [(26, zdp φ)], lk [], lk [], lk []⟩
theorem zoz (φ : Nat) (a) : (zcg φ).F a = fnX TV (zcc Tryz.prog φ) φ Tryz.f33 [0, 1] [.val 13] (z8t φ) a := by kernel_rfl
theorem zo0 (φ : Nat) : fnO TV (zcc Tryz.prog φ) φ Tryz.f33 [.val 13] (z8t φ) := by
 unfold fnO
 show obl _ _ _ _ _ _ _
 unfold z8t
 repeat' (first | exact trivial | (refine ⟨?_, ?_⟩) | (intro _) | kernel_rfl)
theorem zo7 [Dr] (φ : Nat) : z2d TV Tryz.prog 33 (zcg φ) :=
 z3i (N := zcc Tryz.prog φ) (zl ⟨zlm φ, trivial⟩ trivial trivial trivial) (z8t φ) Tryz.func33 (by kernel_rfl) (zoz φ) (zo0 φ)
def z5j (φ : Nat) : H TV (RTup TT [.val 1]) := (.seq .x (.seq .x (.seq (.seq .x (.body (.loop ⟨[(26, [(0, .val 14), (1, .val 14), (5, .val 0)])], []⟩ (fun n z => z6p φ n z.1 z.2.1 z.2.2.1) (fun zk6 => .x)))) .x)))
def z79 (P : Program) (φ : Nat) : Env TV := ⟨P, lk [], lk [], lk [], lk []⟩
theorem zhs (φ : Nat) (a) : (z7a φ).F a = fnX TV (z79 Tryz.prog φ) φ Tryz.f15 [14, 14] [.val 1] (z5j φ) a := by kernel_rfl
theorem zhp (φ : Nat) : fnO TV (z79 Tryz.prog φ) φ Tryz.f15 [.val 1] (z5j φ) := by
 unfold fnO
 show obl _ _ _ _ _ _ _
 unfold z5j
 repeat' (first | exact trivial | (refine ⟨?_, ?_⟩) | (intro _) | kernel_rfl)
theorem zhq [Dr] (φ : Nat) : z2d TV Tryz.prog 15 (z7a φ) :=
 z3i (N := z79 Tryz.prog φ) (zl trivial trivial trivial trivial) (z5j φ) Tryz.func15 (by kernel_rfl) (zhs φ) (zhp φ)
def z6s (φ : Nat) : H TV (RTup TT [.val 0]) := .x
def z9o (P : Program) (φ : Nat) : Env TV := ⟨P, lk [(40, z3n φ), (39, zbr φ)], lk [], lk [], lk []⟩
theorem zkl (φ : Nat) (a) : (z9m φ).F a = fnX TV (z9o Tryz.prog φ) φ Tryz.f38 [2, 2] [.val 0] (z6s φ) a := by kernel_rfl
theorem zku (φ : Nat) : fnO TV (z9o Tryz.prog φ) φ Tryz.f38 [.val 0] (z6s φ) := by
 unfold fnO
 show obl _ _ _ _ _ _ _
 unfold z6s
 repeat' (first | exact trivial | (refine ⟨?_, ?_⟩) | (intro _) | kernel_rfl)
theorem zem [Dr] (φ : Nat) : z2d TV Tryz.prog 38 (z9m φ) :=
 z3i (N := z9o Tryz.prog φ) (zl ⟨z5t φ, zf6 φ, trivial⟩ trivial trivial trivial) (z6s φ) Tryz.func38 (by kernel_rfl) (zkl φ) (zku φ)
def zqc : Msp TV := ⟨24, 2, [.fn 38], fun l _ => zn5 l⟩
theorem zzl [Dr] : zd3 TV Tryz.prog 37 zqc :=
 y05 (V := TV) (c := 2) (ρ := Tryz.sortEv_ren) Tryz.sortEv Tryz.isAgg24 (by rw [show TV.sz 2 = 3 by kernel_rfl]; exact Tryz.sizeOf24) (by kernel_rfl) (by kernel_rfl) ⟨Tryz.f38, Tryz.func38, by kernel_rfl, by kernel_rfl⟩ zz4 fun a b ha hb =>
  @zfi.mono ⟨True⟩ _ _ _ _ _ (@zem ⟨True⟩ 10 (a, b, ()) (zj0 a b, ()) (zvt a b)) fun x news ⟨B, hB, h1, h2⟩ => by
   cases B with
   | nil => exact ⟨h1, h2⟩
   | cons y B => cases hB
theorem zor (φ : Nat) (z z' : Sh.Z TT (⟨[(34, [(1, .val 0), (6, .own 0), (12, .own 1)])], [.row 24 2, .it 9 11]⟩ : Sh)) (h : Sh.eqZ TT (⟨[(34, [(1, .val 0), (6, .own 0), (12, .own 1)])], [.row 24 2, .it 9 11]⟩ : Sh) z z') (hok : ∀ o ∈ (Sh.enc TV (⟨[(34, [(1, .val 0), (6, .own 0), (12, .own 1)])], [.row 24 2, .it 9 11]⟩ : Sh) z).ob, okO TV o) : ∀ n, z0b φ (zp φ n) z'.1 z'.2.1 z'.2.2.1 = z0b φ (zp φ n) z.1 z.2.1 z.2.2.1 := by
 obtain ⟨a, b, c, u⟩ := z
 obtain ⟨a', b', c', u'⟩ := z'
 have h : a = a' /\ b = b' /\ c.Perm c' /\ True := h
 obtain ⟨rfl, rfl, hp, _⟩ := h
 exact fun n => (zpo φ hp (n + 1) a b).symm
def z8k (φ : Nat) : H TV (RTup TT [.val 5]) := (.seq .x (.seq (.seq .x (.body (.loop ⟨[(34, [(1, .val 0), (6, .own 0), (12, .own 1)])], [.row 24 2, .it 9 11]⟩ (fun n z => zp φ n z.1 z.2.1 z.2.2.1) (fun zk8 => (.seq (.pk ⟨[(34, [(1, .val 0), (6, .own 0), (12, .own 1)])], [.row 24 2, .it 9 11]⟩ (fun z => z0b φ (fun a0 a1 a2 => zk8 (a0, a1, a2, ())) z.1 z.2.1 z.2.2.1)) .x))))) .x))
def zcy (P : Program) (φ : Nat) : Env TV := ⟨P, lk [(35, z5s φ), (36, z3s φ), (38, z9m φ)], lk [(37, zqc)], lk [], lk []⟩
theorem zog (φ : Nat) (a) : (zcu φ).F a = fnX TV (zcy Tryz.prog φ) φ Tryz.f13 [10, 0, 0] [.val 5] (z8k φ) a := by kernel_rfl
theorem znv (φ : Nat) : fnO TV (zcy Tryz.prog φ) φ Tryz.f13 [.val 5] (z8k φ) := by
 unfold fnO
 show obl _ _ _ _ _ _ _
 unfold z8k
 repeat' (first | exact trivial | (refine ⟨?_, ?_⟩) | (intro _) | (rename_i h1 h2; have q := zor φ _ _ h1 h2; exact q _) | kernel_rfl)
theorem znt [Dr] (φ : Nat) : z2d TV Tryz.prog 13 (zcu φ) :=
 z3i (N := zcy Tryz.prog φ) (zl ⟨z9z φ, z8m φ, zem φ, trivial⟩ ⟨(zzl), trivial⟩ trivial trivial) (z8k φ) Tryz.func13 (by kernel_rfl) (zog φ) (znv φ)
def z6x (φ : Nat) : H TV (RTup TT [.val 1]) := (.seq .x (.seq .x (.seq (.seq .x (.body (.loop ⟨[(26, [(0, .val 5), (1, .val 5), (5, .val 0)])], []⟩ (fun n z => z9c φ n z.1 z.2.1 z.2.2.1) (fun zk6 => .x)))) .x)))
def za0 (P : Program) (φ : Nat) : Env TV := ⟨P, lk [], lk [], lk [], lk []⟩
theorem zlh (φ : Nat) (a) : (z9j φ).F a = fnX TV (za0 Tryz.prog φ) φ Tryz.f12 [5, 5] [.val 1] (z6x φ) a := by kernel_rfl
theorem zky (φ : Nat) : fnO TV (za0 Tryz.prog φ) φ Tryz.f12 [.val 1] (z6x φ) := by
 unfold fnO
 show obl _ _ _ _ _ _ _
 unfold z6x
 repeat' (first | exact trivial | (refine ⟨?_, ?_⟩) | (intro _) | kernel_rfl)
theorem zkm [Dr] (φ : Nat) : z2d TV Tryz.prog 12 (z9j φ) :=
 z3i (N := za0 Tryz.prog φ) (zl trivial trivial trivial trivial) (z6x φ) Tryz.func12 (by kernel_rfl) (zlh φ) (zky φ)
def za5 (φ : Nat) : H TV (RTup TT [.val 7]) := .x
def ze6 (P : Program) (φ : Nat) : Env TV := ⟨P, lk [], lk [], lk [], lk []⟩
theorem zpg (φ : Nat) (a) : (ze2 φ).F a = fnX TV (ze6 Tryz.prog φ) φ Tryz.f24 [0, 0, 0] [.val 7] (za5 φ) a := by kernel_rfl
theorem zpi (φ : Nat) : fnO TV (ze6 Tryz.prog φ) φ Tryz.f24 [.val 7] (za5 φ) := by
 unfold fnO
 show obl _ _ _ _ _ _ _
 unfold za5
 repeat' (first | exact trivial | (refine ⟨?_, ?_⟩) | (intro _) | kernel_rfl)
theorem zpq [Dr] (φ : Nat) : z2d TV Tryz.prog 24 (ze2 φ) :=
 z3i (N := ze6 Tryz.prog φ) (zl trivial trivial trivial trivial) (za5 φ) Tryz.func24 (by kernel_rfl) (zpg φ) (zpi φ)
theorem zn2 (φ : Nat) (z z' : Sh.Z TT (⟨[(16, [(0, .own 0), (7, .own 1)]), (50, [(1, .val 0), (5, .val 12), (6, .own 0), (15, .val 10), (16, .val 0), (17, .val 0), (33, .val 5), (34, .val 0), (35, .val 0)])], [.map 0 1 0, .it 0 1]⟩ : Sh)) (h : Sh.eqZ TT (⟨[(16, [(0, .own 0), (7, .own 1)]), (50, [(1, .val 0), (5, .val 12), (6, .own 0), (15, .val 10), (16, .val 0), (17, .val 0), (33, .val 5), (34, .val 0), (35, .val 0)])], [.map 0 1 0, .it 0 1]⟩ : Sh) z z') (hok : ∀ o ∈ (Sh.enc TV (⟨[(16, [(0, .own 0), (7, .own 1)]), (50, [(1, .val 0), (5, .val 12), (6, .own 0), (15, .val 10), (16, .val 0), (17, .val 0), (33, .val 5), (34, .val 0), (35, .val 0)])], [.map 0 1 0, .it 0 1]⟩ : Sh) z).ob, okO TV o) : ∀ k n, z2z φ k (z05 φ k n) z'.1 z'.2.1 z'.2.2.1 z'.2.2.2.1 z'.2.2.2.2.1 z'.2.2.2.2.2.1 z'.2.2.2.2.2.2.1 z'.2.2.2.2.2.2.2.1 z'.2.2.2.2.2.2.2.2.1 z'.2.2.2.2.2.2.2.2.2.1 = z2z φ k (z05 φ k n) z.1 z.2.1 z.2.2.1 z.2.2.2.1 z.2.2.2.2.1 z.2.2.2.2.2.1 z.2.2.2.2.2.2.1 z.2.2.2.2.2.2.2.1 z.2.2.2.2.2.2.2.2.1 z.2.2.2.2.2.2.2.2.2.1 := by
 obtain ⟨a, b, c, d, e, f, g, i, m, x, u⟩ := z
 obtain ⟨a', b', c', d', e', f', g', i', m', x', u'⟩ := z'
 have h : a = a' /\ b = b' /\ c = c' /\ d = d' /\ e = e' /\ f = f' /\ g = g' /\ i = i' /\ m = m' /\ x.Perm x' /\ True := h
 obtain ⟨rfl, rfl, rfl, rfl, rfl, rfl, rfl, rfl, rfl, hp, _⟩ := h
 have hok : ∀ o ∈ [(SO.x (.map 0 1 0 m none) : SO TT), .x (.it 0 1 x none)], okO TV o := hok
 have hm : Srt' kl_0 m := hok (.x (.map 0 1 0 m none)) (by simp)
 have hd : Ndp kl_0 x := hok (.x (.it 0 1 x none)) (by simp)
 exact fun k n => (zmu φ hp hd k (n + 1) a b c d e f g i m hm).symm
def z80 (φ : Nat) : H TV (RTup TT [.val 8]) := (.seq .x (.seq .x (.seq .x (.seq (.seq .x (.body (.loop ⟨[(50, [(1, .val 0), (5, .val 12), (6, .own 0), (15, .val 10), (16, .val 0), (17, .val 0)])], [.map 0 1 0]⟩ (fun n z => z6f φ n z.1 z.2.1 z.2.2.1 z.2.2.2.1 z.2.2.2.2.1 z.2.2.2.2.2.1) (fun zk10 => (.seq .x (.seq .x (.seq (.body (.seq .x (.seq .x (.seq .x (.body (.loop ⟨[(50, [(1, .val 0), (5, .val 12), (6, .own 0), (15, .val 10), (16, .val 0), (17, .val 0), (33, .val 5), (34, .val 0), (35, .val 0)])], [.map 0 1 0]⟩ (fun n z => z8u φ (fun a0 a1 a2 a3 a4 a5 => zk10 (a0, a1, a2, a3, a4, a5, ())) n z.1 z.2.1 z.2.2.1 z.2.2.2.1 z.2.2.2.2.1 z.2.2.2.2.2.1 z.2.2.2.2.2.2.1 z.2.2.2.2.2.2.2.1 z.2.2.2.2.2.2.2.2.1) (fun zk20 => (.seq .x (.seq .x (.seq (.body (.seq .x (.ins 5 46 (.seq .x (.body (.loop ⟨[(16, [(0, .own 0), (7, .own 1)]), (50, [(1, .val 0), (5, .val 12), (6, .own 0), (15, .val 10), (16, .val 0), (17, .val 0), (33, .val 5), (34, .val 0), (35, .val 0)])], [.map 0 1 0, .it 0 1]⟩ (fun n z => z05 φ (fun a0 a1 a2 a3 a4 a5 a6 a7 a8 => zk20 (a0, a1, a2, a3, a4, a5, a6, a7, a8, ())) n z.1 z.2.1 z.2.2.1 z.2.2.2.1 z.2.2.2.2.1 z.2.2.2.2.2.1 z.2.2.2.2.2.2.1 z.2.2.2.2.2.2.2.1 z.2.2.2.2.2.2.2.2.1 z.2.2.2.2.2.2.2.2.2.1) (fun zk32 => (.seq (.pk ⟨[(16, [(0, .own 0), (7, .own 1)]), (50, [(1, .val 0), (5, .val 12), (6, .own 0), (15, .val 10), (16, .val 0), (17, .val 0), (33, .val 5), (34, .val 0), (35, .val 0)])], [.map 0 1 0, .it 0 1]⟩ (fun z => z2z φ (fun a0 a1 a2 a3 a4 a5 a6 a7 a8 => zk20 (a0, a1, a2, a3, a4, a5, a6, a7, a8, ())) (fun a0 a1 a2 a3 a4 a5 a6 a7 a8 a9 => zk32 (a0, a1, a2, a3, a4, a5, a6, a7, a8, a9, ())) z.1 z.2.1 z.2.2.1 z.2.2.2.1 z.2.2.2.2.1 z.2.2.2.2.2.1 z.2.2.2.2.2.2.1 z.2.2.2.2.2.2.2.1 z.2.2.2.2.2.2.2.2.1 z.2.2.2.2.2.2.2.2.2.1)) .x))))) .x))) .x)))))))))) .x))))))) .x))))
def zaq (P : Program) (φ : Nat) : Env TV := ⟨P, lk [(35, z5s φ), (47, z9p φ)], lk [], lk [], lk [(44, ⟨72, 0, 1, 3⟩)]⟩
theorem zmt (φ : Nat) (a) : (zb3 φ).F a = fnX TV (zaq Tryz.prog φ) φ Tryz.f19 [10, 0] [.val 8] (z80 φ) a := by kernel_rfl
theorem zn1 (φ : Nat) : fnO TV (zaq Tryz.prog φ) φ Tryz.f19 [.val 8] (z80 φ) := by
 unfold fnO
 show obl _ _ _ _ _ _ _
 unfold z80
 repeat' (first | exact trivial | (refine ⟨?_, ?_⟩) | (intro _) | (rename_i h1 h2; have q := zn2 φ _ _ h1 h2; exact q _ _) | kernel_rfl)
theorem zmh (φ : Nat) : z2d TV Tryz.prog 19 (zb3 φ) :=
 z3i (N := zaq Tryz.prog φ) (zl ⟨z9z φ, zfh φ, trivial⟩ trivial trivial ⟨y9w, trivial⟩) (z80 φ) Tryz.func19 (by kernel_rfl) (zmt φ) (zn1 φ)
def z7u (φ : Nat) : H TV (RTup TT [.val 1]) := (.seq .x (.seq .x (.seq (.seq .x (.body (.loop ⟨[(26, [(0, .val 8), (1, .val 8), (5, .val 0)])], []⟩ (fun n z => z9q φ n z.1 z.2.1 z.2.2.1) (fun zk6 => .x)))) .x)))
def zax (P : Program) (φ : Nat) : Env TV := ⟨P, lk [], lk [], lk [], lk []⟩
theorem zm5 (φ : Nat) (a) : (zbk φ).F a = fnX TV (zax Tryz.prog φ) φ Tryz.f18 [8, 8] [.val 1] (z7u φ) a := by kernel_rfl
theorem zms (φ : Nat) : fnO TV (zax Tryz.prog φ) φ Tryz.f18 [.val 1] (z7u φ) := by
 unfold fnO
 show obl _ _ _ _ _ _ _
 unfold z7u
 repeat' (first | exact trivial | (refine ⟨?_, ?_⟩) | (intro _) | kernel_rfl)
theorem zmw [Dr] (φ : Nat) : z2d TV Tryz.prog 18 (zbk φ) :=
 z3i (N := zax Tryz.prog φ) (zl trivial trivial trivial trivial) (z7u φ) Tryz.func18 (by kernel_rfl) (zm5 φ) (zms φ)
def zdr (φ : Nat) : H TV (RTup TT [.val 39]) := (.seq .x (.seq .x (.seq .x (.seq (.seq .x (.body (.loop ⟨[(30, [(0, .ptr 0 0), (1, .ptr 1 0), (2, .val 0)])], [.box 51 [.own 2, .own 3, .own 4, .own 5, .own 6, .own 7, .own 8, .own 9, .own 10], .box 51 [.own 11, .own 12, .own 13, .own 14, .own 15, .own 16, .own 17, .own 18, .own 19], .row 129 15, .row 147 17, .row 131 21, .row 80 23, .row 182 25, .row 186 27, .row 142 30, .row 145 32, .row 112 37, .row 129 15, .row 147 17, .row 131 21, .row 80 23, .row 182 25, .row 186 27, .row 142 30, .row 145 32, .row 112 37]⟩ (fun n z => ze1 φ n z.1 z.2.1 z.2.2.1 z.2.2.2.1 z.2.2.2.2.1 z.2.2.2.2.2.1 z.2.2.2.2.2.2.1 z.2.2.2.2.2.2.2.1 z.2.2.2.2.2.2.2.2.1 z.2.2.2.2.2.2.2.2.2.1 z.2.2.2.2.2.2.2.2.2.2.1 z.2.2.2.2.2.2.2.2.2.2.2.1 z.2.2.2.2.2.2.2.2.2.2.2.2.1 z.2.2.2.2.2.2.2.2.2.2.2.2.2.1 z.2.2.2.2.2.2.2.2.2.2.2.2.2.2.1 z.2.2.2.2.2.2.2.2.2.2.2.2.2.2.2.1 z.2.2.2.2.2.2.2.2.2.2.2.2.2.2.2.2.1 z.2.2.2.2.2.2.2.2.2.2.2.2.2.2.2.2.2.1 z.2.2.2.2.2.2.2.2.2.2.2.2.2.2.2.2.2.2.1) (fun zk20 => .x)))) .x))))
def zgf (P : Program) (φ : Nat) : Env TV := ⟨P, lk [], lk [], lk [], lk []⟩
theorem zub (φ : Nat) (a) : (zh0 φ).F a = fnX TV (zgf Tryz.prog φ) φ Tryz.f34 [] [.val 39] (zdr φ) a := by kernel_rfl
theorem zu0 (φ : Nat) : fnO TV (zgf Tryz.prog φ) φ Tryz.f34 [.val 39] (zdr φ) := by
 unfold fnO
 show obl _ _ _ _ _ _ _
 unfold zdr
 repeat' (first | exact trivial | (refine ⟨?_, ?_⟩) | (intro _) | kernel_rfl)
theorem ztq [Dr] (φ : Nat) : z2d TV Tryz.prog 34 (zh0 φ) :=
 z3i (N := zgf Tryz.prog φ) (zl trivial trivial trivial trivial) (zdr φ) Tryz.func34 (by kernel_rfl) (zub φ) (zu0 φ)
def z8p (φ : Nat) : H TV (RTup TT [.val 1]) := .x
def zci (P : Program) (φ : Nat) : Env TV := ⟨P, lk [], lk [], lk [], lk []⟩
theorem znu (φ : Nat) (a) : (zcw φ).F a = fnX TV (zci Tryz.prog φ) φ Tryz.f111 [15] [.val 1] (z8p φ) a := by kernel_rfl
theorem zpc (φ : Nat) : fnO TV (zci Tryz.prog φ) φ Tryz.f111 [.val 1] (z8p φ) := by
 unfold fnO
 show obl _ _ _ _ _ _ _
 unfold z8p
 repeat' (first | exact trivial | (refine ⟨?_, ?_⟩) | (intro _) | kernel_rfl)
theorem zom [Dr] (φ : Nat) : z2d TV Tryz.prog 111 (zcw φ) :=
 z3i (N := zci Tryz.prog φ) (zl trivial trivial trivial trivial) (z8p φ) Tryz.func111 (by kernel_rfl) (znu φ) (zpc φ)
def z97 (φ : Nat) : H TV (RTup TT [.val 0]) := (.seq .x (.seq .x (.seq .x (.seq (.seq .x (.body (.loop ⟨[(84, [(1, .ptr 0 0), (3, .val 0), (20, .val 16), (21, .val 0), (22, .val 0)])], [.box 40 [.val 19]]⟩ (fun n z => z4u φ n z.1 z.2.1 z.2.2.1 z.2.2.2.1 z.2.2.2.2.1) (fun zk7 => .x)))) (.seq (.seq .x (.body (.loop ⟨[(84, [(3, .val 0), (31, .val 18), (32, .val 0), (33, .val 0)])], []⟩ (fun n z => z20 φ n z.1 z.2.1 z.2.2.1 z.2.2.2.1) (fun zk13 => .x)))) .x)))))
def zcq (P : Program) (φ : Nat) : Env TV := ⟨P, lk [(111, zcw φ)], lk [], lk [], lk []⟩
theorem zp9 (φ : Nat) (a) : (zca φ).F a = fnX TV (zcq Tryz.prog φ) φ Tryz.f73 [19] [.val 0] (z97 φ) a := by kernel_rfl
theorem zo4 (φ : Nat) : fnO TV (zcq Tryz.prog φ) φ Tryz.f73 [.val 0] (z97 φ) := by
 unfold fnO
 show obl _ _ _ _ _ _ _
 unfold z97
 repeat' (first | exact trivial | (refine ⟨?_, ?_⟩) | (intro _) | kernel_rfl)
theorem zo9 [Dr] (φ : Nat) : z2d TV Tryz.prog 73 (zca φ) :=
 z3i (N := zcq Tryz.prog φ) (zl ⟨zom φ, trivial⟩ trivial trivial trivial) (z97 φ) Tryz.func73 (by kernel_rfl) (zp9 φ) (zo4 φ)
def z9d (φ : Nat) : H TV (RTup TT [.val 1]) := .x
def zco (P : Program) (φ : Nat) : Env TV := ⟨P, lk [], lk [], lk [], lk []⟩
theorem zni (φ : Nat) (a) : (z8r φ).F a = fnX TV (zco Tryz.prog φ) φ Tryz.f75 [0, 0, 0] [.val 1] (z9d φ) a := by kernel_rfl
theorem zp2 (φ : Nat) : fnO TV (zco Tryz.prog φ) φ Tryz.f75 [.val 1] (z9d φ) := by
 unfold fnO
 show obl _ _ _ _ _ _ _
 unfold z9d
 repeat' (first | exact trivial | (refine ⟨?_, ?_⟩) | (intro _) | kernel_rfl)
theorem zgh [Dr] (φ : Nat) : z2d TV Tryz.prog 75 (z8r φ) :=
 z3i (N := zco Tryz.prog φ) (zl trivial trivial trivial trivial) (z9d φ) Tryz.func75 (by kernel_rfl) (zni φ) (zp2 φ)
def zbz (φ : Nat) : H TV (RTup TT [.val 0]) := (.seq .x (.seq .x (.seq .x (.seq .x (.seq (.seq .x (.body (.loop ⟨[(206, [(1, .ptr 0 0), (3, .ptr 1 0), (4, .func 112 [.ptr 1 0]), (41, .val 22), (42, .val 0), (43, .val 0)])], [.box 46 [.val 29], .box 59 [.val 0]]⟩ (fun n z => z5d φ n z.1 z.2.1 z.2.2.1 z.2.2.2.1 z.2.2.2.2.1) (fun zk7 => (.seq .x (.seq .x (.seq (.body (.seq .x (.seq (.seq .x (.body (.loop ⟨[(206, [(1, .ptr 0 0), (3, .ptr 1 0), (4, .func 112 [.ptr 1 0]), (6, .ptr 2 0), (41, .val 22), (42, .val 0), (43, .val 0), (55, .own 3), (56, .val 0), (57, .val 0)])], [.box 46 [.val 29], .box 59 [.val 0], .box 131 [.val 21], .row 3 0]⟩ (fun n z => z2r φ (fun a0 a1 a2 a3 a4 => zk7 (a0, a1, a2, a3, a4, ())) n z.1 z.2.1 z.2.2.1 z.2.2.2.1 z.2.2.2.2.1 z.2.2.2.2.2.1 z.2.2.2.2.2.2.1 z.2.2.2.2.2.2.2.1 z.2.2.2.2.2.2.2.2.1) (fun zk17 => .x)))) .x))) .x))))))) (.seq (.seq .x (.body (.loop ⟨[(206, [(1, .ptr 0 0), (3, .ptr 1 0), (4, .func 112 [.ptr 1 0]), (83, .val 24), (84, .val 0), (85, .val 0)])], [.box 46 [.val 29], .box 59 [.val 0]]⟩ (fun n z => z02 φ n z.1 z.2.1 z.2.2.1 z.2.2.2.1 z.2.2.2.2.1) (fun zk27 => .x)))) (.seq (.seq .x (.body (.loop ⟨[(206, [(1, .ptr 0 0), (3, .ptr 1 0), (4, .func 112 [.ptr 1 0]), (120, .val 26), (121, .val 0), (122, .val 0)])], [.box 46 [.val 29], .box 59 [.val 0]]⟩ (fun n z => z0k φ n z.1 z.2.1 z.2.2.1 z.2.2.2.1 z.2.2.2.2.1) (fun zk40 => .x)))) (.seq .x (.seq (.seq .x (.body (.loop ⟨[(206, [(3, .ptr 0 0), (4, .func 112 [.ptr 0 0]), (13, .ptr 1 0), (158, .val 28), (159, .val 0), (160, .val 0)])], [.box 59 [.val 0], .box 184 [.val 40]]⟩ (fun n z => zm φ n z.1 z.2.1 z.2.2.1 z.2.2.2.1 z.2.2.2.2.1) (fun zk49 => .x)))) .x)))))))))
def zez (P : Program) (φ : Nat) : Env TV := ⟨P, lk [(75, z8r φ)], lk [], lk [], lk []⟩
theorem zs3 (φ : Nat) (a) : (zfe φ).F a = fnX TV (zez Tryz.prog φ) φ Tryz.f74 [29] [.val 0] (zbz φ) a := by kernel_rfl
theorem zs5 (φ : Nat) : fnO TV (zez Tryz.prog φ) φ Tryz.f74 [.val 0] (zbz φ) := by
 unfold fnO
 show obl _ _ _ _ _ _ _
 unfold zbz
 repeat' (first | exact trivial | (refine ⟨?_, ?_⟩) | (intro _) | kernel_rfl)
theorem zrb [Dr] (φ : Nat) : z2d TV Tryz.prog 74 (zfe φ) :=
 z3i (N := zez Tryz.prog φ) (zl ⟨zgh φ, trivial⟩ trivial trivial trivial) (zbz φ) Tryz.func74 (by kernel_rfl) (zs3 φ) (zs5 φ)
def z7w (φ : Nat) : H TV (RTup TT [.val 0]) := (.seq .x (.seq (.seq .x (.body (.loop ⟨[(45, [(1, .ptr 0 0), (9, .val 35), (10, .val 0)])], [.box 109 [.val 36]]⟩ (fun n z => z3z φ n z.1 z.2.1 z.2.2.1) (fun zk5 => .x)))) (.seq .x (.seq (.seq .x (.body (.loop ⟨[(45, [(5, .val 0), (30, .val 8), (31, .val 0), (32, .val 0)])], []⟩ (fun n z => z32 φ n z.1 z.2.1 z.2.2.1 z.2.2.2.1) (fun zk10 => .x)))) .x))))
def zbi (P : Program) (φ : Nat) : Env TV := ⟨P, lk [], lk [], lk [], lk []⟩
theorem zmv (φ : Nat) (a) : (zbg φ).F a = fnX TV (zbi Tryz.prog φ) φ Tryz.f76 [36] [.val 0] (z7w φ) a := by kernel_rfl
theorem zmf (φ : Nat) : fnO TV (zbi Tryz.prog φ) φ Tryz.f76 [.val 0] (z7w φ) := by
 unfold fnO
 show obl _ _ _ _ _ _ _
 unfold z7w
 repeat' (first | exact trivial | (refine ⟨?_, ?_⟩) | (intro _) | kernel_rfl)
theorem zm4 [Dr] (φ : Nat) : z2d TV Tryz.prog 76 (zbg φ) :=
 z3i (N := zbi Tryz.prog φ) (zl trivial trivial trivial trivial) (z7w φ) Tryz.func76 (by kernel_rfl) (zmv φ) (zmf φ)
def zdo (φ : Nat) : H TV (RTup TT [.val 20, .val 20]) := .x
def zgc (P : Program) (φ : Nat) : Env TV := ⟨P, lk [], lk [], lk [], lk []⟩
theorem zsw (φ : Nat) (a) : (zgk φ).F a = fnX TV (zgc Tryz.prog φ) φ Tryz.f171 [20, 20] [.val 20, .val 20] (zdo φ) a := by kernel_rfl
theorem zsp (φ : Nat) : fnO TV (zgc Tryz.prog φ) φ Tryz.f171 [.val 20, .val 20] (zdo φ) := by
 unfold fnO
 show obl _ _ _ _ _ _ _
 unfold zdo
 repeat' (first | exact trivial | (refine ⟨?_, ?_⟩) | (intro _) | kernel_rfl)
theorem zud [Dr] (φ : Nat) : z2d TV Tryz.prog 171 (zgk φ) :=
 z3i (N := zgc Tryz.prog φ) (zl trivial trivial trivial trivial) (zdo φ) Tryz.func171 (by kernel_rfl) (zsw φ) (zsp φ)
def z52 (φ : Nat) : H TV (RTup TT [.val 0]) := (.seq .x (.seq (.ins 1 108 (.seq .x (.seq (.join ⟨[(25, [(0, .val 20), (2, .val 0)]), (6, [])], []⟩ (fun z => z1y φ z.1 z.2.1) (.seq .x .x)) (.seq (.join ⟨[(25, [(0, .val 20), (2, .val 0)]), (6, [])], []⟩ (fun z => z1w φ z.1 z.2.1) (.seq .x .x)) (.seq (.join ⟨[(25, [(0, .val 20), (2, .val 0)]), (6, [])], []⟩ (fun z => z19 φ z.1 z.2.1) (.seq .x .x)) .x)))) .x) .x))
def z6n (P : Program) (φ : Nat) : Env TV := ⟨P, lk [], lk [], lk [], lk []⟩
theorem zh2 (φ : Nat) (a) : (z6m φ).F a = fnX TV (z6n Tryz.prog φ) φ Tryz.f183 [20] [.val 0] (z52 φ) a := by kernel_rfl
theorem zgq (φ : Nat) : fnO TV (z6n Tryz.prog φ) φ Tryz.f183 [.val 0] (z52 φ) := by
 unfold fnO
 show obl _ _ _ _ _ _ _
 unfold z52
 repeat' (first | exact trivial | (refine ⟨?_, ?_⟩) | (intro _) | kernel_rfl)
theorem zgp [Dr] (φ : Nat) : z2d TV Tryz.prog 183 (z6m φ) :=
 z3i (N := z6n Tryz.prog φ) (zl trivial trivial trivial trivial) (z52 φ) Tryz.func183 (by kernel_rfl) (zh2 φ) (zgq φ)
def zdu (φ : Nat) : H TV (RTup TT [.val 20, .val 20]) := (.seq .x (.seq .x (.seq .x (.seq .x (.seq .x (.seq .x (.seq .x (.seq .x (.seq .x (.seq .x (.seq .x (.seq .x (.seq .x (.seq .x (.seq (.join ⟨[(135, [(2, .val 20), (8, .val 20), (9, .val 20), (10, .val 20), (11, .val 20), (13, .val 20), (14, .val 20), (15, .val 20)])], []⟩ (fun z => z7f φ z.1 z.2.1 z.2.2.1 z.2.2.2.1 z.2.2.2.2.1 z.2.2.2.2.2.1 z.2.2.2.2.2.2.1 z.2.2.2.2.2.2.2.1) (.body (.loop ⟨[(135, [(2, .val 20), (8, .val 20), (9, .val 20), (10, .val 20), (11, .val 20), (13, .val 20), (14, .val 20), (15, .val 20), (16, .val 20)])], []⟩ (fun n z => z7e φ n z.1 z.2.1 z.2.2.1 z.2.2.2.1 z.2.2.2.2.1 z.2.2.2.2.2.1 z.2.2.2.2.2.2.1 z.2.2.2.2.2.2.2.1 z.2.2.2.2.2.2.2.2.1) (fun zk40 => .x)))) (.seq .x (.seq .x (.seq .x (.seq (.join ⟨[(135, [(2, .val 20), (8, .val 20), (14, .val 20), (15, .val 20), (17, .val 20), (18, .val 20)])], []⟩ (fun z => z7g φ z.1 z.2.1 z.2.2.1 z.2.2.2.1 z.2.2.2.2.1 z.2.2.2.2.2.1) (.body (.loop ⟨[(135, [(2, .val 20), (8, .val 20), (9, .val 20), (10, .val 20), (14, .val 20), (15, .val 20), (16, .val 20), (17, .val 20), (18, .val 20)])], []⟩ (fun n z => z7h φ n z.1 z.2.1 z.2.2.1 z.2.2.2.1 z.2.2.2.2.1 z.2.2.2.2.2.1 z.2.2.2.2.2.2.1 z.2.2.2.2.2.2.2.1 z.2.2.2.2.2.2.2.2.1) (fun zk30 => .x)))) .x)))))))))))))))))))
def zg2 (P : Program) (φ : Nat) : Env TV := ⟨P, lk [(183, z6m φ)], lk [], lk [], lk []⟩
theorem zul (φ : Nat) (a) : (zgu φ).F a = fnX TV (zg2 Tryz.prog φ) φ Tryz.f172 [20, 20, 20] [.val 20, .val 20] (zdu φ) a := by kernel_rfl
theorem zt4 (φ : Nat) : fnO TV (zg2 Tryz.prog φ) φ Tryz.f172 [.val 20, .val 20] (zdu φ) := by
 unfold fnO
 show obl _ _ _ _ _ _ _
 unfold zdu
 repeat' (first | exact trivial | (refine ⟨?_, ?_⟩) | (intro _) | kernel_rfl)
theorem zsu [Dr] (φ : Nat) : z2d TV Tryz.prog 172 (zgu φ) :=
 z3i (N := zg2 Tryz.prog φ) (zl ⟨zgp φ, trivial⟩ trivial trivial trivial) (zdu φ) Tryz.func172 (by kernel_rfl) (zul φ) (zt4 φ)
def zhl (φ : Nat) : H TV (RTup TT [.val 20]) := (.seq .x (.seq .x (.seq .x (.seq (.seq (.ins 1 108 (.seq .x (.seq (.join ⟨[(25, [(0, .val 20), (2, .val 0)]), (33, [(0, .val 20), (1, .val 20), (5, .func 170 [.ptr 0 0]), (6, .val 20)])], [.box 110 [.val 20]]⟩ (fun z => zd0 φ z.1 z.2.1 z.2.2.1 z.2.2.2.1 z.2.2.2.2.1 z.2.2.2.2.2.1) (.seq .x .x)) (.seq (.join ⟨[(25, [(0, .val 20), (2, .val 0)]), (33, [(0, .val 20), (1, .val 20), (5, .func 170 [.ptr 0 0]), (6, .val 20)])], [.box 110 [.val 20]]⟩ (fun z => zak φ z.1 z.2.1 z.2.2.1 z.2.2.2.1 z.2.2.2.2.1 z.2.2.2.2.2.1) (.seq .x .x)) (.seq (.join ⟨[(25, [(0, .val 20), (2, .val 0)]), (33, [(0, .val 20), (1, .val 20), (5, .func 170 [.ptr 0 0]), (6, .val 20)])], [.box 110 [.val 20]]⟩ (fun z => zam φ z.1 z.2.1 z.2.2.1 z.2.2.2.1 z.2.2.2.2.1 z.2.2.2.2.2.1) (.seq .x .x)) .x)))) .x) (.body (.loop ⟨[(33, [(0, .val 20), (1, .val 20), (5, .func 170 [.ptr 0 0]), (6, .val 20), (10, .val 0), (11, .val 0)])], [.box 110 [.val 20]]⟩ (fun n z => z09 φ n z.1 z.2.1 z.2.2.1 z.2.2.2.1 z.2.2.2.2.1 z.2.2.2.2.2.1) (fun zk30 => (.seq .x (.seq .x (.seq (.body (.seq .x (.seq .x (.seq (.ins 2 108 (.seq .x (.seq (.join ⟨[(25, [(0, .val 20), (2, .val 0)]), (33, [(0, .val 20), (1, .val 20), (5, .func 170 [.ptr 0 0]), (6, .val 20), (7, .val 0), (10, .val 0), (11, .val 0), (18, .val 20)])], [.box 110 [.val 20]]⟩ (fun z => z57 φ (fun a0 a1 a2 a3 a4 a5 => zk30 (a0, a1, a2, a3, a4, a5, ())) z.1 z.2.1 z.2.2.1 z.2.2.2.1 z.2.2.2.2.1 z.2.2.2.2.2.1 z.2.2.2.2.2.2.1 z.2.2.2.2.2.2.2.1 z.2.2.2.2.2.2.2.2.1 z.2.2.2.2.2.2.2.2.2.1) (.seq .x .x)) (.seq (.join ⟨[(25, [(0, .val 20), (2, .val 0)]), (33, [(0, .val 20), (1, .val 20), (5, .func 170 [.ptr 0 0]), (6, .val 20), (7, .val 0), (10, .val 0), (11, .val 0), (18, .val 20)])], [.box 110 [.val 20]]⟩ (fun z => zaj φ (fun a0 a1 a2 a3 a4 a5 => zk30 (a0, a1, a2, a3, a4, a5, ())) z.1 z.2.1 z.2.2.1 z.2.2.2.1 z.2.2.2.2.1 z.2.2.2.2.2.1 z.2.2.2.2.2.2.1 z.2.2.2.2.2.2.2.1 z.2.2.2.2.2.2.2.2.1 z.2.2.2.2.2.2.2.2.2.1) (.seq .x .x)) (.seq (.join ⟨[(25, [(0, .val 20), (2, .val 0)]), (33, [(0, .val 20), (1, .val 20), (5, .func 170 [.ptr 0 0]), (6, .val 20), (7, .val 0), (10, .val 0), (11, .val 0), (18, .val 20)])], [.box 110 [.val 20]]⟩ (fun z => zao φ (fun a0 a1 a2 a3 a4 a5 => zk30 (a0, a1, a2, a3, a4, a5, ())) z.1 z.2.1 z.2.2.1 z.2.2.2.1 z.2.2.2.2.1 z.2.2.2.2.2.1 z.2.2.2.2.2.2.1 z.2.2.2.2.2.2.2.1 z.2.2.2.2.2.2.2.2.1 z.2.2.2.2.2.2.2.2.2.1) (.seq .x .x)) .x)))) .x) .x)))) .x))))))) .x))))
def zki (P : Program) (φ : Nat) : Env TV := ⟨P, lk [(171, zgk φ), (172, zgu φ)], lk [], lk [], lk []⟩
theorem zzb (φ : Nat) (a) : (zkr φ).F a = fnX TV (zki Tryz.prog φ) φ Tryz.f113 [20, 20] [.val 20] (zhl φ) a := by kernel_rfl
theorem zz3 (φ : Nat) : fnO TV (zki Tryz.prog φ) φ Tryz.f113 [.val 20] (zhl φ) := by
 unfold fnO
 show obl _ _ _ _ _ _ _
 unfold zhl
 repeat' (first | exact trivial | (refine ⟨?_, ?_⟩) | (intro _) | kernel_rfl)
theorem zze [Dr] (φ : Nat) : z2d TV Tryz.prog 113 (zkr φ) :=
 z3i (N := zki Tryz.prog φ) (zl ⟨zud φ, zsu φ, trivial⟩ trivial trivial trivial) (zhl φ) Tryz.func113 (by kernel_rfl) (zzb φ) (zz3 φ)
def zdl (φ : Nat) : H TV (RTup TT [.val 1]) := .x
def zh7 (P : Program) (φ : Nat) : Env TV := ⟨P, lk [(113, zkr φ)], lk [], lk [], lk []⟩
theorem zsk (φ : Nat) (a) : (zh4 φ).F a = fnX TV (zh7 Tryz.prog φ) φ Tryz.f77 [20] [.val 1] (zdl φ) a := by kernel_rfl
theorem zuk (φ : Nat) : fnO TV (zh7 Tryz.prog φ) φ Tryz.f77 [.val 1] (zdl φ) := by
 unfold fnO
 show obl _ _ _ _ _ _ _
 unfold zdl
 repeat' (first | exact trivial | (refine ⟨?_, ?_⟩) | (intro _) | kernel_rfl)
theorem zuc [Dr] (φ : Nat) : z2d TV Tryz.prog 77 (zh4 φ) :=
 z3i (N := zh7 Tryz.prog φ) (zl ⟨zze φ, trivial⟩ trivial trivial trivial) (zdl φ) Tryz.func77 (by kernel_rfl) (zsk φ) (zuk φ)
end Px
end
section
set_option linter.unusedVariables false
set_option linter.unusedSimpArgs false
set_option maxHeartbeats 4000000
set_option maxRecDepth 100000
namespace Px
open Go Go.RowKit Go.Proofs
def z6z (φ : Nat) : H TV (RTup TT [.val 0]) := (.seq .x (.seq .x (.seq .x (.seq .x (.seq .x (.seq .x (.seq (.seq .x (.body (.loop ⟨[(193, [(1, .ptr 0 0), (5, .val 16), (6, .val 0), (7, .val 1), (57, .val 31), (58, .val 0), (59, .val 0)])], [.box 51 [.val 39]]⟩ (fun n z => z2e φ n z.1 z.2.1 z.2.2.1 z.2.2.2.1 z.2.2.2.2.1 z.2.2.2.2.2.1 z.2.2.2.2.2.2.1) (fun zk11 => .x)))) (.seq (.seq .x (.body (.loop ⟨[(193, [(1, .ptr 0 0), (5, .val 16), (6, .val 0), (7, .val 1), (92, .val 33), (93, .val 0), (94, .val 0)])], [.box 51 [.val 39]]⟩ (fun n z => z0w φ n z.1 z.2.1 z.2.2.1 z.2.2.2.1 z.2.2.2.2.1 z.2.2.2.2.2.1 z.2.2.2.2.2.2.1) (fun zk20 => .x)))) (.seq (.seq .x (.body (.loop ⟨[(193, [(1, .ptr 0 0), (5, .val 16), (6, .val 0), (7, .val 1), (120, .val 24), (121, .val 0), (122, .val 0)])], [.box 51 [.val 39]]⟩ (fun n z => z0s φ n z.1 z.2.1 z.2.2.1 z.2.2.2.1 z.2.2.2.2.1 z.2.2.2.2.2.1 z.2.2.2.2.2.2.1) (fun zk29 => .x)))) (.seq (.seq .x (.body (.loop ⟨[(193, [(1, .ptr 0 0), (6, .val 0), (7, .val 1), (135, .val 16), (136, .val 0), (137, .val 0)])], [.box 51 [.val 39]]⟩ (fun n z => z0p φ n z.1 z.2.1 z.2.2.1 z.2.2.2.1 z.2.2.2.2.1 z.2.2.2.2.2.1) (fun zk36 => .x)))) (.seq (.seq .x (.body (.loop ⟨[(193, [(1, .ptr 0 0), (6, .val 0), (7, .val 1), (157, .val 18), (158, .val 0), (159, .val 0)])], [.box 51 [.val 39]]⟩ (fun n z => z0q φ n z.1 z.2.1 z.2.2.1 z.2.2.2.1 z.2.2.2.2.1 z.2.2.2.2.2.1) (fun zk43 => .x)))) (.seq (.seq .x (.body (.loop ⟨[(193, [(7, .val 1), (172, .val 38), (173, .val 0), (174, .val 0)])], []⟩ (fun n z => z0x φ n z.1 z.2.1 z.2.2.1 z.2.2.2.1) (fun zk48 => .x)))) .x))))))))))))
def z9t (P : Program) (φ : Nat) : Env TV := ⟨P, lk [(73, zca φ), (74, zfe φ), (75, z8r φ), (76, zbg φ), (77, zh4 φ)], lk [], lk [], lk []⟩
theorem zld (φ : Nat) (a) : (z3x φ).F a = fnX TV (z9t Tryz.prog φ) φ Tryz.f49 [39] [.val 0] (z6z φ) a := by kernel_rfl
theorem zl4 (φ : Nat) : fnO TV (z9t Tryz.prog φ) φ Tryz.f49 [.val 0] (z6z φ) := by
 unfold fnO
 show obl _ _ _ _ _ _ _
 unfold z6z
 repeat' (first | exact trivial | (refine ⟨?_, ?_⟩) | (intro _) | kernel_rfl)
theorem z6v [Dr] (φ : Nat) : z2d TV Tryz.prog 49 (z3x φ) :=
 z3i (N := z9t Tryz.prog φ) (zl ⟨zo9 φ, zrb φ, zgh φ, zm4 φ, zuc φ, trivial⟩ trivial trivial trivial) (z6z φ) Tryz.func49 (by kernel_rfl) (zld φ) (zl4 φ)
def z92 (φ : Nat) : H TV (RTup TT [.val 1]) := .x
def zct (P : Program) (φ : Nat) : Env TV := ⟨P, lk [], lk [], lk [], lk []⟩
theorem zp7 (φ : Nat) (a) : (zcx φ).F a = fnX TV (zct Tryz.prog φ) φ Tryz.f59 [6] [.val 1] (z92 φ) a := by kernel_rfl
theorem zpe (φ : Nat) : fnO TV (zct Tryz.prog φ) φ Tryz.f59 [.val 1] (z92 φ) := by
 unfold fnO
 show obl _ _ _ _ _ _ _
 unfold z92
 repeat' (first | exact trivial | (refine ⟨?_, ?_⟩) | (intro _) | kernel_rfl)
theorem znq [Dr] (φ : Nat) : z2d TV Tryz.prog 59 (zcx φ) :=
 z3i (N := zct Tryz.prog φ) (zl trivial trivial trivial trivial) (z92 φ) Tryz.func59 (by kernel_rfl) (zp7 φ) (zpe φ)
def zfa (φ : Nat) : H TV (RTup TT [.val 1]) := (.seq .x (.seq (.seq .x (.body (.loop ⟨[(43, [(0, .val 5), (1, .val 1), (7, .val 5), (8, .val 0), (9, .val 0)])], []⟩ (fun n z => z8f φ n z.1 z.2.1 z.2.2.1 z.2.2.2.1 z.2.2.2.2.1) (fun zk8 => .x)))) .x))
def zim (P : Program) (φ : Nat) : Env TV := ⟨P, lk [], lk [], lk [], lk []⟩
theorem zv2 (φ : Nat) (a) : (zif φ).F a = fnX TV (zim Tryz.prog φ) φ Tryz.f135 [5, 1] [.val 1] (zfa φ) a := by kernel_rfl
theorem zv0 (φ : Nat) : fnO TV (zim Tryz.prog φ) φ Tryz.f135 [.val 1] (zfa φ) := by
 unfold fnO
 show obl _ _ _ _ _ _ _
 unfold zfa
 repeat' (first | exact trivial | (refine ⟨?_, ?_⟩) | (intro _) | kernel_rfl)
theorem zvl [Dr] (φ : Nat) : z2d TV Tryz.prog 135 (zif φ) :=
 z3i (N := zim Tryz.prog φ) (zl trivial trivial trivial trivial) (zfa φ) Tryz.func135 (by kernel_rfl) (zv2 φ) (zv0 φ)
def zdt (φ : Nat) : H TV (RTup TT [.val 1]) := (.seq .x (.seq .x (.seq (.join ⟨[(46, [(5, .ptr 0 0)])], [.box 157 [.val 41]]⟩ (fun z => ze φ z.1) (.seq .x (.cond (.ins 0 95 (.seq .x (.seq .x (.seq .x (.seq .x (.body (.seq .x (.cond .x (.seq .x (.cond (.seq (.ins 1 131 (.seq .x (.seq (.join ⟨[(66, [(0, .ptr 0 0), (1, .val 0), (4, .ptr 1 0)]), (135, [(0, .ptr 0 0)]), (46, [(5, .ptr 0 0)])], [.box 157 [.val 41], .box 129 [.val 15]]⟩ (fun z => z8w φ z.1 z.2.1 z.2.2.1) (.seq .x .x)) .x)) .x) .x) (.seq (.join ⟨[(135, [(0, .ptr 0 0), (2, .ptr 0 9), (20, .val 0), (43, .val 1)]), (46, [(5, .ptr 0 0)])], [.box 157 [.val 41]]⟩ (fun z => z7i φ z.1 z.2.1 z.2.2.1) (.seq .x .x)) (.cond (.seq (.ins 1 131 (.seq .x (.seq (.join ⟨[(66, [(0, .ptr 0 0), (1, .val 0), (4, .ptr 1 0)]), (135, [(0, .ptr 0 0), (2, .ptr 0 9)]), (46, [(5, .ptr 0 0)])], [.box 157 [.val 41], .box 129 [.val 15]]⟩ (fun z => z7d φ z.1 z.2.1 z.2.2.1) (.seq .x .x)) .x)) .x) .x) (.seq .x (.cond (.seq .x (.seq .x (.seq (.ins 1 131 (.seq .x (.seq (.join ⟨[(66, [(0, .ptr 0 0), (1, .val 0), (4, .ptr 1 0)]), (135, [(0, .ptr 0 0), (2, .ptr 0 9)]), (46, [(5, .ptr 0 0)])], [.box 157 [.val 41], .box 129 [.val 15]]⟩ (fun z => z7l φ z.1 z.2.1 z.2.2.1) (.seq .x .x)) .x)) .x) .x))) (.seq (.join ⟨[(135, [(0, .ptr 0 0), (2, .ptr 0 9), (116, .val 1)]), (46, [(5, .ptr 0 0)])], [.box 157 [.val 41]]⟩ (fun z => z7j φ z.1 z.2.1) (.seq .x .x)) (.cond (.seq (.ins 1 131 (.seq .x (.seq (.join ⟨[(66, [(0, .ptr 0 0), (1, .val 0), (4, .ptr 1 0)]), (135, [(0, .ptr 0 0), (2, .ptr 0 9)]), (46, [(5, .ptr 0 0)])], [.box 157 [.val 41], .box 129 [.val 15]]⟩ (fun z => z7o φ z.1 z.2.1 z.2.2.1) (.seq .x .x)) .x)) .x) .x) .x))))))))))))))) .x) (.ins 0 96 (.seq .x (.seq .x (.body (.seq .x (.cond .x (.seq .x (.cond (.seq .x (.seq (.ins 1 131 (.seq .x (.seq (.join ⟨[(66, [(0, .ptr 0 0), (1, .val 0), (4, .ptr 1 0)]), (168, [(0, .ptr 0 0), (2, .ptr 0 9)]), (46, [(5, .ptr 0 0)])], [.box 157 [.val 41], .box 129 [.val 15]]⟩ (fun z => z7n φ z.1 z.2.1 z.2.2.1) (.seq .x .x)) .x)) .x) .x)) (.seq .x (.cond .x (.seq (.join ⟨[(168, [(0, .ptr 0 0), (2, .ptr 0 9), (9, .val 0), (91, .val 1)]), (46, [(5, .ptr 0 0)])], [.box 157 [.val 41]]⟩ (fun z => z5g φ z.1 z.2.1 z.2.2.1) (.seq .x .x)) (.cond .x (.seq .x (.cond .x (.seq .x (.cond (.seq .x (.seq (.ins 1 131 (.seq .x (.seq (.join ⟨[(66, [(0, .ptr 0 0), (1, .val 0), (4, .ptr 1 0)]), (168, [(0, .ptr 0 0), (2, .ptr 0 9)]), (46, [(5, .ptr 0 0)])], [.box 157 [.val 41], .box 129 [.val 15]]⟩ (fun z => z7c φ z.1 z.2.1 z.2.2.1) (.seq .x .x)) .x)) .x) .x)) .x))))))))))))))) .x)))) (.seq (.seq .x (.body (.unr 12 .x))) .x))))
def zgw (P : Program) (φ : Nat) : Env TV := ⟨P, lk [(135, zif φ)], lk [], lk [], lk []⟩
theorem zsz (φ : Nat) (a) : (zh1 φ).F a = fnX TV (zgw Tryz.prog φ) φ Tryz.f60 [39, 6] [.val 1] (zdt φ) a := by kernel_rfl
theorem zt3 (φ : Nat) : fnO TV (zgw Tryz.prog φ) φ Tryz.f60 [.val 1] (zdt φ) := by
 unfold fnO
 show obl _ _ _ _ _ _ _
 unfold zdt
 repeat' (first | exact trivial | (refine ⟨?_, ?_⟩) | (intro _) | kernel_rfl)
theorem zun [Dr] (φ : Nat) : z2d TV Tryz.prog 60 (zh1 φ) :=
 z3i (N := zgw Tryz.prog φ) (zl ⟨zvl φ, trivial⟩ trivial trivial trivial) (zdt φ) Tryz.func60 (by kernel_rfl) (zsz φ) (zt3 φ)
def zfb (φ : Nat) : H TV (RTup TT [.val 0]) := .x
def zii (P : Program) (φ : Nat) : Env TV := ⟨P, lk [(49, z3x φ), (59, zcx φ), (60, zh1 φ)], lk [], lk [], lk []⟩
theorem zvk (φ : Nat) (a) : (z9l φ).F a = fnX TV (zii Tryz.prog φ) φ Tryz.f30 [39, 6] [.val 0] (zfb φ) a := by kernel_rfl
theorem zwk (φ : Nat) : fnO TV (zii Tryz.prog φ) φ Tryz.f30 [.val 0] (zfb φ) := by
 unfold fnO
 show obl _ _ _ _ _ _ _
 unfold zfb
 repeat' (first | exact trivial | (refine ⟨?_, ?_⟩) | (intro _) | kernel_rfl)
theorem zev [Dr] (φ : Nat) : z2d TV Tryz.prog 30 (z9l φ) :=
 z3i (N := zii Tryz.prog φ) (zl ⟨z6v φ, znq φ, zun φ, trivial⟩ trivial trivial trivial) (zfb φ) Tryz.func30 (by kernel_rfl) (zvk φ) (zwk φ)
def z7z (φ : Nat) : H TV (RTup TT [.val 1]) := .x
def zb2 (P : Program) (φ : Nat) : Env TV := ⟨P, lk [(47, z9p φ)], lk [], lk [], lk []⟩
theorem zm6 (φ : Nat) (a b) : (zb8 φ).F a b = fnXc TV (zb2 Tryz.prog φ) φ Tryz.f51 [2] [.b (.map 9 1)] [.val 1] (z7z φ) a b := by kernel_rfl
theorem zme (φ : Nat) : fnO TV (zb2 Tryz.prog φ) φ Tryz.f51 [.val 1] (z7z φ) := by
 unfold fnO
 show obl _ _ _ _ _ _ _
 unfold z7z
 repeat' (first | exact trivial | (refine ⟨?_, ?_⟩) | (intro _) | kernel_rfl)
theorem zmp [Dr] (φ : Nat) : zz5 TV Tryz.prog 51 (zb8 φ) :=
 yae (N := zb2 Tryz.prog φ) (zl ⟨zfh φ, trivial⟩ trivial trivial trivial) (z7z φ) Tryz.func51 (by kernel_rfl) (zm6 φ) (zme φ)
def z7r (φ : Nat) : H TV (RTup TT [.val 0]) := .x
def zap (P : Program) (φ : Nat) : Env TV := ⟨P, lk [(49, z3x φ)], lk [], lk [], lk []⟩
theorem zma (φ : Nat) (a) : (zas φ).F a = fnX TV (zap Tryz.prog φ) φ Tryz.f61 [39, 0, 0] [.val 0] (z7r φ) a := by kernel_rfl
theorem zmm (φ : Nat) : fnO TV (zap Tryz.prog φ) φ Tryz.f61 [.val 0] (z7r φ) := by
 unfold fnO
 show obl _ _ _ _ _ _ _
 unfold z7r
 repeat' (first | exact trivial | (refine ⟨?_, ?_⟩) | (intro _) | kernel_rfl)
theorem zmj [Dr] (φ : Nat) : z2d TV Tryz.prog 61 (zas φ) :=
 z3i (N := zap Tryz.prog φ) (zl ⟨z6v φ, trivial⟩ trivial trivial trivial) (z7r φ) Tryz.func61 (by kernel_rfl) (zma φ) (zmm φ)
def zbs (φ : Nat) : H TV (RTup TT [.row 3 0]) := (.seq .x (.seq .x (.seq (.seq .x (.body (.loop ⟨[(35, [(2, .val 0), (3, .ptr 0 0), (7, .own 1), (10, .val 10), (11, .val 0), (12, .val 0)])], [.box 51 [.val 39], .row 3 0]⟩ (fun n z => z4c φ n z.1 z.2.1 z.2.2.1 z.2.2.2.1 z.2.2.2.2.1 z.2.2.2.2.2.1) (fun zk10 => .x)))) .x)))
def zf0 (P : Program) (φ : Nat) : Env TV := ⟨P, lk [(30, z9l φ)], lk [], lk [], lk []⟩
theorem zru (φ : Nat) (a) : (zfc φ).F a = fnX TV (zf0 Tryz.prog φ) φ Tryz.f160 [39, 10, 0] [.row 3 0] (zbs φ) a := by kernel_rfl
theorem zsh (φ : Nat) : fnO TV (zf0 Tryz.prog φ) φ Tryz.f160 [.row 3 0] (zbs φ) := by
 unfold fnO
 show obl _ _ _ _ _ _ _
 unfold zbs
 repeat' (first | exact trivial | (refine ⟨?_, ?_⟩) | (intro _) | kernel_rfl)
theorem zs9 [Dr] (φ : Nat) : z2d TV Tryz.prog 160 (zfc φ) :=
 z3i (N := zf0 Tryz.prog φ) (zl ⟨zev φ, trivial⟩ trivial trivial trivial) (zbs φ) Tryz.func160 (by kernel_rfl) (zru φ) (zsh φ)
def z7q (φ : Nat) : H TV (RTup TT [.val 0]) := .x
def zaw (P : Program) (φ : Nat) : Env TV := ⟨P, lk [(40, z3n φ), (39, zbr φ)], lk [], lk [], lk []⟩
theorem zmy (φ : Nat) (a) : (z60 φ).F a = fnX TV (zaw Tryz.prog φ) φ Tryz.f139 [3, 3] [.val 0] (z7q φ) a := by kernel_rfl
theorem zm2 (φ : Nat) : fnO TV (zaw Tryz.prog φ) φ Tryz.f139 [.val 0] (z7q φ) := by
 unfold fnO
 show obl _ _ _ _ _ _ _
 unfold z7q
 repeat' (first | exact trivial | (refine ⟨?_, ?_⟩) | (intro _) | kernel_rfl)
theorem zbb [Dr] (φ : Nat) : z2d TV Tryz.prog 139 (z60 φ) :=
 z3i (N := zaw Tryz.prog φ) (zl ⟨z5t φ, zf6 φ, trivial⟩ trivial trivial trivial) (z7q φ) Tryz.func139 (by kernel_rfl) (zmy φ) (zm2 φ)
def z6h (φ : Nat) : H TV (RTup TT [.val 0]) := .x
def z8s (P : Program) (φ : Nat) : Env TV := ⟨P, lk [(40, z3n φ), (139, z60 φ), (39, zbr φ)], lk [], lk [], lk []⟩
theorem ziv (φ : Nat) (a b) : (z8l φ).F a b = fnXc TV (z8s Tryz.prog φ) φ Tryz.f162 [0, 0] [.b (.val 10)] [.val 0] (z6h φ) a b := by kernel_rfl
theorem zip (φ : Nat) : fnO TV (z8s Tryz.prog φ) φ Tryz.f162 [.val 0] (z6h φ) := by
 unfold fnO
 show obl _ _ _ _ _ _ _
 unfold z6h
 repeat' (first | exact trivial | (refine ⟨?_, ?_⟩) | (intro _) | kernel_rfl)
theorem zj9 [Dr] (φ : Nat) : zz5 TV Tryz.prog 162 (z8l φ) :=
 yae (N := z8s Tryz.prog φ) (zl ⟨z5t φ, zbb φ, zf6 φ, trivial⟩ trivial trivial trivial) (z6h φ) Tryz.func162 (by kernel_rfl) (ziv φ) (zip φ)
def z04 (φ : Nat) : H TV (List (TT 0)) := (.seq .x (.body (.loop ⟨[(53, [(0, .own 0), (1, .val 0), (2, .val 0), (3, .cmp 0), (8, .val 0)]), (1, [(0, .own 0)])], [.row 3 0]⟩ (fun n z => z0t φ n z.1 z.2.1 z.2.2.1 z.2.2.2.1 z.2.2.2.2.1) (fun zk10 => (.seq .x (.seq (.body (.seq .x (.body (.loop ⟨[(53, [(0, .own 0), (1, .val 0), (2, .val 0), (3, .cmp 0), (8, .val 0), (9, .val 0)]), (1, [(0, .own 0)])], [.row 3 0]⟩ (fun n z => z0v φ (fun a0 a1 a2 a3 a4 => zk10 (a0, a1, a2, a3, a4, ())) n z.1 z.2.1 z.2.2.1 z.2.2.2.1 z.2.2.2.2.1 z.2.2.2.2.2.1) (fun zk17 => .x))))) .x))))))
def z1b (P : Program) (φ : Nat) : Env TV := ⟨P, lk [], lk [], lk [], lk []⟩
theorem z8x (φ : Nat) (l a) : (z1e φ).F l a = fnM TV (z1b Tryz.prog φ) φ Tryz.f185 3 0 [.val 0, .val 0, .cmp 0] (z04 φ) l a := by kernel_rfl
theorem z9a (φ : Nat) : fnMO TV (z1b Tryz.prog φ) φ Tryz.f185 3 0 (z04 φ) := by
 unfold fnMO
 show obl _ _ _ _ _ _ _
 unfold z04
 repeat' (first | exact trivial | (refine ⟨?_, ?_⟩) | (intro _) | kernel_rfl)
theorem z8z [Dr] (φ : Nat) : zd3 TV Tryz.prog 185 (z1e φ) := z9i (N := z1b Tryz.prog φ) (zl trivial trivial trivial trivial) (z04 φ) Tryz.func185 (by kernel_rfl) (z8x φ) (z9a φ)
def z0m (φ : Nat) : H TV (List (TT 0)) := (.seq .x (.body (.loop ⟨[(38, [(0, .own 0), (1, .val 0), (2, .val 0), (3, .val 0), (10, .val 0)]), (1, [(0, .own 0)])], [.row 3 0]⟩ (fun n z => z21 φ n z.1 z.2.1 z.2.2.1 z.2.2.2.1 z.2.2.2.2.1) (fun zk11 => .x))))
def z3g (P : Program) (φ : Nat) : Env TV := ⟨P, lk [], lk [], lk [], lk []⟩
theorem zav (φ : Nat) (l a) : (z3d φ).F l a = fnM TV (z3g Tryz.prog φ) φ Tryz.f190 3 0 [.val 0, .val 0, .val 0, .cmp 0] (z0m φ) l a := by kernel_rfl
theorem zb5 (φ : Nat) : fnMO TV (z3g Tryz.prog φ) φ Tryz.f190 3 0 (z0m φ) := by
 unfold fnMO
 show obl _ _ _ _ _ _ _
 unfold z0m
 repeat' (first | exact trivial | (refine ⟨?_, ?_⟩) | (intro _) | kernel_rfl)
theorem zat [Dr] (φ : Nat) : zd3 TV Tryz.prog 190 (z3d φ) := z9i (N := z3g Tryz.prog φ) (zl trivial trivial trivial trivial) (z0m φ) Tryz.func190 (by kernel_rfl) (zav φ) (zb5 φ)
def z1p (φ : Nat) : H TV (List (TT 0)) := (.seq .x (.seq .x (.seq (.body (.loop ⟨[(58, [(0, .own 0), (2, .val 0), (4, .cmp 0), (10, .val 0), (11, .val 0)]), (1, [(0, .own 0)])], [.row 3 0]⟩ (fun n z => z12 φ n z.1 z.2.1 z.2.2.1 z.2.2.2.1 z.2.2.2.2.1) (fun zk11 => .x))) .x)))
def z4p (P : Program) (φ : Nat) : Env TV := ⟨P, lk [], lk [(190, z3d φ)], lk [], lk []⟩
theorem zdg (φ : Nat) (l a) : (z4k φ).F l a = fnM TV (z4p Tryz.prog φ) φ Tryz.f188 3 0 [.val 0, .val 0, .val 0, .cmp 0] (z1p φ) l a := by kernel_rfl
theorem zd7 (φ : Nat) : fnMO TV (z4p Tryz.prog φ) φ Tryz.f188 3 0 (z1p φ) := by
 unfold fnMO
 show obl _ _ _ _ _ _ _
 unfold z1p
 repeat' (first | exact trivial | (refine ⟨?_, ?_⟩) | (intro _) | kernel_rfl)
theorem zde [Dr] (φ : Nat) : zd3 TV Tryz.prog 188 (z4k φ) := z9i (N := z4p Tryz.prog φ) (zl trivial ⟨(zat φ), trivial⟩ trivial trivial) (z1p φ) Tryz.func188 (by kernel_rfl) (zdg φ) (zd7 φ)
def z10 (φ d : Nat) : H TV (List (TT 0)) := (.seq (.seq .x (.cond (.seq .x (.seq .x (.seq (.body (.loop ⟨[(220, [(0, .own 0), (1, .val 0), (4, .cmp 0), (10, .val 0), (11, .val 0)]), (1, [(0, .own 0)])], [.row 3 0]⟩ (fun n z => z0i φ n z.1 z.2.1 z.2.2.1 z.2.2.2.1 z.2.2.2.2.1) (fun zk11 => .x))) (.seq (.seq .x (.body (.loop ⟨[(220, [(0, .own 0), (10, .val 0), (13, .val 0)]), (1, [(0, .own 0)])], [.row 3 0]⟩ (fun n z => z2u φ n z.1 z.2.1 z.2.2.1) (fun zk16 => .x)))) .x)))) .x)) (.seq (.seq .x (.cond (.seq .x (.seq .x (.seq (.body (.loop ⟨[(220, [(0, .own 0), (2, .val 0), (4, .cmp 0), (14, .val 0), (15, .val 0)]), (1, [(0, .own 0)])], [.row 3 0]⟩ (fun n z => z0e φ n z.1 z.2.1 z.2.2.1 z.2.2.2.1 z.2.2.2.2.1) (fun zk22 => .x))) (.seq (.seq .x (.body (.loop ⟨[(220, [(0, .own 0), (14, .val 0), (17, .val 0)]), (1, [(0, .own 0)])], [.row 3 0]⟩ (fun n z => z2x φ n z.1 z.2.1 z.2.2.1) (fun zk27 => .x)))) .x)))) .x)) (.seq .x (.seq .x (.seq .x (.seq (.join ⟨[(220, [(0, .own 0), (1, .val 0), (2, .val 0), (3, .val 0), (4, .cmp 0), (18, .val 0), (19, .val 0), (20, .val 0), (21, .val 0)]), (1, [(0, .own 0)])], [.row 3 0]⟩ (fun z => z2s φ (zi φ d) z.1 z.2.1 z.2.2.1 z.2.2.2.1 z.2.2.2.2.1 z.2.2.2.2.2.1 z.2.2.2.2.2.2.1 z.2.2.2.2.2.2.2.1 z.2.2.2.2.2.2.2.2.1) (.seq .x .x)) (.seq .x (.seq (.body (.loop ⟨[(220, [(0, .own 0), (1, .val 0), (2, .val 0), (3, .val 0), (4, .cmp 0), (18, .val 0), (19, .val 0), (20, .val 0), (21, .val 0), (22, .val 0)]), (1, [(0, .own 0)])], [.row 3 0]⟩ (fun n z => z0d φ (zi φ d) n z.1 z.2.1 z.2.2.1 z.2.2.2.1 z.2.2.2.2.1 z.2.2.2.2.2.1 z.2.2.2.2.2.2.1 z.2.2.2.2.2.2.2.1 z.2.2.2.2.2.2.2.2.1 z.2.2.2.2.2.2.2.2.2.1) (fun zk48 => .x))) (.seq .x (.seq (.join ⟨[(220, [(0, .own 0), (1, .val 0), (3, .val 0), (4, .cmp 0), (18, .val 0), (20, .val 0), (24, .val 0)]), (1, [(0, .own 0)])], [.row 3 0]⟩ (fun z => z2t φ (zi φ d) z.1 z.2.1 z.2.2.1 z.2.2.2.1 z.2.2.2.2.1 z.2.2.2.2.2.1 z.2.2.2.2.2.2.1) (.seq .x .x)) (.seq (.join ⟨[(220, [(0, .own 0), (3, .val 0), (4, .cmp 0), (18, .val 0), (24, .val 0)]), (1, [(0, .own 0)])], [.row 3 0]⟩ (fun z => z2p φ (zi φ d) z.1 z.2.1 z.2.2.1 z.2.2.2.1 z.2.2.2.2.1) (.seq .x .x)) .x)))))))))))
def z3l (P : Program) (φ d : Nat) : Env TV := ⟨P, lk [], lk [(188, z4k φ), (186, z0z φ d)], lk [], lk []⟩
theorem zc2 (φ d : Nat) (l a) : (z0z φ (d + 1)).F l a = fnM TV (z3l Tryz.prog φ d) φ Tryz.f186 3 0 [.val 0, .val 0, .val 0, .cmp 0] (z10 φ d) l a := by kernel_rfl
theorem zc1 (φ d : Nat) : fnMO TV (z3l Tryz.prog φ d) φ Tryz.f186 3 0 (z10 φ d) := by
 unfold fnMO
 show obl _ _ _ _ _ _ _
 unfold z10
 repeat' (first | exact trivial | (refine ⟨?_, ?_⟩) | (intro _) | kernel_rfl)
theorem z6g [Dr] (φ : Nat) : ∀ d, zd3 TV Tryz.prog 186 (z0z φ d)
 | 0 => fun l a l2 sv h => absurd (show (none : Option (List (TT 0))) = some l2 from h) (fun q => by cases q)
 | d + 1 => z9i (N := z3l Tryz.prog φ d) (zl trivial ⟨(zde φ), (z6g φ d), trivial⟩ trivial trivial) (z10 φ d) Tryz.func186 (by kernel_rfl) (zc2 φ d) (zc1 φ d)
def z1r (φ : Nat) : H TV (List (TT 0)) := (.seq .x (.seq .x (.seq (.body (.loop ⟨[(63, [(0, .own 0), (1, .val 0), (2, .cmp 0), (6, .val 0), (7, .val 0), (8, .val 0)]), (1, [(0, .own 0)])], [.row 3 0]⟩ (fun n z => z3o φ n z.1 z.2.1 z.2.2.1 z.2.2.2.1 z.2.2.2.2.1 z.2.2.2.2.2.1) (fun zk10 => .x))) (.seq .x (.body (.loop ⟨[(63, [(0, .own 0), (1, .val 0), (2, .cmp 0), (6, .val 0)]), (1, [(0, .own 0)])], [.row 3 0]⟩ (fun n z => z3k φ n z.1 z.2.1 z.2.2.1 z.2.2.2.1) (fun zk17 => (.seq .x (.body (.seq .x (.seq (.body (.loop ⟨[(63, [(0, .own 0), (1, .val 0), (2, .cmp 0), (6, .val 0), (7, .val 0), (8, .val 0)]), (1, [(0, .own 0)])], [.row 3 0]⟩ (fun n z => z3t φ (fun a0 a1 a2 a3 => zk17 (a0, a1, a2, a3, ())) n z.1 z.2.1 z.2.2.1 z.2.2.2.1 z.2.2.2.2.1 z.2.2.2.2.2.1) (fun zk24 => .x))) .x)))))))))))
def z4o (P : Program) (φ : Nat) : Env TV := ⟨P, lk [], lk [(185, z1e φ), (186, z0z φ φ)], lk [], lk []⟩
theorem zda (φ : Nat) (l a) : (z4h φ).F l a = fnM TV (z4o Tryz.prog φ) φ Tryz.f179 3 0 [.val 0, .cmp 0] (z1r φ) l a := by kernel_rfl
theorem zd8 (φ : Nat) : fnMO TV (z4o Tryz.prog φ) φ Tryz.f179 3 0 (z1r φ) := by
 unfold fnMO
 show obl _ _ _ _ _ _ _
 unfold z1r
 repeat' (first | exact trivial | (refine ⟨?_, ?_⟩) | (intro _) | kernel_rfl)
theorem zdh [Dr] (φ : Nat) : zd3 TV Tryz.prog 179 (z4h φ) := z9i (N := z4o Tryz.prog φ) (zl trivial ⟨(z8z φ), (z6g φ φ), trivial⟩ trivial trivial) (z1r φ) Tryz.func179 (by kernel_rfl) (zda φ) (zd8 φ)
def z1l (φ : Nat) : H TV (List (TT 0)) := .x
def z41 (P : Program) (φ : Nat) : Env TV := ⟨P, lk [], lk [(179, z4h φ)], lk [], lk []⟩
theorem zcv (φ : Nat) (l a) : (z44 φ).F l a = fnM TV (z41 Tryz.prog φ) φ Tryz.f161 3 0 [.cmp 0] (z1l φ) l a := by kernel_rfl
theorem zcl (φ : Nat) : fnMO TV (z41 Tryz.prog φ) φ Tryz.f161 3 0 (z1l φ) := by
 unfold fnMO
 show obl _ _ _ _ _ _ _
 unfold z1l
 repeat' (first | exact trivial | (refine ⟨?_, ?_⟩) | (intro _) | kernel_rfl)
theorem zcm [Dr] (φ : Nat) : zd3 TV Tryz.prog 161 (z44 φ) := z9i (N := z41 Tryz.prog φ) (zl trivial ⟨(zdh φ), trivial⟩ trivial trivial) (z1l φ) Tryz.func161 (by kernel_rfl) (zcv φ) (zcl φ)
def z6w (φ : Nat) : H TV (RTup TT [.val 1]) := .x
def z9x (P : Program) (φ : Nat) : Env TV := ⟨P, lk [], lk [], lk [], lk []⟩
theorem zkw (φ : Nat) (a) : (z9u φ).F a = fnX TV (z9x Tryz.prog φ) φ Tryz.f163 [39, 7] [.val 1] (z6w φ) a := by kernel_rfl
theorem zka (φ : Nat) : fnO TV (z9x Tryz.prog φ) φ Tryz.f163 [.val 1] (z6w φ) := by
 unfold fnO
 show obl _ _ _ _ _ _ _
 unfold z6w
 repeat' (first | exact trivial | (refine ⟨?_, ?_⟩) | (intro _) | kernel_rfl)
theorem zkp [Dr] (φ : Nat) : z2d TV Tryz.prog 163 (z9u φ) :=
 z3i (N := z9x Tryz.prog φ) (zl trivial trivial trivial trivial) (z6w φ) Tryz.func163 (by kernel_rfl) (zkw φ) (zka φ)
def za9 (φ : Nat) : H TV (RTup TT [.val 0]) := .x
def zec (P : Program) (φ : Nat) : Env TV := ⟨P, lk [], lk [], lk [], lk []⟩
theorem zph (φ : Nat) (a) : (ze7 φ).F a = fnX TV (zec Tryz.prog φ) φ Tryz.f164 [7, 7] [.val 0] (za9 φ) a := by kernel_rfl
theorem zpu (φ : Nat) : fnO TV (zec Tryz.prog φ) φ Tryz.f164 [.val 0] (za9 φ) := by
 unfold fnO
 show obl _ _ _ _ _ _ _
 unfold za9
 repeat' (first | exact trivial | (refine ⟨?_, ?_⟩) | (intro _) | kernel_rfl)
theorem zpj [Dr] (φ : Nat) : z2d TV Tryz.prog 164 (ze7 φ) :=
 z3i (N := zec Tryz.prog φ) (zl trivial trivial trivial trivial) (za9 φ) Tryz.func164 (by kernel_rfl) (zph φ) (zpu φ)
def z7s (φ : Nat) : H TV (RTup TT [.val 43]) := (.seq .x (.seq .x (.seq .x (.seq .x (.seq .x (.seq .x (.seq (.seq .x (.body (.loop ⟨[(137, [(2, .ptr 0 0), (3, .ptr 1 0), (6, .own 2), (7, .own 3), (8, .own 4), (29, .own 5), (30, .val 0), (31, .val 0)])], [.box 51 [.val 39], .box 22 [.val 10], .row 3 0, .map 0 1 0, .row 200 42, .row 3 0]⟩ (fun n z => z17 φ n z.1 z.2.1 z.2.2.1 z.2.2.2.1 z.2.2.2.2.1 z.2.2.2.2.2.1 z.2.2.2.2.2.2.1 z.2.2.2.2.2.2.2.1) (fun zk15 => (.seq .x (.seq .x (.seq (.body (.seq .x (.body (.seq .x (.seq .x (.seq .x (.seq .x (.seq (.seq .x (.body (.loop ⟨[(137, [(2, .ptr 0 0), (3, .ptr 1 0), (6, .own 2), (7, .own 3), (8, .own 4), (10, .val 0), (11, .ptr 5 0), (12, .val 0), (29, .own 6), (30, .val 0), (31, .val 0), (43, .own 2), (44, .val 0), (45, .val 0)])], [.box 51 [.val 39], .box 22 [.val 10], .row 3 0, .map 0 1 0, .row 200 42, .box 57 [.val 7], .row 3 0]⟩ (fun n z => z07 φ (fun a0 a1 a2 a3 a4 a5 a6 a7 => zk15 (a0, a1, a2, a3, a4, a5, a6, a7, ())) n z.1 z.2.1 z.2.2.1 z.2.2.2.1 z.2.2.2.2.1 z.2.2.2.2.2.1 z.2.2.2.2.2.2.1 z.2.2.2.2.2.2.2.1 z.2.2.2.2.2.2.2.2.1 z.2.2.2.2.2.2.2.2.2.1 z.2.2.2.2.2.2.2.2.2.2.1 z.2.2.2.2.2.2.2.2.2.2.2.1 z.2.2.2.2.2.2.2.2.2.2.2.2.1) (fun zk30 => .x)))) .x)))))))) .x))))))) .x)))))))
def zau (P : Program) (φ : Nat) : Env TV := ⟨P, lk [(49, z3x φ), (160, zfc φ), (163, z9u φ), (164, ze7 φ), (40, z3n φ), (139, z60 φ), (39, zbr φ)], lk [(161, z44 φ)], lk [(162, z8l φ)], lk []⟩
theorem zlz (φ : Nat) (a) : (zb7 φ).F a = fnX TV (zau Tryz.prog φ) φ Tryz.f136 [39, 10] [.val 43] (z7s φ) a := by kernel_rfl
theorem zm0 (φ : Nat) : fnO TV (zau Tryz.prog φ) φ Tryz.f136 [.val 43] (z7s φ) := by
 unfold fnO
 show obl _ _ _ _ _ _ _
 unfold z7s
 repeat' (first | exact trivial | (refine ⟨?_, ?_⟩) | (intro _) | kernel_rfl)
theorem zmi [Dr] (φ : Nat) : z2d TV Tryz.prog 136 (zb7 φ) :=
 z3i (N := zau Tryz.prog φ) (zl ⟨z6v φ, zs9 φ, zkp φ, zpj φ, z5t φ, zbb φ, zf6 φ, trivial⟩ ⟨(zcm φ), trivial⟩ ⟨zj9 φ, trivial⟩ trivial) (z7s φ) Tryz.func136 (by kernel_rfl) (zlz φ) (zm0 φ)
def z06 (φ : Nat) : H TV (List (TT 44)) := (.seq .x (.body (.loop ⟨[(53, [(0, .own 0), (1, .val 0), (2, .val 0), (3, .cmp 44), (8, .val 0)]), (1, [(0, .own 0)])], [.row 165 44]⟩ (fun n z => z0u φ n z.1 z.2.1 z.2.2.1 z.2.2.2.1 z.2.2.2.2.1) (fun zk10 => (.seq .x (.seq (.body (.seq .x (.body (.loop ⟨[(53, [(0, .own 0), (1, .val 0), (2, .val 0), (3, .cmp 44), (8, .val 0), (9, .val 0)]), (1, [(0, .own 0)])], [.row 165 44]⟩ (fun n z => z0r φ (fun a0 a1 a2 a3 a4 => zk10 (a0, a1, a2, a3, a4, ())) n z.1 z.2.1 z.2.2.1 z.2.2.2.1 z.2.2.2.2.1 z.2.2.2.2.2.1) (fun zk17 => .x))))) .x))))))
def z1j (P : Program) (φ : Nat) : Env TV := ⟨P, lk [], lk [], lk [], lk []⟩
theorem z9e (φ : Nat) (l a) : (z1i φ).F l a = fnM TV (z1j Tryz.prog φ) φ Tryz.f180 165 44 [.val 0, .val 0, .cmp 44] (z06 φ) l a := by kernel_rfl
theorem z95 (φ : Nat) : fnMO TV (z1j Tryz.prog φ) φ Tryz.f180 165 44 (z06 φ) := by
 unfold fnMO
 show obl _ _ _ _ _ _ _
 unfold z06
 repeat' (first | exact trivial | (refine ⟨?_, ?_⟩) | (intro _) | kernel_rfl)
theorem z8j [Dr] (φ : Nat) : zd3 TV Tryz.prog 180 (z1i φ) := z9i (N := z1j Tryz.prog φ) (zl trivial trivial trivial trivial) (z06 φ) Tryz.func180 (by kernel_rfl) (z9e φ) (z95 φ)
def z0o (φ : Nat) : H TV (List (TT 44)) := (.seq .x (.body (.loop ⟨[(38, [(0, .own 0), (1, .val 0), (2, .val 0), (3, .val 0), (10, .val 0)]), (1, [(0, .own 0)])], [.row 165 44]⟩ (fun n z => z2f φ n z.1 z.2.1 z.2.2.1 z.2.2.2.1 z.2.2.2.2.1) (fun zk11 => .x))))
def z38 (P : Program) (φ : Nat) : Env TV := ⟨P, lk [], lk [], lk [], lk []⟩
theorem zaz (φ : Nat) (l a) : (z3f φ).F l a = fnM TV (z38 Tryz.prog φ) φ Tryz.f189 165 44 [.val 0, .val 0, .val 0, .cmp 44] (z0o φ) l a := by kernel_rfl
theorem zb1 (φ : Nat) : fnMO TV (z38 Tryz.prog φ) φ Tryz.f189 165 44 (z0o φ) := by
 unfold fnMO
 show obl _ _ _ _ _ _ _
 unfold z0o
 repeat' (first | exact trivial | (refine ⟨?_, ?_⟩) | (intro _) | kernel_rfl)
theorem zbj [Dr] (φ : Nat) : zd3 TV Tryz.prog 189 (z3f φ) := z9i (N := z38 Tryz.prog φ) (zl trivial trivial trivial trivial) (z0o φ) Tryz.func189 (by kernel_rfl) (zaz φ) (zb1 φ)
def z1v (φ : Nat) : H TV (List (TT 44)) := (.seq .x (.seq .x (.seq (.body (.loop ⟨[(58, [(0, .own 0), (2, .val 0), (4, .cmp 44), (10, .val 0), (11, .val 0)]), (1, [(0, .own 0)])], [.row 165 44]⟩ (fun n z => z11 φ n z.1 z.2.1 z.2.2.1 z.2.2.2.1 z.2.2.2.2.1) (fun zk11 => .x))) .x)))
def z4s (P : Program) (φ : Nat) : Env TV := ⟨P, lk [], lk [(189, z3f φ)], lk [], lk []⟩
theorem zdj (φ : Nat) (l a) : (z4r φ).F l a = fnM TV (z4s Tryz.prog φ) φ Tryz.f187 165 44 [.val 0, .val 0, .val 0, .cmp 44] (z1v φ) l a := by kernel_rfl
theorem zdb (φ : Nat) : fnMO TV (z4s Tryz.prog φ) φ Tryz.f187 165 44 (z1v φ) := by
 unfold fnMO
 show obl _ _ _ _ _ _ _
 unfold z1v
 repeat' (first | exact trivial | (refine ⟨?_, ?_⟩) | (intro _) | kernel_rfl)
theorem zdd [Dr] (φ : Nat) : zd3 TV Tryz.prog 187 (z4r φ) := z9i (N := z4s Tryz.prog φ) (zl trivial ⟨(zbj φ), trivial⟩ trivial trivial) (z1v φ) Tryz.func187 (by kernel_rfl) (zdj φ) (zdb φ)
def z13 (φ d : Nat) : H TV (List (TT 44)) := (.seq (.seq .x (.cond (.seq .x (.seq .x (.seq (.body (.loop ⟨[(220, [(0, .own 0), (1, .val 0), (4, .cmp 44), (10, .val 0), (11, .val 0)]), (1, [(0, .own 0)])], [.row 165 44]⟩ (fun n z => z0g φ n z.1 z.2.1 z.2.2.1 z.2.2.2.1 z.2.2.2.2.1) (fun zk11 => .x))) (.seq (.seq .x (.body (.loop ⟨[(220, [(0, .own 0), (10, .val 0), (13, .val 0)]), (1, [(0, .own 0)])], [.row 165 44]⟩ (fun n z => z2n φ n z.1 z.2.1 z.2.2.1) (fun zk16 => .x)))) .x)))) .x)) (.seq (.seq .x (.cond (.seq .x (.seq .x (.seq (.body (.loop ⟨[(220, [(0, .own 0), (2, .val 0), (4, .cmp 44), (14, .val 0), (15, .val 0)]), (1, [(0, .own 0)])], [.row 165 44]⟩ (fun n z => z0f φ n z.1 z.2.1 z.2.2.1 z.2.2.2.1 z.2.2.2.2.1) (fun zk22 => .x))) (.seq (.seq .x (.body (.loop ⟨[(220, [(0, .own 0), (14, .val 0), (17, .val 0)]), (1, [(0, .own 0)])], [.row 165 44]⟩ (fun n z => z2q φ n z.1 z.2.1 z.2.2.1) (fun zk27 => .x)))) .x)))) .x)) (.seq .x (.seq .x (.seq .x (.seq (.join ⟨[(220, [(0, .own 0), (1, .val 0), (2, .val 0), (3, .val 0), (4, .cmp 44), (18, .val 0), (19, .val 0), (20, .val 0), (21, .val 0)]), (1, [(0, .own 0)])], [.row 165 44]⟩ (fun z => z2m φ (zj φ d) z.1 z.2.1 z.2.2.1 z.2.2.2.1 z.2.2.2.2.1 z.2.2.2.2.2.1 z.2.2.2.2.2.2.1 z.2.2.2.2.2.2.2.1 z.2.2.2.2.2.2.2.2.1) (.seq .x .x)) (.seq .x (.seq (.body (.loop ⟨[(220, [(0, .own 0), (1, .val 0), (2, .val 0), (3, .val 0), (4, .cmp 44), (18, .val 0), (19, .val 0), (20, .val 0), (21, .val 0), (22, .val 0)]), (1, [(0, .own 0)])], [.row 165 44]⟩ (fun n z => z0h φ (zj φ d) n z.1 z.2.1 z.2.2.1 z.2.2.2.1 z.2.2.2.2.1 z.2.2.2.2.2.1 z.2.2.2.2.2.2.1 z.2.2.2.2.2.2.2.1 z.2.2.2.2.2.2.2.2.1 z.2.2.2.2.2.2.2.2.2.1) (fun zk48 => .x))) (.seq .x (.seq (.join ⟨[(220, [(0, .own 0), (1, .val 0), (3, .val 0), (4, .cmp 44), (18, .val 0), (20, .val 0), (24, .val 0)]), (1, [(0, .own 0)])], [.row 165 44]⟩ (fun z => z2w φ (zj φ d) z.1 z.2.1 z.2.2.1 z.2.2.2.1 z.2.2.2.2.1 z.2.2.2.2.2.1 z.2.2.2.2.2.2.1) (.seq .x .x)) (.seq (.join ⟨[(220, [(0, .own 0), (3, .val 0), (4, .cmp 44), (18, .val 0), (24, .val 0)]), (1, [(0, .own 0)])], [.row 165 44]⟩ (fun z => z2o φ (zj φ d) z.1 z.2.1 z.2.2.1 z.2.2.2.1 z.2.2.2.2.1) (.seq .x .x)) .x)))))))))))
def z3j (P : Program) (φ d : Nat) : Env TV := ⟨P, lk [], lk [(187, z4r φ), (181, z14 φ d)], lk [], lk []⟩
theorem zbx (φ d : Nat) (l a) : (z14 φ (d + 1)).F l a = fnM TV (z3j Tryz.prog φ d) φ Tryz.f181 165 44 [.val 0, .val 0, .val 0, .cmp 44] (z13 φ d) l a := by kernel_rfl
theorem zbq (φ d : Nat) : fnMO TV (z3j Tryz.prog φ d) φ Tryz.f181 165 44 (z13 φ d) := by
 unfold fnMO
 show obl _ _ _ _ _ _ _
 unfold z13
 repeat' (first | exact trivial | (refine ⟨?_, ?_⟩) | (intro _) | kernel_rfl)
theorem z6a [Dr] (φ : Nat) : ∀ d, zd3 TV Tryz.prog 181 (z14 φ d)
 | 0 => fun l a l2 sv h => absurd (show (none : Option (List (TT 44))) = some l2 from h) (fun q => by cases q)
 | d + 1 => z9i (N := z3j Tryz.prog φ d) (zl trivial ⟨(zdd φ), (z6a φ d), trivial⟩ trivial trivial) (z13 φ d) Tryz.func181 (by kernel_rfl) (zbx φ d) (zbq φ d)
def z1q (φ : Nat) : H TV (List (TT 44)) := (.seq .x (.seq .x (.seq (.body (.loop ⟨[(63, [(0, .own 0), (1, .val 0), (2, .cmp 44), (6, .val 0), (7, .val 0), (8, .val 0)]), (1, [(0, .own 0)])], [.row 165 44]⟩ (fun n z => z3q φ n z.1 z.2.1 z.2.2.1 z.2.2.2.1 z.2.2.2.2.1 z.2.2.2.2.2.1) (fun zk10 => .x))) (.seq .x (.body (.loop ⟨[(63, [(0, .own 0), (1, .val 0), (2, .cmp 44), (6, .val 0)]), (1, [(0, .own 0)])], [.row 165 44]⟩ (fun n z => z3w φ n z.1 z.2.1 z.2.2.1 z.2.2.2.1) (fun zk17 => (.seq .x (.body (.seq .x (.seq (.body (.loop ⟨[(63, [(0, .own 0), (1, .val 0), (2, .cmp 44), (6, .val 0), (7, .val 0), (8, .val 0)]), (1, [(0, .own 0)])], [.row 165 44]⟩ (fun n z => z3r φ (fun a0 a1 a2 a3 => zk17 (a0, a1, a2, a3, ())) n z.1 z.2.1 z.2.2.1 z.2.2.2.1 z.2.2.2.2.1 z.2.2.2.2.2.1) (fun zk24 => .x))) .x)))))))))))
def z4n (P : Program) (φ : Nat) : Env TV := ⟨P, lk [], lk [(180, z1i φ), (181, z14 φ φ)], lk [], lk []⟩
theorem zdc (φ : Nat) (l a) : (z4q φ).F l a = fnM TV (z4n Tryz.prog φ) φ Tryz.f165 165 44 [.val 0, .cmp 44] (z1q φ) l a := by kernel_rfl
theorem zdf (φ : Nat) : fnMO TV (z4n Tryz.prog φ) φ Tryz.f165 165 44 (z1q φ) := by
 unfold fnMO
 show obl _ _ _ _ _ _ _
 unfold z1q
 repeat' (first | exact trivial | (refine ⟨?_, ?_⟩) | (intro _) | kernel_rfl)
theorem zd9 [Dr] (φ : Nat) : zd3 TV Tryz.prog 165 (z4q φ) := z9i (N := z4n Tryz.prog φ) (zl trivial ⟨(z8j φ), (z6a φ φ), trivial⟩ trivial trivial) (z1q φ) Tryz.func165 (by kernel_rfl) (zdc φ) (zdf φ)
def z1a (φ : Nat) : H TV (List (TT 44)) := .x
def z48 (P : Program) (φ : Nat) : Env TV := ⟨P, lk [], lk [(165, z4q φ)], lk [], lk []⟩
theorem zd2 (φ : Nat) (l a) : (z47 φ).F l a = fnM TV (z48 Tryz.prog φ) φ Tryz.f137 165 44 [.cmp 44] (z1a φ) l a := by kernel_rfl
theorem zd5 (φ : Nat) : fnMO TV (z48 Tryz.prog φ) φ Tryz.f137 165 44 (z1a φ) := by
 unfold fnMO
 show obl _ _ _ _ _ _ _
 unfold z1a
 repeat' (first | exact trivial | (refine ⟨?_, ?_⟩) | (intro _) | kernel_rfl)
theorem zc7 [Dr] (φ : Nat) : zd3 TV Tryz.prog 137 (z47 φ) := z9i (N := z48 Tryz.prog φ) (zl trivial ⟨(zd9 φ), trivial⟩ trivial trivial) (z1a φ) Tryz.func137 (by kernel_rfl) (zd2 φ) (zd5 φ)
def z6c (φ : Nat) : H TV (RTup TT [.val 0]) := .x
def z99 (P : Program) (φ : Nat) : Env TV := ⟨P, lk [(40, z3n φ), (139, z60 φ), (39, zbr φ)], lk [], lk [], lk []⟩
theorem zjc (φ : Nat) (a) : (z90 φ).F a = fnX TV (z99 Tryz.prog φ) φ Tryz.f138 [44, 44] [.val 0] (z6c φ) a := by kernel_rfl
theorem zj8 (φ : Nat) : fnO TV (z99 Tryz.prog φ) φ Tryz.f138 [.val 0] (z6c φ) := by
 unfold fnO
 show obl _ _ _ _ _ _ _
 unfold z6c
 repeat' (first | exact trivial | (refine ⟨?_, ?_⟩) | (intro _) | kernel_rfl)
theorem zj5 [Dr] (φ : Nat) : z2d TV Tryz.prog 138 (z90 φ) :=
 z3i (N := z99 Tryz.prog φ) (zl ⟨z5t φ, zbb φ, zf6 φ, trivial⟩ trivial trivial trivial) (z6c φ) Tryz.func138 (by kernel_rfl) (zjc φ) (zj8 φ)
theorem zgg (φ : Nat) (k9 : ((List z1) -> (List (Nat -> Int)) -> Int -> Int -> (List z7) -> Option ((List z7) × Unit))) (x18 : (List z1)) (x19 : (List (Nat -> Int))) (x20 : Int) (x21 : Int) (x22 : (List z7)) (x23 : (Nat -> Int)) : z68 (z54 φ k9 x18 x19 x20 x21 x22 x23) (z86 φ k9 x18 x19 x20 x21 x22 x23) := by
 unfold z54 z86
 repeat' (first | exact z68.one | exact z68.nil | refine z68.cons ?_ ?_ | refine z68.ck ?_ | exact z68.same (n := 2) rfl | exact z68.same (n := 3) rfl | exact z68.same (n := 4) rfl | exact z68.same (n := 6) rfl | refine z68.bind fun _ => ?_)
def z7x (φ : Nat) : H TV (RTup TT [.val 45]) := (.seq .x (.seq .x (.seq (.seq .x (.body (.loop ⟨[(67, [(1, .val 10), (5, .own 0), (12, .val 43), (13, .val 0), (14, .val 0)])], [.row 165 44]⟩ (fun n z => z3y φ n z.1 z.2.1 z.2.2.1 z.2.2.2.1 z.2.2.2.2.1) (fun zk9 => (.seq .x (.seq .x (.seq (.body (.seq .x (.seq (.join ⟨[(67, [(1, .val 10), (5, .own 0), (8, .ptr 1 0), (9, .ptr 2 0), (12, .val 43), (13, .val 0), (14, .val 0)])], [.row 165 44, .box 57 [.val 7], .box 57 [.val 7]]⟩ (fun z => z59 φ (fun a0 a1 a2 a3 a4 => zk9 (a0, a1, a2, a3, a4, ())) z.1 z.2.1 z.2.2.1 z.2.2.2.1 z.2.2.2.2.1 z.2.2.2.2.2.1 z.2.2.2.2.2.2.1) (.alt ⟨[(67, [(1, .val 10), (5, .own 0), (7, .ptr 1 0), (12, .val 43), (13, .val 0), (14, .val 0)])], [.row 165 44, .box 200 [.val 42]]⟩ (fun z => z54 φ (fun a0 a1 a2 a3 a4 => zk9 (a0, a1, a2, a3, a4, ())) z.1 z.2.1 z.2.2.1 z.2.2.2.1 z.2.2.2.2.1 z.2.2.2.2.2.1) (fun z => z86 φ (fun a0 a1 a2 a3 a4 => zk9 (a0, a1, a2, a3, a4, ())) z.1 z.2.1 z.2.2.1 z.2.2.2.1 z.2.2.2.2.1 z.2.2.2.2.2.1))) .x))) .x))))))) .x)))
def zbh (P : Program) (φ : Nat) : Env TV := ⟨P, lk [(136, zb7 φ), (138, z90 φ)], lk [(137, z47 φ)], lk [], lk []⟩
theorem zml (φ : Nat) (a) : (zb0 φ).F a = fnX TV (zbh Tryz.prog φ) φ Tryz.f98 [39, 10] [.val 45] (z7x φ) a := by kernel_rfl
theorem zn3 (φ : Nat) : fnO TV (zbh Tryz.prog φ) φ Tryz.f98 [.val 45] (z7x φ) := by
 unfold fnO
 show obl _ _ _ _ _ _ _
 unfold z7x
 repeat' (first | exact trivial | (refine ⟨?_, ?_⟩) | (intro _) | kernel_rfl | exact zgg ..)
theorem zm8 [Dr] (φ : Nat) : z2d TV Tryz.prog 98 (zb0 φ) :=
 z3i (N := zbh Tryz.prog φ) (zl ⟨zmi φ, zj5 φ, trivial⟩ ⟨(zc7 φ), trivial⟩ trivial trivial) (z7x φ) Tryz.func98 (by kernel_rfl) (zml φ) (zn3 φ)
def z7t (φ : Nat) : H TV (RTup TT [.val 47]) := (.seq .x (.seq .x (.seq (.seq .x (.body (.loop ⟨[(72, [(2, .val 0), (7, .own 0), (28, .val 45), (29, .val 0), (30, .val 0)])], [.row 127 46]⟩ (fun n z => z1c φ n z.1 z.2.1 z.2.2.1 z.2.2.2.1 z.2.2.2.2.1) (fun zk10 => .x)))) .x)))
def zay (P : Program) (φ : Nat) : Env TV := ⟨P, lk [(98, zb0 φ)], lk [], lk [], lk []⟩
theorem zmn (φ : Nat) (a) : (zbc φ).F a = fnX TV (zay Tryz.prog φ) φ Tryz.f62 [39, 10, 0] [.val 47] (z7t φ) a := by kernel_rfl
theorem zmx (φ : Nat) : fnO TV (zay Tryz.prog φ) φ Tryz.f62 [.val 47] (z7t φ) := by
 unfold fnO
 show obl _ _ _ _ _ _ _
 unfold z7t
 repeat' (first | exact trivial | (refine ⟨?_, ?_⟩) | (intro _) | kernel_rfl)
theorem zmo [Dr] (φ : Nat) : z2d TV Tryz.prog 62 (zbc φ) :=
 z3i (N := zay Tryz.prog φ) (zl ⟨zm8 φ, trivial⟩ trivial trivial trivial) (z7t φ) Tryz.func62 (by kernel_rfl) (zmn φ) (zmx φ)
def zbu (φ : Nat) : H TV (RTup TT [.val 0, .val 0]) := (.seq .x (.seq .x (.seq .x (.seq .x (.seq (.body (.loop ⟨[(42, [(3, .val 0), (11, .val 47), (12, .val 0)])], []⟩ (fun n z => z5r φ n z.1 z.2.1 z.2.2.1) (fun zk10 => .x))) .x)))))
def zfo (P : Program) (φ : Nat) : Env TV := ⟨P, lk [(61, zas φ), (62, zbc φ)], lk [], lk [], lk []⟩
theorem zr5 (φ : Nat) (a) : (zbp φ).F a = fnX TV (zfo Tryz.prog φ) φ Tryz.f32 [39, 10, 0, 0] [.val 0, .val 0] (zbu φ) a := by kernel_rfl
theorem zr6 (φ : Nat) : fnO TV (zfo Tryz.prog φ) φ Tryz.f32 [.val 0, .val 0] (zbu φ) := by
 unfold fnO
 show obl _ _ _ _ _ _ _
 unfold zbu
 repeat' (first | exact trivial | (refine ⟨?_, ?_⟩) | (intro _) | kernel_rfl)
theorem zis [Dr] (φ : Nat) : z2d TV Tryz.prog 32 (zbp φ) :=
 z3i (N := zfo Tryz.prog φ) (zl ⟨zmj φ, zmo φ, trivial⟩ trivial trivial trivial) (zbu φ) Tryz.func32 (by kernel_rfl) (zr5 φ) (zr6 φ)
def za4 (φ : Nat) : H TV (RTup TT [.val 0, .val 0]) := (.seq .x (.seq .x (.seq .x (.seq .x (.seq (.seq .x (.body (.loop ⟨[(116, [(1, .val 10), (3, .ptr 0 0), (5, .ptr 1 0), (9, .ptr 2 0), (35, .val 5), (36, .val 0), (37, .val 0)])], [.box 51 [.val 39], .box 57 [.val 7], .box 114 [.own 3], .map 9 1 0]⟩ (fun n z => z3a φ n z.1 z.2.1 z.2.2.1 z.2.2.2.1 z.2.2.2.2.1 z.2.2.2.2.2.1 z.2.2.2.2.2.2.1) (fun zk13 => .x)))) (.seq .x (.seq (.seq .x (.body (.loop ⟨[(116, [(1, .val 10), (3, .ptr 0 0), (5, .ptr 1 0), (9, .ptr 2 0), (12, .own 3), (48, .val 10), (49, .val 0), (50, .val 0)])], [.box 51 [.val 39], .box 57 [.val 7], .box 114 [.own 4], .row 57 7, .map 9 1 0]⟩ (fun n z => z3e φ n z.1 z.2.1 z.2.2.1 z.2.2.2.1 z.2.2.2.2.1 z.2.2.2.2.2.1 z.2.2.2.2.2.2.1 z.2.2.2.2.2.2.2.1) (fun zk23 => (.seq .x (.seq .x (.seq (.body (.seq .x (.seq (.ins 4 50 (.seq .x (.seq (.ins 2 78 (.seq .x (.seq (.seq .x (.body (.loop ⟨[(19, [(0, .val 5), (1, .func 51 [.ptr 0 0]), (7, .val 0), (8, .val 0)]), (9, []), (116, [(1, .val 10), (3, .ptr 1 0), (5, .ptr 2 0), (9, .ptr 0 0), (12, .own 3), (14, .ptr 4 0), (48, .val 10), (49, .val 0), (50, .val 0)])], [.box 114 [.own 5], .box 51 [.val 39], .box 57 [.val 7], .row 57 7, .box 57 [.val 7], .map 9 1 0]⟩ (fun n z => z3b φ (fun a0 a1 a2 a3 a4 a5 a6 a7 => zk23 (a0, a1, a2, a3, a4, a5, a6, a7, ())) n z.1 z.2.1 z.2.2.1 z.2.2.2.1 z.2.2.2.2.1 z.2.2.2.2.2.1 z.2.2.2.2.2.2.1 z.2.2.2.2.2.2.2.1 z.2.2.2.2.2.2.2.2.1 z.2.2.2.2.2.2.2.2.2.1 z.2.2.2.2.2.2.2.2.2.2.1 z.2.2.2.2.2.2.2.2.2.2.2.1) (fun zk36 => .x)))) .x)) .x) .x)) .x) .x))) .x))))))) (.seq (.frz [(9, some 0), (3, none), (5, none), (9, none)] .x) .x))))))))
def ze8 (P : Program) (φ : Nat) : Env TV := ⟨P, lk [(49, z3x φ), (30, z9l φ), (47, z9p φ), (53, za3 φ), (32, zbp φ)], lk [(52, z3p φ)], lk [(51, zb8 φ)], lk []⟩
theorem zpn (φ : Nat) (a) : (za6 φ).F a = fnX TV (ze8 Tryz.prog φ) φ Tryz.f22 [39, 10, 7] [.val 0, .val 0] (za4 φ) a := by kernel_rfl
theorem zpt (φ : Nat) : fnO TV (ze8 Tryz.prog φ) φ Tryz.f22 [.val 0, .val 0] (za4 φ) := by
 unfold fnO
 show obl _ _ _ _ _ _ _
 unfold za4
 repeat' (first | exact trivial | (refine ⟨?_, ?_⟩) | (intro _) | kernel_rfl)
theorem zi0 [Dr] (φ : Nat) : z2d TV Tryz.prog 22 (za6 φ) :=
 z3i (N := ze8 Tryz.prog φ) (zl ⟨z6v φ, zev φ, zfh φ, zhz φ, zis φ, trivial⟩ ⟨(z8n φ), trivial⟩ ⟨zmp φ, trivial⟩ trivial) (za4 φ) Tryz.func22 (by kernel_rfl) (zpn φ) (zpt φ)
def zdz (φ : Nat) : H TV (RTup TT [.val 1]) := .x
def zgi (P : Program) (φ : Nat) : Env TV := ⟨P, lk [(26, zdp φ), (25, zb6 φ), (16, za1 φ), (33, zcg φ), (15, z7a φ), (13, zcu φ), (12, z9j φ), (24, ze2 φ), (19, zb3 φ), (18, zbk φ), (34, zh0 φ), (22, za6 φ)], lk [], lk [], lk []⟩
theorem ztf (φ : Nat) (a) : (zga φ).F a = fnX TV (zgi Tryz.prog φ) φ Tryz.f10 [] [.val 1] (zdz φ) a := by kernel_rfl
theorem zsx (φ : Nat) : fnO TV (zgi Tryz.prog φ) φ Tryz.f10 [.val 1] (zdz φ) := by
 unfold fnO
 show obl _ _ _ _ _ _ _
 unfold zdz
 repeat' (first | exact trivial | (refine ⟨?_, ?_⟩) | (intro _) | kernel_rfl)
theorem zt6 (φ : Nat) : z2d TV Tryz.prog 10 (zga φ) :=
 z3i (N := zgi Tryz.prog φ) (zl ⟨zlm φ, zmz φ, zlf φ, zo7 φ, zhq φ, znt φ, zkm φ, zpq φ, zmh φ, zmw φ, ztq φ, zi0 φ, trivial⟩ trivial trivial trivial) (zdz φ) Tryz.func10 (by kernel_rfl) (ztf φ) (zsx φ)
def zes (φ : Nat) : H TV (RTup TT [.val 1]) := (.seq .x (.seq .x (.seq (.seq .x (.body (.loop ⟨[(21, [(0, .val 10), (3, .val 0)])], []⟩ (fun n z => z88 φ n z.1 z.2.1) (fun zk4 => .x)))) .x)))
def zij (P : Program) (φ : Nat) : Env TV := ⟨P, lk [], lk [], lk [], lk []⟩
theorem zwf (φ : Nat) (a) : (zi5 φ).F a = fnX TV (zij Tryz.prog φ) φ Tryz.f11 [10] [.val 1] (zes φ) a := by kernel_rfl
theorem zvg (φ : Nat) : fnO TV (zij Tryz.prog φ) φ Tryz.f11 [.val 1] (zes φ) := by
 unfold fnO
 show obl _ _ _ _ _ _ _
 unfold zes
 repeat' (first | exact trivial | (refine ⟨?_, ?_⟩) | (intro _) | kernel_rfl)
theorem zwe [Dr] (φ : Nat) : z2d TV Tryz.prog 11 (zi5 φ) :=
 z3i (N := zij Tryz.prog φ) (zl trivial trivial trivial trivial) (zes φ) Tryz.func11 (by kernel_rfl) (zwf φ) (zvg φ)
end Px
end
section
set_option linter.unusedVariables false
set_option linter.unusedSimpArgs false
set_option maxHeartbeats 4000000
set_option maxRecDepth 100000
namespace Px
open Go Go.RowKit Go.Proofs
def z6r (φ : Nat) : H TV (RTup TT [.val 1]) := (.seq .x (.seq .x (.seq (.seq .x (.body (.loop ⟨[(65, [(1, .ptr 0 0), (3, .val 0)])], [.box 51 [.val 39]]⟩ (fun n z => z16 φ n z.1 z.2.1) (fun zk4 => .x)))) .x)))
def z9n (P : Program) (φ : Nat) : Env TV := ⟨P, lk [], lk [], lk [], lk []⟩
theorem zks (φ : Nat) (a) : (z9k φ).F a = fnX TV (z9n Tryz.prog φ) φ Tryz.f21 [39] [.val 1] (z6r φ) a := by kernel_rfl
theorem zjy (φ : Nat) : fnO TV (z9n Tryz.prog φ) φ Tryz.f21 [.val 1] (z6r φ) := by
 unfold fnO
 show obl _ _ _ _ _ _ _
 unfold z6r
 repeat' (first | exact trivial | (refine ⟨?_, ?_⟩) | (intro _) | kernel_rfl)
theorem zlc [Dr] (φ : Nat) : z2d TV Tryz.prog 21 (z9k φ) :=
 z3i (N := z9n Tryz.prog φ) (zl trivial trivial trivial trivial) (z6r φ) Tryz.func21 (by kernel_rfl) (zks φ) (zjy φ)
end Px
end
section
set_option linter.unusedVariables false
set_option linter.unusedSimpArgs false
set_option maxHeartbeats 4000000
set_option maxRecDepth 100000
namespace Px
open Go Go.RowKit Go.Proofs
def zbt (φ : Nat) : H TV (RTup TT [.val 1]) := (.seq .x (.seq .x (.seq (.seq .x (.body (.loop ⟨[(69, [(4, .ptr 0 0), (5, .ptr 1 0), (7, .val 0)])], [.box 55 [.val 6], .box 55 [.val 6]]⟩ (fun n z => z5e φ n z.1 z.2.1 z.2.2.1) (fun zk8 => (.seq .x (.seq (.body (.seq .x (.body (.loop ⟨[(69, [(4, .ptr 0 0), (5, .ptr 1 0), (7, .val 0), (8, .val 0)])], [.box 55 [.val 6], .box 55 [.val 6]]⟩ (fun n z => z4b φ (fun a0 a1 a2 => zk8 (a0, a1, a2, ())) n z.1 z.2.1 z.2.2.1 z.2.2.2.1) (fun zk13 => .x))))) .x)))))) .x)))
def zfl (P : Program) (φ : Nat) : Env TV := ⟨P, lk [(30, z9l φ)], lk [], lk [], lk []⟩
theorem zrw (φ : Nat) (a) : (zfd φ).F a = fnX TV (zfl Tryz.prog φ) φ Tryz.f31 [39, 6, 6] [.val 1] (zbt φ) a := by kernel_rfl
theorem zrt (φ : Nat) : fnO TV (zfl Tryz.prog φ) φ Tryz.f31 [.val 1] (zbt φ) := by
 unfold fnO
 show obl _ _ _ _ _ _ _
 unfold zbt
 repeat' (first | exact trivial | (refine ⟨?_, ?_⟩) | (intro _) | kernel_rfl)
theorem zr3 [Dr] (φ : Nat) : z2d TV Tryz.prog 31 (zfd φ) :=
 z3i (N := zfl Tryz.prog φ) (zl ⟨zev φ, trivial⟩ trivial trivial trivial) (zbt φ) Tryz.func31 (by kernel_rfl) (zrw φ) (zrt φ)
theorem zf9 (φ : Nat) (x35 : (List z1)) (x36 : Int) (x37 : Int) (x38 : Pool) (x39 : z1) (x40 : z1) : z68 (z3h φ x35 x36 x37 x38 x39 x40) (z6o φ x35 x36 x37 x38 x39 x40) := by
 unfold z3h z6o
 repeat' (first | exact z68.one | exact z68.nil | refine z68.cons ?_ ?_ | refine z68.ck ?_ | exact z68.same (n := 2) rfl | exact z68.same (n := 3) rfl | exact z68.same (n := 4) rfl | exact z68.same (n := 6) rfl | refine z68.bind fun _ => ?_)
def z6d (φ : Nat) : H TV (RTup TT [.val 1]) := (.seq .x (.seq .x (.seq .x (.seq .x (.seq .x (.seq .x (.seq (.seq .x (.body (.loop ⟨[(205, [(1, .val 10), (4, .ptr 0 0), (6, .ptr 1 0), (7, .ptr 2 0), (9, .val 0), (10, .val 0), (11, .val 0), (12, .val 0)])], [.box 51 [.val 39], .box 57 [.val 7], .box 57 [.val 7]]⟩ (fun n z => z03 φ n z.1 z.2.1 z.2.2.1 z.2.2.2.1 z.2.2.2.2.1 z.2.2.2.2.2.1 z.2.2.2.2.2.2.1 z.2.2.2.2.2.2.2.1) (fun zk18 => .x)))) (.seq .x (.seq .x (.seq (.join ⟨[(205, [(1, .val 10), (4, .ptr 0 0), (6, .ptr 1 0), (7, .ptr 2 0), (9, .val 0), (10, .val 0), (14, .val 0), (15, .val 0)])], [.box 51 [.val 39], .box 57 [.val 7], .box 57 [.val 7]]⟩ (fun z => z0c φ z.1 z.2.1 z.2.2.1 z.2.2.2.1 z.2.2.2.2.1 z.2.2.2.2.2.1 z.2.2.2.2.2.2.1 z.2.2.2.2.2.2.2.1) (.seq .x .x)) (.seq .x (.seq .x (.seq (.join ⟨[(205, [(9, .val 0), (10, .val 0), (16, .val 0), (17, .val 0)])], []⟩ (fun z => z1o φ z.1 z.2.1 z.2.2.1 z.2.2.2.1) (.alt ⟨[(205, [(1, .val 10), (4, .ptr 0 0), (6, .ptr 1 0), (7, .ptr 2 0), (9, .val 0), (10, .val 0)])], [.box 51 [.val 39], .box 57 [.val 7], .box 57 [.val 7]]⟩ (fun z => z3h φ z.1 z.2.1 z.2.2.1 z.2.2.2.1 z.2.2.2.2.1 z.2.2.2.2.2.1) (fun z => z6o φ z.1 z.2.1 z.2.2.1 z.2.2.2.1 z.2.2.2.2.1 z.2.2.2.2.2.1))) .x)))))))))))))
def z96 (P : Program) (φ : Nat) : Env TV := ⟨P, lk [(10, zga φ), (21, z9k φ), (11, zi5 φ), (22, za6 φ), (30, z9l φ), (31, zfd φ), (32, zbp φ)], lk [], lk [], lk []⟩
theorem zjx (φ : Nat) (a) : (z6b φ).F a = fnX TV (z96 Tryz.prog φ) φ Tryz.f9 [39, 10, 7, 7] [.val 1] (z6d φ) a := by kernel_rfl
theorem zja (φ : Nat) : fnO TV (z96 Tryz.prog φ) φ Tryz.f9 [.val 1] (z6d φ) := by
 unfold fnO
 show obl _ _ _ _ _ _ _
 unfold z6d
 repeat' (first | exact trivial | (refine ⟨?_, ?_⟩) | (intro _) | kernel_rfl | exact zf9 ..)
theorem zjn (φ : Nat) : z2d TV Tryz.prog 9 (z6b φ) :=
 z3i (N := z96 Tryz.prog φ) (zl ⟨zt6 φ, zlc φ, zwe φ, zi0 φ, zev φ, zr3 φ, zis φ, trivial⟩ trivial trivial trivial) (z6d φ) Tryz.func9 (by kernel_rfl) (zjx φ) (zja φ)
end Px
end
section
namespace Px
open Go
set_option linter.unusedVariables false
set_option linter.unusedSimpArgs false
structure Swo {α : Type} (lt : α -> α -> Bool) : Prop where
 asym : ∀ a b, lt a b = true -> lt b a = false
 ntr : ∀ a b c, lt a b = false -> lt b c = false -> lt a c = false
def Srt {α : Type} (lt : α -> α -> Bool) (l : List α) : Prop := l.Pairwise fun a b => lt b a = false
def eqv2 {α : Type} (lt : α -> α -> Bool) (a b : α) : Bool := !lt a b && !lt b a
def Stb {α : Type} (lt : α -> α -> Bool) (l r : List α) : Prop := r.Perm l /\ ∀ a, r.filter (eqv2 lt a) = l.filter (eqv2 lt a)
section
variable {α : Type} {lt : α -> α -> Bool}
theorem Swo.irr (h : Swo lt) (a : α) : lt a a = false := by
 cases e : lt a a with
 | false => rfl
 | true => exact (h.asym a a e).symm.trans e |>.symm
theorem zna {a b : α} : eqv2 lt a b = true ↔ lt a b = false /\ lt b a = false := by simp [eqv2]
theorem Stb.refl (l : List α) : Stb lt l l := ⟨.refl _, fun _ => rfl⟩
theorem Stb.trans {a b c : List α} (h : Stb lt a b) (h' : Stb lt b c) : Stb lt a c := ⟨h'.1.trans h.1, fun x => (h'.2 x).trans (h.2 x)⟩
theorem Stb.app {a b c d : List α} (h : Stb lt a b) (h' : Stb lt c d) : Stb lt (a ++ c) (b ++ d) := ⟨h.1.append h'.1, fun x => by simp only [List.filter_append, h.2 x, h'.2 x]⟩
theorem Stb.mem {l r : List α} (h : Stb lt l r) {x : α} : x ∈ r ↔ x ∈ l := h.1.mem_iff
theorem Stb.len {l r : List α} (h : Stb lt l r) : r.length = l.length := h.1.length_eq
theorem zsm (a : α) {X : List α} (h : ∀ x ∈ X, eqv2 lt a x = false) : X.filter (eqv2 lt a) = [] := by
 rw [List.filter_eq_nil_iff]; intro x hx; simp [h x hx]
theorem Stb.swap (hs : Swo lt) {X Y : List α} (h : ∀ x ∈ X, ∀ y ∈ Y, lt y x = true) : Stb lt (X ++ Y) (Y ++ X) := by
 refine ⟨List.perm_append_comm, fun a => ?_⟩
 simp only [List.filter_append]
 by_cases hx : ∃ x ∈ X, eqv2 lt a x = true
 ·obtain ⟨x, hx, ex⟩ := hx
  have : Y.filter (eqv2 lt a) = [] := zsm a fun y hy => by
   cases e : eqv2 lt a y with
   | false => rfl
   | true =>
    have h1 := zna.1 e
    have h2 := zna.1 ex
    have := hs.ntr y a x h1.2 h2.1
    rw [h x hx y hy] at this; cases this
  rw [this]; simp
 ·have : X.filter (eqv2 lt a) = [] := zsm a fun x hx' => by
   cases e : eqv2 lt a x with
   | false => rfl
   | true => exact absurd ⟨x, hx', e⟩ hx
  rw [this]; simp
theorem Srt.app {a b : List α} (h : Srt lt a) (h' : Srt lt b) (hc : ∀ x ∈ a, ∀ y ∈ b, lt y x = false) : Srt lt (a ++ b) := List.pairwise_append.2 ⟨h, h', hc⟩
theorem Srt.parts {a b : List α} (h : Srt lt (a ++ b)) : Srt lt a /\ Srt lt b /\ ∀ x ∈ a, ∀ y ∈ b, lt y x = false := List.pairwise_append.1 h
theorem Srt.unique (hs : Swo lt) : ∀ {r r' : List α}, Srt lt r -> Srt lt r' -> Stb lt r r' -> r = r'
 | [], r', _, _, h => by
  have := h.len; simp at this; exact this.symm
 | x :: r, r', hr, hr', h => by
  cases r' with
  | nil => have := h.len; simp at this
  | cons y r' =>
   have hr1 := List.pairwise_cons.1 hr
   have hr2 := List.pairwise_cons.1 hr'
   have h1 : lt y x = false := by
    rcases List.mem_cons.1 (h.mem.1 (List.mem_cons_self (a := y))) with e | e
    ·rw [e]; exact hs.irr _
    ·exact hr1.1 y e
   have h2 : lt x y = false := by
    rcases List.mem_cons.1 (h.mem.2 (List.mem_cons_self (a := x))) with e | e
    ·rw [e]; exact hs.irr _
    ·exact hr2.1 x e
   have e1 : eqv2 lt x x = true := zna.2 ⟨hs.irr _, hs.irr _⟩
   have e2 : eqv2 lt x y = true := zna.2 ⟨h2, h1⟩
   have hf := h.2 x
   rw [List.filter_cons_of_pos e1, List.filter_cons_of_pos e2] at hf
   have hxy : y = x := (List.cons.inj hf).1
   subst hxy
   congr 1
   refine Srt.unique hs hr1.2 hr2.2 ⟨(List.perm_cons _).1 h.1, fun a => ?_⟩
   have := h.2 a
   simp only [List.filter_cons] at this
   split at this
   ·exact (List.cons.inj this).2
   ·exact this
theorem zi8 (hs : Swo lt) {A B C E R1 R2 : List α} (h1 : Srt lt (A ++ B)) (h2 : Srt lt (C ++ E)) (hA : ∀ x ∈ B, ∀ y ∈ C, lt y x = true) (hB : ∀ x ∈ A, ∀ y ∈ E, lt y x = false)
  (s1 : Srt lt R1) (t1 : Stb lt (A ++ C) R1) (s2 : Srt lt R2) (t2 : Stb lt (B ++ E) R2) : Srt lt (R1 ++ R2) /\ Stb lt ((A ++ B) ++ (C ++ E)) (R1 ++ R2) := by
 refine ⟨s1.app s2 fun u hu v hv => ?_, ?_⟩
 ·have hu := List.mem_append.1 (t1.mem.1 hu)
  have hv := List.mem_append.1 (t2.mem.1 hv)
  rcases hu with hu | hu <;> rcases hv with hv | hv
  ·exact h1.parts.2.2 u hu v hv
  ·exact hB u hu v hv
  ·exact hs.asym _ _ (hA v hv u hu)
  ·exact h2.parts.2.2 u hu v hv
 ·have : Stb lt ((A ++ B) ++ (C ++ E)) ((A ++ C) ++ (B ++ E)) := by
   have := ((Stb.refl (lt := lt) A).app (Stb.swap hs hA)).app (Stb.refl E)
   simpa [List.append_assoc] using this
  exact this.trans (t1.app t2)
theorem zkd (hs : Swo lt) {y c x b : α} (h1 : lt c y = false) (h2 : lt c b = true) (h3 : lt x b = false) : lt y x = true := by
 cases e : lt y x with
 | true => rfl
 | false =>
  have := hs.ntr _ _ _ (hs.ntr _ _ _ h1 e) h3
  rw [h2] at this; cases this
theorem zwp (hs : Swo lt) {y e x a : α} (h1 : lt y e = false) (h2 : lt e a = false) (h3 : lt a x = false) : lt y x = false := hs.ntr _ _ _ (hs.ntr _ _ _ h1 h2) h3
theorem zyn (hs : Swo lt) {A B : List α} {x : α} (h : ∀ y ∈ B, lt x y = true) : Stb lt (A ++ B ++ [x]) (A ++ [x] ++ B) := by
 have := (Stb.refl (lt := lt) A).app (Stb.swap hs (X := B) (Y := [x]) fun z hz y hy => by simp at hy; subst hy; exact h z hz)
 simpa [List.append_assoc] using this
theorem zwg {ρ : Type} (L : Nat -> Int -> Int -> Option ρ) (k : Int -> Option ρ) (pred : Nat -> Bool) (R : Nat) (s0 : Nat)
  (step : ∀ n s r : Nat, s0 <= s -> s < r -> r <= R -> L (n + 1) s r = if pred ((s + r) / 2) = true then L n (((s + r) / 2 + 1 : Nat)) r else L n s ((s + r) / 2 : Nat)) (done : ∀ n s : Nat, L (n + 1) s s = k s) :
  ∀ n s r : Nat, s0 <= s -> s <= r -> r <= R -> r - s < n -> ∃ c : Nat, s <= c /\ c <= r /\ (c = s \/ pred (c - 1) = true) /\ (c = r \/ pred c = false) /\ L n s r = k c := by
 intro n
 induction n with
 | zero => intro s r _ _ _ h; omega
 | succ n ih =>
  intro s r h0 h hR hn
  by_cases e : s = r
  ·subst e; exact ⟨s, Nat.le_refl _, Nat.le_refl _, .inl rfl, .inl rfl, done n s⟩
  ·rw [step n s r h0 (by omega) hR]
   cases hp : pred ((s + r) / 2) with
   | true =>
    rw [if_pos rfl]
    obtain ⟨c, h1, h2, h3, h4, h5⟩ := ih ((s + r) / 2 + 1) r (by omega) (by omega) hR (by omega)
    refine ⟨c, by omega, h2, ?_, h4, h5⟩
    rcases h3 with h3 | h3
    ·right; rw [h3]; simpa using hp
    ·exact .inr h3
   | false =>
    rw [if_neg (by simp)]
    obtain ⟨c, h1, h2, h3, h4, h5⟩ := ih s ((s + r) / 2) h0 (by omega) (by omega) (by omega)
    refine ⟨c, h1, by omega, h3, ?_, h5⟩
    rcases h4 with h4 | h4
    ·right; rw [h4]; exact hp
    ·exact .inr h4
end
section arr
variable {α : Type} [Inhabited α]
theorem zfu {A B : List α} {x : α} {i : Int} (h : i = A.length) : gt (A ++ x :: B) i = x := by
 subst h; rw [zan _ _ _ (Int.le_refl _)]; simp [gt]
omit [Inhabited α] in
theorem zlu {A B : List α} {x y : α} {i : Int} (h : i = A.length) : z0l (A ++ x :: B) i y = A ++ y :: B := by
 subst h; simp [z0l]
theorem y2d {n : Int} (h0 : 0 <= n) (h : n <= 4611686018427387904) : W ((U (W n)).fdiv 2) = n / 2 := by
 rw [W_id (x := n) (by omega) (by omega), U_id h0 (by omega), Int.fdiv_eq_ediv_of_nonneg _ (by omega), W_id (by omega) (by omega)]
end arr
def Cmp {α : Type} (D : α -> Prop) (y : α -> α -> Option Int) (lt : α -> α -> Bool) : Prop := ∀ a b, D a -> D b -> ∃ z, y a b = some z /\ decide (z < 0) = lt a b
theorem zd4 {α : Type} (l : List α) : l = [] \/ ∃ S w, l = S ++ [w] := by
 rcases List.eq_nil_or_concat l with h | ⟨S, w, h⟩
 ·exact .inl h
 ·exact .inr ⟨S, w, by rw [h, List.concat_eq_append]⟩
inductive Runs {α : Type} (lt : α -> α -> Bool) (bs : Nat) : List α -> Prop
 | last {l : List α} (h : l.length <= bs) (hs : Srt lt l) : Runs lt bs l
 | cons {b r : List α} (h : b.length = bs) (hs : Srt lt b) (hr : Runs lt bs r) : Runs lt bs (b ++ r)
theorem Runs.small {α : Type} {lt : α -> α -> Bool} {bs : Nat} {l : List α} (h : Runs lt bs l) (hl : l.length <= bs) : Srt lt l := by
 cases h with
 | last _ hs => exact hs
 | cons h hs hr =>
  rename_i b r
  have : r = [] := List.eq_nil_of_length_eq_zero (by simp at hl; omega)
  rw [this, List.append_nil]; exact hs
theorem Runs.big {α : Type} {lt : α -> α -> Bool} {bs : Nat} {l : List α} (h : Runs lt bs l) (hl : bs < l.length) : ∃ b r, l = b ++ r /\ b.length = bs /\ Srt lt b /\ Runs lt bs r /\ r ≠ [] := by
 cases h with
 | last h _ => omega
 | cons h hs hr =>
  rename_i b r
  exact ⟨b, r, rfl, h, hs, hr, by intro e; subst e; simp at hl; omega⟩
end Px
end
section
namespace Px
open Go
set_option linter.unusedVariables false
set_option linter.unusedSimpArgs false
set_option maxHeartbeats 1000000
section
variable {α : Type} [Inhabited α]
def zj3 (φ : Nat) (k10 : (Int -> Int -> (α -> α -> Option Int) -> Int -> (List α) -> Option (List α))) : Nat -> Int -> Int -> (α -> α -> Option Int) -> Int -> Int -> (List α) -> Option (List α)
 | 0, _, _, _, _, _, _ => none
 | n17 + 1, x11, x12, x13, x14, x15, x16 => (ck (((decide ((x11 : Int) < x15)) = true) -> (0 : Int) <= x15 /\ x15 < (x16.length : Int)) (ck (((decide ((x11 : Int) < x15)) = true) -> (0 : Int) <= (W (x15 - 1)) /\ (W (x15 - 1)) < (x16.length : Int)) ((zx (0 : Int) ((decide ((x11 : Int) < x15)) = true) (x13 (gt x16 x15) (gt x16 (W (x15 - 1))))).bind fun y18 => (if ((decide ((x11 : Int) < x15)) && (decide ((y18 : Int) < 0))) = true then (ck ((0 : Int) <= (W (x15 - 1)) /\ (W (x15 - 1)) < (x16.length : Int)) (ck ((0 : Int) <= x15 /\ x15 < (x16.length : Int)) (ck ((0 : Int) <= x15 /\ x15 < (x16.length : Int)) (ck ((0 : Int) <= (W (x15 - 1)) /\ (W (x15 - 1)) < (((z0l x16 x15 (gt x16 (W (x15 - 1))))).length : Int)) ((zj3 φ k10 n17) x11 x12 x13 x14 (W (x15 - 1)) ((z0l ((z0l x16 x15 (gt x16 (W (x15 - 1))))) (W (x15 - 1)) (gt x16 x15)))))))) else (k10 x11 x12 x13 (W (x14 + 1)) x16)))))
def zfg (φ : Nat) : Nat -> Int -> Int -> (α -> α -> Option Int) -> Int -> (List α) -> Option (List α)
 | 0, _, _, _, _, _ => none
 | n10 + 1, x5, x6, x7, x8, x9 => (if (decide ((x8 : Int) < x6)) = true then (zj3 φ (zfg φ n10) φ x5 x6 x7 x8 x8 x9) else (some x9))
def gins (φ : Nat) (x1 : (List α)) (x2 : Int) (x3 : Int) (x4 : (α -> α -> Option Int)) : Option (List α) := (zfg φ φ x2 x3 x4 (W (x2 + 1)) x1)
def zgo (φ : Nat) : Nat -> Int -> Int -> Int -> Int -> (List α) -> Option (List α)
 | 0, _, _, _, _, _ => none
 | n11 + 1, x6, x7, x8, x9, x10 => (if (decide ((x9 : Int) < x8)) = true then (ck ((0 : Int) <= (W (x7 + x9)) /\ (W (x7 + x9)) < (x10.length : Int)) (ck ((0 : Int) <= (W (x6 + x9)) /\ (W (x6 + x9)) < (x10.length : Int)) (ck ((0 : Int) <= (W (x6 + x9)) /\ (W (x6 + x9)) < (x10.length : Int)) (ck ((0 : Int) <= (W (x7 + x9)) /\ (W (x7 + x9)) < (((z0l x10 (W (x6 + x9)) (gt x10 (W (x7 + x9))))).length : Int)) ((zgo φ n11) x6 x7 x8 (W (x9 + 1)) ((z0l ((z0l x10 (W (x6 + x9)) (gt x10 (W (x7 + x9))))) (W (x7 + x9)) (gt x10 (W (x6 + x9)))))))))) else (some x10))
def y4p (φ : Nat) (x1 : (List α)) (x2 : Int) (x3 : Int) (x4 : Int) (x5 : (α -> α -> Option Int)) : Option (List α) := (zgo φ φ x2 x3 x4 0 x1)
def zjr (φ : Nat) : Nat -> Int -> (α -> α -> Option Int) -> Int -> Int -> (List α) -> Option (List α)
 | 0, _, _, _, _, _ => none
 | n11 + 1, x6, x7, x8, x9, x10 => (if ((x8 : Int) != x9) = true then (if (decide ((x9 : Int) < x8)) = true then ((y4p φ x10 (W (x6 - x8)) x6 x9 x7).bind fun y12 => ((zjr φ n11) x6 x7 (W (x8 - x9)) x9 y12)) else ((y4p φ x10 (W (x6 - x8)) ((W ((W (x6 + x9)) - x8))) x8 x7).bind fun y13 => ((zjr φ n11) x6 x7 x8 (W (x9 - x8)) y13))) else ((y4p φ x10 (W (x6 - x8)) x6 x8 x7).bind fun y14 => (some y14)))
def grot (φ : Nat) (x1 : (List α)) (x2 : Int) (x3 : Int) (x4 : Int) (x5 : (α -> α -> Option Int)) : Option (List α) := (zjr φ φ x3 x5 (W (x3 - x2)) (W (x4 - x3)) x1)
def zhd (φ : Nat) : Nat -> Int -> Int -> (List α) -> Option (List α)
 | 0, _, _, _ => none
 | n16 + 1, x13, x14, x15 => (if (decide ((x14 : Int) < (W (x13 - 1)))) = true then (ck ((0 : Int) <= (W (x14 + 1)) /\ (W (x14 + 1)) < (x15.length : Int)) (ck ((0 : Int) <= x14 /\ x14 < (x15.length : Int)) (ck ((0 : Int) <= x14 /\ x14 < (x15.length : Int)) (ck ((0 : Int) <= (W (x14 + 1)) /\ (W (x14 + 1)) < (((z0l x15 x14 (gt x15 (W (x14 + 1))))).length : Int)) ((zhd φ n16) x13 (W (x14 + 1)) ((z0l ((z0l x15 x14 (gt x15 (W (x14 + 1))))) (W (x14 + 1)) (gt x15 x14)))))))) else (some x15))
def zc0 (φ : Nat) : Nat -> Int -> (α -> α -> Option Int) -> Int -> Int -> (List α) -> Option (List α)
 | 0, _, _, _, _, _ => none
 | n11 + 1, x6, x7, x8, x9, x10 => (if (decide ((x8 : Int) < x9)) = true then (if 0 <= (1 : Int) then (ck ((0 : Int) <= (W ((((U ((W (x8 + x9)))) : Int).fdiv (2 ^ (min (1 : Int).toNat 64))))) /\ (W ((((U ((W (x8 + x9)))) : Int).fdiv (2 ^ (min (1 : Int).toNat 64))))) < (x10.length : Int)) (ck ((0 : Int) <= x6 /\ x6 < (x10.length : Int)) ((x7 (((gt x10 ((W ((((U ((W (x8 + x9)))) : Int).fdiv (2 ^ (min (1 : Int).toNat 64))))))))) (gt x10 x6)).bind fun y12 => (if (decide ((y12 : Int) < 0)) = true then ((zc0 φ n11) x6 x7 ((W ((W ((((U ((W (x8 + x9)))) : Int).fdiv (2 ^ (min (1 : Int).toNat 64))))) + 1))) x9 x10) else ((zc0 φ n11) x6 x7 x8 ((W ((((U ((W (x8 + x9)))) : Int).fdiv (2 ^ (min (1 : Int).toNat 64)))))) x10))))) else none) else (zhd φ φ x8 x6 x10))
def zhn (φ : Nat) : Nat -> Int -> Int -> (List α) -> Option (List α)
 | 0, _, _, _ => none
 | n27 + 1, x24, x25, x26 => (if (decide ((x24 : Int) < x25)) = true then (ck ((0 : Int) <= (W (x25 - 1)) /\ (W (x25 - 1)) < (x26.length : Int)) (ck ((0 : Int) <= x25 /\ x25 < (x26.length : Int)) (ck ((0 : Int) <= x25 /\ x25 < (x26.length : Int)) (ck ((0 : Int) <= (W (x25 - 1)) /\ (W (x25 - 1)) < (((z0l x26 x25 (gt x26 (W (x25 - 1))))).length : Int)) ((zhn φ n27) x24 (W (x25 - 1)) ((z0l ((z0l x26 x25 (gt x26 (W (x25 - 1))))) (W (x25 - 1)) (gt x26 x25)))))))) else (some x26))
def zbw (φ : Nat) : Nat -> Int -> (α -> α -> Option Int) -> Int -> Int -> (List α) -> Option (List α)
 | 0, _, _, _, _, _ => none
 | n22 + 1, x17, x18, x19, x20, x21 => (if (decide ((x19 : Int) < x20)) = true then (if 0 <= (1 : Int) then (ck ((0 : Int) <= x17 /\ x17 < (x21.length : Int)) (ck ((0 : Int) <= (W ((((U ((W (x19 + x20)))) : Int).fdiv (2 ^ (min (1 : Int).toNat 64))))) /\ (W ((((U ((W (x19 + x20)))) : Int).fdiv (2 ^ (min (1 : Int).toNat 64))))) < (x21.length : Int)) ((x18 (gt x21 x17) (((gt x21 ((W ((((U ((W (x19 + x20)))) : Int).fdiv (2 ^ (min (1 : Int).toNat 64)))))))))).bind fun y23 => (if (!(decide ((y23 : Int) < 0))) = true then ((zbw φ n22) x17 x18 ((W ((W ((((U ((W (x19 + x20)))) : Int).fdiv (2 ^ (min (1 : Int).toNat 64))))) + 1))) x20 x21) else ((zbw φ n22) x17 x18 x19 ((W ((((U ((W (x19 + x20)))) : Int).fdiv (2 ^ (min (1 : Int).toNat 64)))))) x21))))) else none) else (zhn φ φ x19 x17 x21))
def zjv (φ : Nat) (k0 : ((List α) -> Int -> Int -> Int -> (α -> α -> Option Int) -> Option (List α))) (x58 : Int) (x59 : (α -> α -> Option Int)) (x60 : Int) (x61 : Int) (x62 : (List α)) : Option (List α) := (if ((decide ((x60 : Int) < x61)) && (decide ((x61 : Int) < x58))) = true then ((k0 x62 x60 x61 x58 x59).bind fun y64 => (some y64)) else (some x62))
def zf3 (φ : Nat) (k0 : ((List α) -> Int -> Int -> Int -> (α -> α -> Option Int) -> Option (List α))) (x50 : Int) (x51 : Int) (x52 : (α -> α -> Option Int)) (x53 : Int) (x54 : Int) (x55 : Int) (x56 : (List α)) : Option (List α) := (if ((decide ((x50 : Int) < x54)) && (decide ((x54 : Int) < x53))) = true then ((k0 x56 x50 x54 x53 x52).bind fun y65 => (zjv φ k0 x51 x52 x53 x55 y65)) else (zjv φ k0 x51 x52 x53 x55 x56))
def zc3 (φ : Nat) (k0 : ((List α) -> Int -> Int -> Int -> (α -> α -> Option Int) -> Option (List α))) : Nat -> Int -> Int -> Int -> (α -> α -> Option Int) -> Int -> Int -> Int -> Int -> Int -> (List α) -> Option (List α)
 | 0, _, _, _, _, _, _, _, _, _, _ => none
 | n48 + 1, x38, x39, x40, x41, x42, x43, x44, x45, x46, x47 => (if (decide ((x44 : Int) < x45)) = true then (if 0 <= (1 : Int) then (ck ((0 : Int) <= (W (x46 - (W ((((U ((W (x44 + x45)))) : Int).fdiv (2 ^ (min (1 : Int).toNat 64))))))) /\ (W (x46 - (W ((((U ((W (x44 + x45)))) : Int).fdiv (2 ^ (min (1 : Int).toNat 64))))))) < (x47.length : Int)) (ck ((0 : Int) <= (W ((((U ((W (x44 + x45)))) : Int).fdiv (2 ^ (min (1 : Int).toNat 64))))) /\ (W ((((U ((W (x44 + x45)))) : Int).fdiv (2 ^ (min (1 : Int).toNat 64))))) < (x47.length : Int)) ((x41 (((gt x47 ((W (x46 - (W ((((U ((W (x44 + x45)))) : Int).fdiv (2 ^ (min (1 : Int).toNat 64))))))))))) (((gt x47 ((W ((((U ((W (x44 + x45)))) : Int).fdiv (2 ^ (min (1 : Int).toNat 64)))))))))).bind fun y49 => (if (!(decide ((y49 : Int) < 0))) = true then ((zc3 φ k0 n48) x38 x39 x40 x41 x42 x43 ((W ((W ((((U ((W (x44 + x45)))) : Int).fdiv (2 ^ (min (1 : Int).toNat 64))))) + 1))) x45 x46 x47) else ((zc3 φ k0 n48) x38 x39 x40 x41 x42 x43 x44 ((W ((((U ((W (x44 + x45)))) : Int).fdiv (2 ^ (min (1 : Int).toNat 64)))))) x46 x47))))) else none) else (if ((decide ((x44 : Int) < x39)) && (decide ((x39 : Int) < (W (x43 - x44))))) = true then ((grot φ x47 x44 x39 (W (x43 - x44)) x41).bind fun y66 => (zf3 φ k0 x38 x40 x41 x42 x44 (W (x43 - x44)) y66)) else (zf3 φ k0 x38 x40 x41 x42 x44 (W (x43 - x44)) x47)))
def zhf (φ : Nat) (k0 : ((List α) -> Int -> Int -> Int -> (α -> α -> Option Int) -> Option (List α))) (x28 : Int) (x29 : Int) (x30 : Int) (x31 : (α -> α -> Option Int)) (x32 : Int) (x33 : Int) (x34 : Int) (x35 : Int) (x36 : (List α)) : Option (List α) := (zc3 φ k0 φ x28 x29 x30 x31 x32 x33 x34 x35 (W (x33 - 1)) x36)
def gsym (φ : Nat) : Nat -> (List α) -> Int -> Int -> Int -> (α -> α -> Option Int) -> Option (List α)
 | 0, _, _, _, _, _ => none
 | d + 1, x1, x2, x3, x4, x5 => (if (((W (x3 - x2)) : Int) == 1) = true then (zc0 φ φ x2 x5 x3 x4 x1) else (if (((W (x4 - x3)) : Int) == 1) = true then (zbw φ φ x3 x5 x2 x3 x1) else (if 0 <= (1 : Int) then (if (decide (((W ((((U ((W (x2 + x4)))) : Int).fdiv (2 ^ (min (1 : Int).toNat 64))))) : Int) < x3)) = true then (zhf φ (gsym φ d) x2 x3 x4 x5 ((W ((((U ((W (x2 + x4)))) : Int).fdiv (2 ^ (min (1 : Int).toNat 64)))))) ((W ((W ((((U ((W (x2 + x4)))) : Int).fdiv (2 ^ (min (1 : Int).toNat 64))))) + x3))) ((W ((W ((W ((((U ((W (x2 + x4)))) : Int).fdiv (2 ^ (min (1 : Int).toNat 64))))) + x3)) - x4))) ((W ((((U ((W (x2 + x4)))) : Int).fdiv (2 ^ (min (1 : Int).toNat 64)))))) x1) else (zhf φ (gsym φ d) x2 x3 x4 x5 ((W ((((U ((W (x2 + x4)))) : Int).fdiv (2 ^ (min (1 : Int).toNat 64)))))) ((W ((W ((((U ((W (x2 + x4)))) : Int).fdiv (2 ^ (min (1 : Int).toNat 64))))) + x3))) x2 x3 x1)) else none)))
def zjw (φ : Nat) (k17 : (Int -> (α -> α -> Option Int) -> Int -> (List α) -> Option (List α))) : Nat -> Int -> (α -> α -> Option Int) -> Int -> Int -> Int -> (List α) -> Option (List α)
 | 0, _, _, _, _, _, _ => none
 | n24 + 1, x18, x19, x20, x21, x22, x23 => (if (decide ((x22 : Int) <= x18)) = true then ((gsym φ φ x23 x21 (W (x21 + x20)) x22 x19).bind fun y25 => ((zjw φ k17 n24) x18 x19 x20 x22 ((W (x22 + (W (2 * x20))))) y25)) else (if (decide (((W (x21 + x20)) : Int) < x18)) = true then ((gsym φ φ x23 x21 (W (x21 + x20)) x18 x19).bind fun y26 => (k17 x18 x19 (W (x20 * 2)) y26)) else (k17 x18 x19 (W (x20 * 2)) x23)))
def zaf (φ : Nat) : Nat -> Int -> (α -> α -> Option Int) -> Int -> (List α) -> Option (List α)
 | 0, _, _, _, _ => none
 | n17 + 1, x13, x14, x15, x16 => (if (decide ((x15 : Int) < x13)) = true then (zjw φ (zaf φ n17) φ x13 x14 x15 0 (W (2 * x15)) x16) else (some x16))
def zgb (φ : Nat) : Nat -> Int -> (α -> α -> Option Int) -> Int -> Int -> Int -> (List α) -> Option (List α)
 | 0, _, _, _, _, _, _ => none
 | n10 + 1, x4, x5, x6, x7, x8, x9 => (if (decide ((x8 : Int) <= x4)) = true then ((gins φ x9 x7 x8 x5).bind fun y11 => ((zgb φ n10) x4 x5 x6 x8 (W (x8 + x6)) y11)) else ((gins φ x9 x7 x4 x5).bind fun y12 => (zaf φ φ x4 x5 x6 y12)))
def ye2 (φ : Nat) (x1 : (List α)) (x2 : Int) (x3 : (α -> α -> Option Int)) : Option (List α) := (zgb φ φ x2 x3 20 0 20 x1)
def zz9 (φ : Nat) (x1 : (List α)) (x2 : (α -> α -> Option Int)) : Option (List α) := ((ye2 φ x1 (x1.length : Int) x2).bind fun y3 => (some y3))
theorem zik {β : Type} {z : β} {p : Prop} [Decidable p] {x : Option β} (h : p) : zx z p x = x := if_pos h
variable {D : α -> Prop} {lt : α -> α -> Bool} {y : α -> α -> Option Int}
theorem yaw (hy : Cmp D y lt) (φ : Nat) (k : Int -> Int -> (α -> α -> Option Int) -> Int -> List α -> Option (List α)) (b i0 : Int) (P : List α) (x : α) (hx : D x) : ∀ (n : Nat) (S1 S2 : List α), (∀ z ∈ S1, D z) -> P.length + S1.length + S2.length <= 1000000 -> S1.length < n ->
  ∃ A B, S1 = A ++ B /\ (∀ z ∈ B, lt x z = true) /\ (A = [] \/ ∃ A' z, A = A' ++ [z] /\ lt x z = false) /\
   zj3 φ k n (P.length : Int) b y i0 ((P.length : Int) + S1.length) (P ++ S1 ++ x :: S2) = k (P.length : Int) b y (W (i0 + 1)) (P ++ A ++ x :: (B ++ S2)) := by
 intro n
 induction n with
 | zero => intro S1 S2 _ _ h; omega
 | succ n ih =>
  intro S1 S2 hD hl hn
  rcases List.eq_nil_or_concat S1 with rfl | ⟨S, z, rfl⟩
  ·refine ⟨[], [], rfl, by simp, .inl rfl, ?_⟩
   have h0 : decide ((P.length : Int) < (P.length : Int) + (([] : List α).length : Int)) = false := by simp
   rw [zj3, h0]
   simp [ck, zx]
  ·simp only [List.concat_eq_append] at hD hl hn ⊢
   simp only [List.length_append, List.length_cons, List.length_nil] at hl hn
   have e1 : P ++ (S ++ [z]) ++ x :: S2 = (P ++ S ++ [z]) ++ x :: S2 := by simp
   have e2 : P ++ (S ++ [z]) ++ x :: S2 = (P ++ S) ++ z :: (x :: S2) := by simp
   have g1 : gt (P ++ (S ++ [z]) ++ x :: S2) ((P.length : Int) + ((S ++ [z]).length : Int)) = x := by
    rw [e1]; exact zfu (by simp <;> omega)
   have hw : W ((P.length : Int) + ((S ++ [z]).length : Int) - 1) = (P.length : Int) + S.length := by
    rw [W_id (by simp; omega) (by simp; omega)]; simp; omega
   have g2 : gt (P ++ (S ++ [z]) ++ x :: S2) ((P.length : Int) + (S.length : Int)) = z := by
    rw [e2]; exact zfu (by simp)
   have h0 : decide ((P.length : Int) < (P.length : Int) + ((S ++ [z]).length : Int)) = true := by simp; omega
   have hlen : ((P ++ (S ++ [z]) ++ x :: S2).length : Int) = P.length + S.length + 1 + 1 + S2.length := by simp; omega
   obtain ⟨w, hw1, hw2⟩ := hy x z hx (hD z (by simp))
   have s1 : z0l (P ++ (S ++ [z]) ++ x :: S2) ((P.length : Int) + ((S ++ [z]).length : Int)) z = (P ++ S) ++ z :: (z :: S2) := by
    rw [e1, zlu (by simp <;> omega)]; simp
   have s2 : z0l ((P ++ S) ++ z :: (z :: S2)) ((P.length : Int) + (S.length : Int)) x = P ++ S ++ x :: (z :: S2) := zlu (by simp)
   rw [zj3, hw, h0, g1, g2, hw1, hlen]
   rw [z8 (fun _ => ⟨by omega, by simp; omega⟩), z8 (fun _ => ⟨by omega, by omega⟩), zik rfl]
   simp only [Option.bind_some, hw2, Bool.true_and]
   cases hlt : lt x z with
   | true =>
    rw [if_pos rfl, z8 ⟨by omega, by omega⟩, z8 ⟨by omega, by simp; omega⟩, z8 ⟨by omega, by simp; omega⟩, s1]
    rw [z8 ⟨by omega, by simp; omega⟩, s2]
    obtain ⟨A, B, q1, q2, q3, q4⟩ := ih S (z :: S2) (fun u hu => hD u (by simp [hu])) (by simp; omega) (by omega)
    refine ⟨A, B ++ [z], by rw [q1]; simp, ?_, q3, ?_⟩
    ·intro u hu
     rcases List.mem_append.1 hu with h | h
     ·exact q2 u h
     ·simp at h; rw [h]; exact hlt
    ·rw [q4]; simp
   | false =>
    rw [if_neg (by simp)]
    exact ⟨S ++ [z], [], by simp, by simp, .inr ⟨S, z, rfl, hlt⟩, by simp⟩
theorem y5z (hs : Swo lt) (hy : Cmp D y lt) (φ : Nat) (P Q : List α) : ∀ (n : Nat) (S R : List α), S ≠ [] -> Srt lt S -> (∀ z ∈ S, D z) -> (∀ z ∈ R, D z) -> P.length + S.length + R.length + Q.length <= 1000000 -> P.length + S.length + R.length < φ -> R.length < n ->
  ∃ S', Srt lt S' /\ Stb lt (S ++ R) S' /\ zfg φ n (P.length : Int) ((P.length : Int) + S.length + R.length) y ((P.length : Int) + S.length) (P ++ S ++ R ++ Q) = some (P ++ S' ++ Q) := by
 intro n
 induction n with
 | zero => intro S R _ _ _ _ _ _ h; omega
 | succ n ih =>
  intro S R hne hS hD hD' hl hφ hn
  cases R with
  | nil =>
   refine ⟨S, hS, by simpa using Stb.refl S, ?_⟩
   rw [zfg, if_neg (by simp)]
   simp
  | cons x R =>
   simp only [List.length_cons] at hl hφ hn
   rw [zfg, if_pos (by simp; omega)]
   obtain ⟨A, B, q1, q2, q3, q4⟩ := yaw hy φ (zfg φ n) ((P.length : Int) + S.length + (x :: R).length) ((P.length : Int) + S.length) P x (hD' x (by simp)) φ S (R ++ Q) hD (by simp; omega) (by omega)
   rw [show P ++ S ++ x :: R ++ Q = P ++ S ++ x :: (R ++ Q) by simp, q4]
   have hA : ∀ u ∈ A, lt x u = false := by
    rcases q3 with rfl | ⟨A', z, rfl, hz⟩
    ·simp
    ·intro u hu
     rcases List.mem_append.1 hu with h | h
     ·subst q1
      have := (hS.parts.1).parts.2.2 u h z (by simp)
      exact hs.ntr _ _ _ hz this
     ·simp at h; rw [h]; exact hz
   have hS2 : Srt lt (A ++ x :: B) := by
    subst q1
    refine hS.parts.1.app (List.pairwise_cons.2 ⟨fun u hu => hs.asym _ _ (q2 u hu), hS.parts.2.1⟩) fun u hu v hv => ?_
    rcases List.mem_cons.1 hv with h | h
    ·subst h; exact hA u hu
    ·exact hS.parts.2.2 u hu v h
   obtain ⟨S', p1, p2, p3⟩ := ih (A ++ x :: B) R (by simp) hS2 (fun z hz => by
    subst q1
    simp only [List.mem_append, List.mem_cons] at hz
    rcases hz with h | h | h
    ·exact hD z (by simp [h])
    ·subst h; exact hD' _ (by simp)
    ·exact hD z (by simp [h])) (fun z hz => hD' z (by simp [hz])) (by subst q1; simp at hl ⊢; omega) (by subst q1; simp at hφ ⊢; omega) (by omega)
   refine ⟨S', p1, ?_, ?_⟩
   ·have h1 : Stb lt (S ++ [x]) (A ++ [x] ++ B) := by subst q1; exact zyn hs q2
    have := h1.app (Stb.refl R)
    refine Stb.trans ?_ (Stb.trans this ?_)
    ·simpa using Stb.refl (lt := lt) (S ++ x :: R)
    ·simpa using p2
   ·rw [<- p3]
    have e1 : W ((P.length : Int) + S.length + 1) = (P.length : Int) + S.length + 1 := W_id (by omega) (by omega)
    have hSl : S.length = A.length + B.length := by rw [q1]; simp
    have e2 : (P.length : Int) + S.length + 1 = P.length + (A ++ x :: B).length := by simp; omega
    have e3 : (P.length : Int) + S.length + (x :: R).length = P.length + (A ++ x :: B).length + R.length := by simp; omega
    have e4 : P ++ A ++ x :: (B ++ (R ++ Q)) = P ++ (A ++ x :: B) ++ R ++ Q := by simp
    rw [e1, e2, e3, e4]
theorem zzo (hs : Swo lt) (hy : Cmp D y lt) (φ : Nat) (P X Q : List α) (hD : ∀ z ∈ X, D z) (hl : P.length + X.length + Q.length <= 1000000) (hφ : P.length + X.length < φ) :
  ∃ X', Srt lt X' /\ Stb lt X X' /\ gins φ (P ++ X ++ Q) (P.length : Int) ((P.length : Int) + X.length) y = some (P ++ X' ++ Q) := by
 unfold gins
 rw [W_id (x := (P.length : Int) + 1) (by omega) (by omega)]
 cases X with
 | nil =>
  refine ⟨[], List.Pairwise.nil, Stb.refl _, ?_⟩
  obtain ⟨n, rfl⟩ : ∃ n, φ = n + 1 := ⟨φ - 1, by omega⟩
  rw [zfg, if_neg (by simp; omega)]
 | cons x R =>
  simp only [List.length_cons] at hl hφ
  obtain ⟨S', p1, p2, p3⟩ := y5z hs hy φ P Q φ [x] R (by simp) (List.pairwise_singleton _ _) (fun z hz => hD z (by simp at hz; simp [hz])) (fun z hz => hD z (by simp [hz])) (by simp; omega) (by simp; omega) (by omega)
  refine ⟨S', p1, by simpa using p2, ?_⟩
  rw [<- p3]
  simp only [List.append_assoc, List.cons_append, List.length_cons, List.length_nil, List.nil_append]
  congr 1
  simp; omega
theorem yex (φ : Nat) (P Z Q : List α) (c : Nat) : ∀ (n : Nat) (X1 X2 Y1 Y2 : List α), X1.length = Y1.length -> X2.length = Y2.length -> c = X1.length + X2.length -> P.length + c + Z.length + c + Q.length <= 1000000 -> X2.length < n ->
  zgo φ n (P.length : Int) ((P.length : Int) + c + Z.length) (c : Int) (X1.length : Int) (P ++ Y1 ++ X2 ++ Z ++ X1 ++ Y2 ++ Q) = some (P ++ Y1 ++ Y2 ++ Z ++ X1 ++ X2 ++ Q) := by
 intro n
 induction n with
 | zero => intro X1 X2 Y1 Y2 _ _ _ _ h; omega
 | succ n ih =>
  intro X1 X2 Y1 Y2 h1 h2 hc hl hn
  cases X2 with
  | nil =>
   have : Y2 = [] := List.eq_nil_of_length_eq_zero (by simpa using h2.symm)
   subst this
   simp only [List.length_nil, Nat.add_zero] at hc
   rw [zgo, if_neg (by simp; omega)]
  | cons x X2 =>
   cases Y2 with
   | nil => simp at h2
   | cons w Y2 =>
    simp only [List.length_cons, Nat.add_right_cancel_iff] at h2 hc hn
    have w1 : W ((P.length : Int) + c + Z.length + X1.length) = (P.length : Int) + c + Z.length + X1.length := W_id (by omega) (by omega)
    have w2 : W ((P.length : Int) + X1.length) = (P.length : Int) + X1.length := W_id (by omega) (by omega)
    have w3 : W ((X1.length : Int) + 1) = (X1.length : Int) + 1 := W_id (by omega) (by omega)
    have e1 : P ++ Y1 ++ x :: X2 ++ Z ++ X1 ++ w :: Y2 ++ Q = (P ++ Y1) ++ x :: (X2 ++ Z ++ X1 ++ w :: Y2 ++ Q) := by simp
    have e2 : P ++ Y1 ++ x :: X2 ++ Z ++ X1 ++ w :: Y2 ++ Q = (P ++ Y1 ++ x :: X2 ++ Z ++ X1) ++ w :: (Y2 ++ Q) := by simp
    have g1 : gt (P ++ Y1 ++ x :: X2 ++ Z ++ X1 ++ w :: Y2 ++ Q) ((P.length : Int) + X1.length) = x := by rw [e1]; exact zfu (by simp; omega)
    have g2 : gt (P ++ Y1 ++ x :: X2 ++ Z ++ X1 ++ w :: Y2 ++ Q) ((P.length : Int) + c + Z.length + X1.length) = w := by rw [e2]; exact zfu (by simp; omega)
    have s1 : z0l (P ++ Y1 ++ x :: X2 ++ Z ++ X1 ++ w :: Y2 ++ Q) ((P.length : Int) + X1.length) w = (P ++ Y1) ++ w :: (X2 ++ Z ++ X1 ++ w :: Y2 ++ Q) := by rw [e1]; exact zlu (by simp; omega)
    have e3 : (P ++ Y1) ++ w :: (X2 ++ Z ++ X1 ++ w :: Y2 ++ Q) = (P ++ Y1 ++ w :: X2 ++ Z ++ X1) ++ w :: (Y2 ++ Q) := by simp
    have s2 : z0l ((P ++ Y1 ++ w :: X2 ++ Z ++ X1) ++ w :: (Y2 ++ Q)) ((P.length : Int) + c + Z.length + X1.length) x = (P ++ Y1 ++ w :: X2 ++ Z ++ X1) ++ x :: (Y2 ++ Q) := zlu (by simp; omega)
    have e4 : (P ++ Y1 ++ w :: X2 ++ Z ++ X1) ++ x :: (Y2 ++ Q) = P ++ (Y1 ++ [w]) ++ X2 ++ Z ++ (X1 ++ [x]) ++ Y2 ++ Q := by simp
    have hlen : ((P ++ Y1 ++ x :: X2 ++ Z ++ X1 ++ w :: Y2 ++ Q).length : Int) = P.length + c + Z.length + c + Q.length := by simp; omega
    have hlen2 : (((P ++ Y1 ++ w :: X2 ++ Z ++ X1) ++ w :: (Y2 ++ Q)).length : Int) = P.length + c + Z.length + c + Q.length := by simp; omega
    rw [zgo, if_pos (by simp; omega), w1, w2, w3, g1, g2, s1, e3, s2, e4, hlen, hlen2]
    rw [z8 ⟨by omega, by omega⟩, z8 ⟨by omega, by omega⟩, z8 ⟨by omega, by omega⟩, z8 ⟨by omega, by omega⟩]
    have := ih (X1 ++ [x]) X2 (Y1 ++ [w]) Y2 (by simp [h1]) h2 (by simp; omega) hl (by omega)
    have e5 : (((X1 ++ [x]).length : Nat) : Int) = (X1.length : Int) + 1 := by simp
    rw [e5] at this
    rw [this]
    simp
theorem zrr (φ : Nat) (P X Z Y Q : List α) (y : α -> α -> Option Int) (h : X.length = Y.length) (hl : P.length + X.length + Z.length + X.length + Q.length <= 1000000) (hφ : X.length < φ) :
  y4p φ (P ++ X ++ Z ++ Y ++ Q) (P.length : Int) ((P.length : Int) + X.length + Z.length) (X.length : Int) y = some (P ++ Y ++ Z ++ X ++ Q) := by
 have := yex φ P Z Q X.length φ [] X [] Y rfl h (by simp) hl hφ
 simpa [y4p] using this
theorem yfa (φ : Nat) (y : α -> α -> Option Int) : ∀ (n : Nat) (P X Y Q : List α), X ≠ [] -> Y ≠ [] -> P.length + X.length + Y.length + Q.length <= 1000000 -> X.length + Y.length <= n -> X.length + Y.length < φ ->
  zjr φ n ((P.length : Int) + X.length) y (X.length : Int) (Y.length : Int) (P ++ X ++ Y ++ Q) = some (P ++ Y ++ X ++ Q) := by
 intro n
 induction n with
 | zero => intro P X Y Q hX hY _ h; have := List.length_pos_iff.2 hX; omega
 | succ n ih =>
  intro P X Y Q hX hY hl hn hφ
  have hX0 := List.length_pos_iff.2 hX
  have hY0 := List.length_pos_iff.2 hY
  have w1 : W ((P.length : Int) + X.length - X.length) = (P.length : Int) := by rw [W_id (by omega) (by omega)]; omega
  rw [zjr, w1]
  by_cases he : X.length = Y.length
  ·rw [if_neg (by simp [he])]
   have := zrr φ P X [] Y Q y he (by simp; omega) (by omega)
   simp only [List.append_nil, List.length_nil, Int.ofNat_zero, Int.add_zero] at this
   rw [this]; rfl
  ·rw [if_pos (by simp; omega)]
   by_cases hlt : Y.length < X.length
   ·rw [if_pos (by simp; omega)]
    obtain ⟨X1, X2, rfl, h1⟩ : ∃ X1 X2, X = X1 ++ X2 /\ X1.length = Y.length := ⟨X.take Y.length, X.drop Y.length, (List.take_append_drop _ _).symm, by simp; omega⟩
    simp only [List.length_append] at hl hn hφ hlt hX0 he
    have e1 : P ++ (X1 ++ X2) ++ Y ++ Q = P ++ X1 ++ X2 ++ Y ++ Q := by simp
    have e2 : (P.length : Int) + ((X1 ++ X2).length : Nat) = (P.length : Int) + X1.length + X2.length := by simp; omega
    rw [e1, e2, <- h1, zrr φ P X1 X2 Y Q y h1 (by omega) (by omega)]
    simp only [Option.bind_some]
    have w2 : W (((X1 ++ X2).length : Int) - X1.length) = (X2.length : Int) := by simp; rw [W_id (by omega) (by omega)]; omega
    rw [w2]
    have := ih (P ++ Y) X2 X1 Q (by intro e; subst e; simp at hlt; omega) (by intro e; subst e; simp at h1; omega) (by simp; omega) (by omega) (by omega)
    have e3 : (((P ++ Y).length : Nat) : Int) + X2.length = (P.length : Int) + X1.length + X2.length := by simp; omega
    rw [e3] at this
    rw [this]
    simp
   ·rw [if_neg (by simp; omega)]
    obtain ⟨Y1, Y2, rfl, h1⟩ : ∃ Y1 Y2, Y = Y1 ++ Y2 /\ Y2.length = X.length := ⟨Y.take (Y.length - X.length), Y.drop (Y.length - X.length), (List.take_append_drop _ _).symm, by simp; omega⟩
    simp only [List.length_append] at hl hn hφ hlt hY0 he
    have e1 : P ++ X ++ (Y1 ++ Y2) ++ Q = P ++ X ++ Y1 ++ Y2 ++ Q := by simp
    have w3 : W ((P.length : Int) + X.length + ((Y1 ++ Y2).length : Nat)) = (P.length : Int) + X.length + Y1.length + Y2.length := by simp; rw [W_id (by omega) (by omega)]; omega
    have w4 : W ((P.length : Int) + X.length + Y1.length + Y2.length - X.length) = (P.length : Int) + X.length + Y1.length := by rw [W_id (by omega) (by omega)]; omega
    have w5 : W (((Y1 ++ Y2).length : Int) - X.length) = (Y1.length : Int) := by simp; rw [W_id (by omega) (by omega)]; omega
    rw [e1, w3, w4, w5, zrr φ P X Y1 Y2 Q y h1.symm (by omega) (by omega)]
    simp only [Option.bind_some]
    have := ih P Y2 Y1 (X ++ Q) (by intro e; subst e; simp at h1; omega) (by intro e; subst e; simp at h1 hlt he; omega) (by simp; omega) (by omega) (by omega)
    rw [h1] at this
    have e2 : P ++ Y2 ++ Y1 ++ X ++ Q = P ++ Y2 ++ Y1 ++ (X ++ Q) := by simp
    rw [e2, this]
    simp
theorem ybn (φ : Nat) (P X Y Q : List α) (y : α -> α -> Option Int) (hX : X ≠ []) (hY : Y ≠ []) (hl : P.length + X.length + Y.length + Q.length <= 1000000) (hφ : X.length + Y.length < φ) :
  grot φ (P ++ X ++ Y ++ Q) (P.length : Int) ((P.length : Int) + X.length) ((P.length : Int) + X.length + Y.length) y = some (P ++ Y ++ X ++ Q) := by
 have := yfa φ y φ P X Y Q hX hY hl (by omega) hφ
 rw [<- this]
 unfold grot
 have w1 : W ((P.length : Int) + X.length - P.length) = (X.length : Int) := by rw [W_id (by omega) (by omega)]; omega
 have w2 : W ((P.length : Int) + X.length + Y.length - ((P.length : Int) + X.length)) = (Y.length : Int) := by rw [W_id (by omega) (by omega)]; omega
 rw [w1, w2]
end
end Px
end
section
namespace Px
open Go
set_option linter.unusedVariables false
set_option linter.unusedSimpArgs false
set_option maxHeartbeats 4000000
section
variable {α : Type} [Inhabited α]
variable {D : α -> Prop} {lt : α -> α -> Bool} {y : α -> α -> Option Int}
theorem p21 : (2 : Int) ^ (min (1 : Int).toNat 64) = 2 := by decide
theorem y7c (φ : Nat) (x : α) : ∀ (n : Nat) (P C E : List α), P.length + C.length + E.length <= 999999 -> C.length < n ->
  zhd φ n ((P.length : Int) + C.length + 1) (P.length : Int) (P ++ x :: (C ++ E)) = some (P ++ C ++ x :: E) := by
 intro n
 induction n with
 | zero => intro P C E _ h; omega
 | succ n ih =>
  intro P C E hl hn
  have w0 : W ((P.length : Int) + C.length + 1 - 1) = (P.length : Int) + C.length := by rw [W_id (by omega) (by omega)]; omega
  rw [zhd, w0]
  cases C with
  | nil => rw [if_neg (by simp)]; simp
  | cons w C =>
   simp only [List.length_cons] at hl hn
   have w1 : W ((P.length : Int) + 1) = (P.length : Int) + 1 := W_id (by omega) (by omega)
   have e1 : P ++ x :: (w :: C ++ E) = (P ++ [x]) ++ w :: (C ++ E) := by simp
   have g1 : gt (P ++ x :: (w :: C ++ E)) (P.length : Int) = x := zfu rfl
   have g2 : gt (P ++ x :: (w :: C ++ E)) ((P.length : Int) + 1) = w := by rw [e1]; exact zfu (by simp)
   have s1 : z0l (P ++ x :: (w :: C ++ E)) (P.length : Int) w = P ++ w :: (w :: C ++ E) := zlu rfl
   have e2 : P ++ w :: (w :: C ++ E) = (P ++ [w]) ++ w :: (C ++ E) := by simp
   have s2 : z0l ((P ++ [w]) ++ w :: (C ++ E)) ((P.length : Int) + 1) x = (P ++ [w]) ++ x :: (C ++ E) := zlu (by simp)
   have hlen : ((P ++ x :: (w :: C ++ E)).length : Int) = P.length + C.length + E.length + 2 := by simp; omega
   have hlen2 : (((P ++ [w]) ++ w :: (C ++ E)).length : Int) = P.length + C.length + E.length + 2 := by simp; omega
   rw [if_pos (by simp; omega), w1, g1, g2, s1, e2, s2, hlen, hlen2, z8 ⟨by omega, by omega⟩, z8 ⟨by omega, by omega⟩, z8 ⟨by omega, by omega⟩, z8 ⟨by omega, by omega⟩]
   have := ih (P ++ [w]) C E (by simp; omega) (by omega)
   have e3 : (((P ++ [w]).length : Nat) : Int) = (P.length : Int) + 1 := by simp
   have e4 : (P.length : Int) + ((w :: C).length : Nat) + 1 = (P.length : Int) + 1 + C.length + 1 := by simp; omega
   rw [e3] at this
   rw [e4, this]
   simp
theorem zyt (φ : Nat) (x : α) (P : List α) : ∀ (n : Nat) (C E : List α), P.length + C.length + E.length <= 999999 -> C.length < n ->
  zhn φ n (P.length : Int) ((P.length : Int) + C.length) (P ++ C ++ x :: E) = some (P ++ x :: (C ++ E)) := by
 intro n
 induction n with
 | zero => intro C E _ h; omega
 | succ n ih =>
  intro C E hl hn
  rw [zhn]
  rcases zd4 C with rfl | ⟨S, z, rfl⟩
  ·rw [if_neg (by simp)]; simp
  ·simp only [List.length_append, List.length_cons, List.length_nil] at hl hn
   have w1 : W ((P.length : Int) + ((S ++ [z]).length : Nat) - 1) = (P.length : Int) + S.length := by
    rw [W_id (by simp; omega) (by simp; omega)]; simp; omega
   have e1 : P ++ (S ++ [z]) ++ x :: E = (P ++ S ++ [z]) ++ x :: E := by simp
   have e2 : P ++ (S ++ [z]) ++ x :: E = (P ++ S) ++ z :: (x :: E) := by simp
   have g1 : gt (P ++ (S ++ [z]) ++ x :: E) ((P.length : Int) + ((S ++ [z]).length : Nat)) = x := by rw [e1]; exact zfu (by simp <;> omega)
   have g2 : gt (P ++ (S ++ [z]) ++ x :: E) ((P.length : Int) + S.length) = z := by rw [e2]; exact zfu (by simp)
   have s1 : z0l (P ++ (S ++ [z]) ++ x :: E) ((P.length : Int) + ((S ++ [z]).length : Nat)) z = (P ++ S) ++ z :: (z :: E) := by rw [e1, zlu (by simp <;> omega)]; simp
   have s2 : z0l ((P ++ S) ++ z :: (z :: E)) ((P.length : Int) + S.length) x = P ++ S ++ x :: (z :: E) := zlu (by simp)
   have hlen : ((P ++ (S ++ [z]) ++ x :: E).length : Int) = P.length + S.length + E.length + 2 := by simp; omega
   have hlen2 : (((P ++ S) ++ z :: (z :: E)).length : Int) = P.length + S.length + E.length + 2 := by simp; omega
   rw [if_pos (by simp; omega), w1, g1, g2, s1, s2, hlen, hlen2, z8 ⟨by omega, by omega⟩, z8 ⟨by simp; omega, by simp; omega⟩, z8 ⟨by simp; omega, by simp; omega⟩, z8 ⟨by omega, by omega⟩]
   rw [ih S (z :: E) (by simp; omega) (by omega)]
   simp
theorem zv7 (hs : Swo lt) (hy : Cmp D y lt) (φ : Nat) (P L Q : List α) (x : α) (hx : D x) (hD : ∀ z ∈ L, D z) (hS : Srt lt L) (hl : P.length + L.length + Q.length <= 999998) (hφ : P.length + L.length + 2 < φ) :
  ∃ R, Srt lt R /\ Stb lt (x :: L) R /\ zc0 φ φ (P.length : Int) y ((P.length : Int) + 1) ((P.length : Int) + 1 + L.length) (P ++ x :: (L ++ Q)) = some (P ++ R ++ Q) := by
 have gx : gt (P ++ x :: (L ++ Q)) (P.length : Int) = x := zfu rfl
 have hlen : ((P ++ x :: (L ++ Q)).length : Int) = P.length + L.length + Q.length + 1 := by simp; omega
 have gL : ∀ i : Nat, P.length + 1 <= i -> i < P.length + 1 + L.length -> gt (P ++ x :: (L ++ Q)) (i : Int) = gt L ((i - (P.length + 1) : Nat) : Int) := by
  intro i h1 h2
  have e : P ++ x :: (L ++ Q) = (P ++ [x]) ++ (L ++ Q) := by simp
  rw [e, zan _ _ _ (by simp; omega), zew _ _ _ (by simp; omega) (by simp; omega)]
  congr 1; simp; omega
 obtain ⟨c, h1, h2, h3, h4, h5⟩ := zwg (fun n s r => zc0 φ n (P.length : Int) y s r (P ++ x :: (L ++ Q)))
  (fun s => zhd φ φ s (P.length : Int) (P ++ x :: (L ++ Q))) (fun h => lt (gt (P ++ x :: (L ++ Q)) (h : Int)) x) (P.length + 1 + L.length) (P.length + 1)
  (by
   intro n s r h0 hlt hR
   have hm : (W ((U (W ((s : Int) + r))).fdiv 2)) = (((s + r) / 2 : Nat) : Int) := by rw [y2d (by omega) (by omega)]; omega
   have hm1 : W ((((s + r) / 2 : Nat) : Int) + 1) = (((s + r) / 2 + 1 : Nat) : Int) := by rw [W_id (by omega) (by omega)]; simp
   obtain ⟨w, hw1, hw2⟩ := hy (gt (P ++ x :: (L ++ Q)) (((s + r) / 2 : Nat) : Int)) x (by
    rw [gL _ (by omega) (by omega)]; exact hD _ (zbn (by omega) (by omega))) hx
   show zc0 φ (n + 1) _ _ _ _ _ = _
   rw [zc0, if_pos (by simp; omega), if_pos (by decide), p21, hm, hm1, hlen, gx, z8 ⟨by omega, by omega⟩, z8 ⟨by omega, by omega⟩, hw1]
   simp only [Option.bind_some, hw2])
  (by
   intro n s
   show zc0 φ (n + 1) _ _ _ _ _ = _
   rw [zc0, if_neg (by simp)]) φ (P.length + 1) (P.length + 1 + L.length) (Nat.le_refl _) (by omega) (Nat.le_refl _) (by omega)
 obtain ⟨C, E, rfl, hC⟩ : ∃ C E, L = C ++ E /\ C.length = c - (P.length + 1) := ⟨L.take (c - (P.length + 1)), L.drop (c - (P.length + 1)), (List.take_append_drop _ _).symm, by simp; omega⟩
 simp only [List.length_append] at hl hφ h2 gL
 have hCx : ∀ z ∈ C, lt z x = true := by
  intro z hz
  rcases zd4 C with rfl | ⟨S, w, rfl⟩
  ·cases hz
  ·simp only [List.length_append, List.length_cons, List.length_nil] at hC hz hS gL h2
   have hp : lt w x = true := by
    rcases h3 with h3 | h3
    ·omega
    ·rw [gL _ (by omega) (by omega)] at h3
     have e : S ++ [w] ++ E = S ++ w :: E := by simp
     rw [e, zfu (by omega)] at h3
     exact h3
   rcases List.mem_append.1 hz with h | h
   ·exact zkd hs (hS.parts.1.parts.2.2 z h w (by simp)) hp (hs.irr x)
   ·simp at h; rw [h]; exact hp
 have hEx : ∀ z ∈ E, lt z x = false := by
  intro z hz
  cases E with
  | nil => cases hz
  | cons w E =>
   simp only [List.length_cons] at h2 gL h4
   have hp : lt w x = false := by
    rcases h4 with h4 | h4
    ·simp at h4; omega
    ·rw [gL _ (by omega) (by omega), zfu (by omega)] at h4
     exact h4
   rcases List.mem_cons.1 hz with h | h
   ·rw [h]; exact hp
   ·exact hs.ntr _ _ _ ((List.pairwise_cons.1 hS.parts.2.1).1 z h) hp
 have hm := zi8 hs (A := []) (B := [x]) (C := C) (E := E) (R1 := C) (R2 := x :: E) (List.pairwise_singleton _ _) hS (by simpa using hCx) (by simp) hS.parts.1 (by simpa using Stb.refl C) (List.pairwise_cons.2 ⟨hEx, hS.parts.2.1⟩) (by simpa using Stb.refl (x :: E))
 refine ⟨C ++ x :: E, hm.1, by simpa using hm.2, ?_⟩
 have e5 : ((P.length : Int) + 1 + ((C ++ E).length : Nat)) = ((P.length + 1 + (C ++ E).length : Nat) : Int) := by simp
 have e6 : ((P.length : Int) + 1) = ((P.length + 1 : Nat) : Int) := by simp
 rw [e5, e6]
 refine h5.trans ?_
 show zhd φ φ _ _ _ = _
 have e7 : (c : Int) = (P.length : Int) + C.length + 1 := by omega
 have e8 : P ++ x :: (C ++ E ++ Q) = P ++ x :: (C ++ (E ++ Q)) := by simp
 rw [e7, e8, y7c φ x φ P C (E ++ Q) (by simp; omega) (by omega)]
 simp
theorem zzc (hs : Swo lt) (hy : Cmp D y lt) (φ : Nat) (P L Q : List α) (x : α) (hx : D x) (hD : ∀ z ∈ L, D z) (hS : Srt lt L) (hl : P.length + L.length + Q.length <= 999998) (hφ : P.length + L.length + 2 < φ) :
  ∃ R, Srt lt R /\ Stb lt (L ++ [x]) R /\ zbw φ φ ((P.length : Int) + L.length) y (P.length : Int) ((P.length : Int) + L.length) (P ++ L ++ x :: Q) = some (P ++ R ++ Q) := by
 have gx : gt (P ++ L ++ x :: Q) ((P.length : Int) + L.length) = x := zfu (by simp)
 have hlen : ((P ++ L ++ x :: Q).length : Int) = P.length + L.length + Q.length + 1 := by simp; omega
 have gL : ∀ i : Nat, P.length <= i -> i < P.length + L.length -> gt (P ++ L ++ x :: Q) (i : Int) = gt L ((i - P.length : Nat) : Int) := by
  intro i h1 h2
  rw [List.append_assoc, zan _ _ _ (by omega), zew _ _ _ (by omega) (by omega)]
  congr 1; omega
 obtain ⟨c, h1, h2, h3, h4, h5⟩ := zwg (fun n s r => zbw φ n ((P.length : Int) + L.length) y s r (P ++ L ++ x :: Q))
  (fun s => zhn φ φ s ((P.length : Int) + L.length) (P ++ L ++ x :: Q)) (fun h => !lt x (gt (P ++ L ++ x :: Q) (h : Int))) (P.length + L.length) P.length
  (by
   intro n s r h0 hlt hR
   have hm : (W ((U (W ((s : Int) + r))).fdiv 2)) = (((s + r) / 2 : Nat) : Int) := by rw [y2d (by omega) (by omega)]; omega
   have hm1 : W ((((s + r) / 2 : Nat) : Int) + 1) = (((s + r) / 2 + 1 : Nat) : Int) := by rw [W_id (by omega) (by omega)]; simp
   obtain ⟨w, hw1, hw2⟩ := hy x (gt (P ++ L ++ x :: Q) (((s + r) / 2 : Nat) : Int)) hx (by
    rw [gL _ (by omega) (by omega)]; exact hD _ (zbn (by omega) (by omega)))
   show zbw φ (n + 1) _ _ _ _ _ = _
   rw [zbw, if_pos (by simp; omega), if_pos (by decide), p21, hm, hm1, hlen, gx, z8 ⟨by omega, by omega⟩, z8 ⟨by omega, by omega⟩, hw1]
   simp only [Option.bind_some, hw2])
  (by
   intro n s
   show zbw φ (n + 1) _ _ _ _ _ = _
   rw [zbw, if_neg (by simp)]) φ P.length (P.length + L.length) (Nat.le_refl _) (by omega) (Nat.le_refl _) (by omega)
 obtain ⟨A, B, rfl, hC⟩ : ∃ A B, L = A ++ B /\ A.length = c - P.length := ⟨L.take (c - P.length), L.drop (c - P.length), (List.take_append_drop _ _).symm, by simp; omega⟩
 simp only [List.length_append] at hl hφ h2 gL
 have hA : ∀ z ∈ A, lt x z = false := by
  intro z hz
  rcases zd4 A with rfl | ⟨S, w, rfl⟩
  ·cases hz
  ·simp only [List.length_append, List.length_cons, List.length_nil] at hC hz hS gL h2
   have hp : lt x w = false := by
    rcases h3 with h3 | h3
    ·omega
    ·rw [gL _ (by omega) (by omega)] at h3
     have e : S ++ [w] ++ B = S ++ w :: B := by simp
     rw [e, zfu (by omega)] at h3
     simpa using h3
   rcases List.mem_append.1 hz with h | h
   ·exact hs.ntr _ _ _ hp (hS.parts.1.parts.2.2 z h w (by simp))
   ·simp at h; rw [h]; exact hp
 have hB : ∀ z ∈ B, lt x z = true := by
  intro z hz
  cases B with
  | nil => cases hz
  | cons w B =>
   simp only [List.length_cons] at h2 gL h4
   have hp : lt x w = true := by
    rcases h4 with h4 | h4
    ·simp at h4; omega
    ·rw [gL _ (by omega) (by omega), zfu (by omega)] at h4
     simpa using h4
   rcases List.mem_cons.1 hz with h | h
   ·rw [h]; exact hp
   ·exact zkd hs (hs.irr x) hp ((List.pairwise_cons.1 hS.parts.2.1).1 z h)
 have hm := zi8 hs (A := A) (B := B) (C := [x]) (E := []) (R1 := A ++ [x]) (R2 := B) hS (by rw [List.append_nil]; exact List.pairwise_singleton _ x) (by simpa using hB) (by simp)
  (hS.parts.1.app (List.pairwise_singleton _ _) (by simpa using hA)) (Stb.refl _) hS.parts.2.1 (by simpa using Stb.refl B)
 refine ⟨A ++ [x] ++ B, hm.1, by simpa using hm.2, ?_⟩
 have e5 : ((P.length : Int) + ((A ++ B).length : Nat)) = ((P.length + (A ++ B).length : Nat) : Int) := by simp
 rw [e5] at h5 ⊢
 refine h5.trans ?_
 show zhn φ φ _ _ _ = _
 have e7 : (c : Int) = (((P ++ A).length : Nat) : Int) := by simp; omega
 have e8 : P ++ (A ++ B) ++ x :: Q = (P ++ A) ++ B ++ x :: Q := by simp
 have e9 : ((P.length + (A ++ B).length : Nat) : Int) = (((P ++ A).length : Nat) : Int) + B.length := by simp; omega
 rw [e7, e8, e9, zyt φ x (P ++ A) φ B Q (by simp; omega) (by omega)]
 simp
def y3b (φ : Nat) (k0 : List α -> Int -> Int -> Int -> (α -> α -> Option Int) -> Option (List α)) (a m b : Int) (y : α -> α -> Option Int) (mid n s : Int) (l : List α) : Option (List α) :=
 (if ((decide ((s : Int) < m)) && (decide ((m : Int) < (W (n - s))))) = true then ((grot φ l s m (W (n - s)) y).bind fun y66 => (zf3 φ k0 a b y mid s (W (n - s)) y66)) else (zf3 φ k0 a b y mid s (W (n - s)) l))
theorem yao (hs : Swo lt) (hy : Cmp D y lt) (φ : Nat) (k0 : List α -> Int -> Int -> Int -> (α -> α -> Option Int) -> Option (List α)) (P L1 L2 Q : List α) (hD1 : ∀ z ∈ L1, D z) (hD2 : ∀ z ∈ L2, D z) (hS1 : Srt lt L1) (hS2 : Srt lt L2)
  (a m b mid s0 r0 : Nat) (ha : a = P.length) (hm : m = a + L1.length) (hb : b = m + L2.length) (hmid : mid = (a + b) / 2) (hl : b + Q.length <= 999998) (hφ : b < φ)
  (h1 : 1 <= L1.length) (h2 : 1 <= L2.length) (hs0 : (mid < m /\ s0 = mid + m - b /\ r0 = mid) \/ (m <= mid /\ s0 = a /\ r0 = m)) :
  ∃ A B C E, L1 = A ++ B /\ L2 = C ++ E /\ mid + m - (a + A.length) = m + C.length /\ (∀ x ∈ B, ∀ y ∈ C, lt y x = true) /\ (∀ x ∈ A, ∀ y ∈ E, lt y x = false) /\
   zc3 φ k0 φ (a : Int) (m : Int) (b : Int) y (mid : Int) ((mid + m : Nat) : Int) (s0 : Int) (r0 : Int) ((mid + m - 1 : Nat) : Int) (P ++ L1 ++ L2 ++ Q) = y3b φ k0 (a : Int) (m : Int) (b : Int) y (mid : Int) ((mid + m : Nat) : Int) ((a + A.length : Nat) : Int) (P ++ L1 ++ L2 ++ Q) := by
 have g1 : ∀ i : Nat, a <= i -> i < m -> gt (P ++ L1 ++ L2 ++ Q) (i : Int) = gt L1 ((i - a : Nat) : Int) := by
  intro i q1 q2
  have e : P ++ L1 ++ L2 ++ Q = P ++ (L1 ++ (L2 ++ Q)) := by simp
  rw [e, zan _ _ _ (by omega), zew _ _ _ (by omega) (by omega)]
  congr 1; omega
 have g2 : ∀ i : Nat, m <= i -> i < b -> gt (P ++ L1 ++ L2 ++ Q) (i : Int) = gt L2 ((i - m : Nat) : Int) := by
  intro i q1 q2
  have e : P ++ L1 ++ L2 ++ Q = (P ++ L1) ++ (L2 ++ Q) := by simp
  rw [e, zan _ _ _ (by simp; omega), zew _ _ _ (by simp; omega) (by simp; omega)]
  congr 1; simp; omega
 have hlen : ((P ++ L1 ++ L2 ++ Q).length : Int) = b + Q.length := by simp; omega
 have hW : W ((U (W ((a : Int) + b))).fdiv 2) = (mid : Int) := by rw [y2d (by omega) (by omega)]; omega
 have hn : W ((mid : Int) + m) = ((mid + m : Nat) : Int) := by rw [W_id (by omega) (by omega)]; simp
 have hp : W (((mid + m : Nat) : Int) - 1) = ((mid + m - 1 : Nat) : Int) := by rw [W_id (by omega) (by omega)]; omega
 have hmb : mid <= b := by omega
 have ham : a <= mid := by omega
 obtain ⟨c, h3, h4, h5, h6, h7⟩ := zwg (fun n s r => zc3 φ k0 n (a : Int) (m : Int) (b : Int) y (mid : Int) ((mid + m : Nat) : Int) s r ((mid + m - 1 : Nat) : Int) (P ++ L1 ++ L2 ++ Q)) (fun s => y3b φ k0 (a : Int) (m : Int) (b : Int) y (mid : Int) ((mid + m : Nat) : Int) s (P ++ L1 ++ L2 ++ Q))
  (fun c => !lt (gt (P ++ L1 ++ L2 ++ Q) ((mid + m - 1 - c : Nat) : Int)) (gt (P ++ L1 ++ L2 ++ Q) (c : Int))) r0 s0
  (by
   intro n s r q0 hlt hR
   have hm' : (W ((U (W ((s : Int) + r))).fdiv 2)) = (((s + r) / 2 : Nat) : Int) := by rw [y2d (by omega) (by omega)]; omega
   have hm1 : W ((((s + r) / 2 : Nat) : Int) + 1) = (((s + r) / 2 + 1 : Nat) : Int) := by rw [W_id (by omega) (by omega)]; simp
   have hpc : W (((mid + m - 1 : Nat) : Int) - (((s + r) / 2 : Nat) : Int)) = ((mid + m - 1 - (s + r) / 2 : Nat) : Int) := by rw [W_id (by omega) (by omega)]; omega
   obtain ⟨w, hw1, hw2⟩ := hy (gt (P ++ L1 ++ L2 ++ Q) ((mid + m - 1 - (s + r) / 2 : Nat) : Int)) (gt (P ++ L1 ++ L2 ++ Q) (((s + r) / 2 : Nat) : Int))
    (by rw [g2 _ (by omega) (by omega)]; exact hD2 _ (zbn (by omega) (by omega))) (by rw [g1 _ (by omega) (by omega)]; exact hD1 _ (zbn (by omega) (by omega)))
   show zc3 φ k0 (n + 1) _ _ _ _ _ _ _ _ _ _ = _
   rw [zc3, if_pos (by simp; omega), if_pos (by decide), p21, hm', hm1, hpc, hlen, z8 ⟨by omega, by omega⟩, z8 ⟨by omega, by omega⟩, hw1]
   simp only [Option.bind_some, hw2])
  (by
   intro n s
   show zc3 φ k0 (n + 1) _ _ _ _ _ _ _ _ _ _ = _
   rw [zc3, if_neg (by simp)]
   rfl) φ s0 r0 (Nat.le_refl _) (by omega) (Nat.le_refl _) (by omega)
 obtain ⟨A, B, rfl, hA⟩ : ∃ A B, L1 = A ++ B /\ A.length = c - a := ⟨L1.take (c - a), L1.drop (c - a), (List.take_append_drop _ _).symm, by simp; omega⟩
 obtain ⟨C, E, rfl, hC⟩ : ∃ C E, L2 = C ++ E /\ C.length = mid - c := ⟨L2.take (mid - c), L2.drop (mid - c), (List.take_append_drop _ _).symm, by simp; omega⟩
 simp only [List.length_append] at hm hb g1 g2
 refine ⟨A, B, C, E, rfl, rfl, by omega, ?_, ?_, ?_⟩
 ·intro x hx z hz
  rcases zd4 C with rfl | ⟨S, w, rfl⟩
  ·cases hz
  ·cases B with
   | nil => cases hx
   | cons x0 B =>
    simp only [List.length_append, List.length_cons, List.length_nil] at hC hm hb g1 g2 hA
    have hp : lt w x0 = true := by
     rcases h6 with h6 | h6
     ·omega
     ·rw [g1 c (by omega) (by omega), g2 (mid + m - 1 - c) (by omega) (by omega)] at h6
      have e : S ++ [w] ++ E = S ++ w :: E := by simp
      rw [e, zfu (by omega), zfu (by omega)] at h6
      simpa using h6
    have hz1 : lt w z = false := by
     rcases List.mem_append.1 hz with h | h
     ·exact hS2.parts.1.parts.2.2 z h w (by simp)
     ·simp at h; rw [h]; exact hs.irr _
    have hx1 : lt x x0 = false := by
     rcases List.mem_cons.1 hx with h | h
     ·rw [h]; exact hs.irr _
     ·exact (List.pairwise_cons.1 hS1.parts.2.1).1 x h
    exact zkd hs hz1 hp hx1
 ·intro x hx z hz
  rcases zd4 A with rfl | ⟨S, w, rfl⟩
  ·cases hx
  ·cases E with
   | nil => cases hz
   | cons e0 E =>
    simp only [List.length_append, List.length_cons, List.length_nil] at hC hm hb g1 g2 hA
    have hp : lt e0 w = false := by
     rcases h5 with h5 | h5
     ·omega
     ·have e1 : mid + m - 1 - (c - 1) = mid + m - c := by omega
      rw [e1, g1 (c - 1) (by omega) (by omega), g2 (mid + m - c) (by omega) (by omega)] at h5
      have e : S ++ [w] ++ B = S ++ w :: B := by simp
      rw [e, zfu (by omega), zfu (by omega)] at h5
      simpa using h5
    have hz1 : lt z e0 = false := by
     rcases List.mem_cons.1 hz with h | h
     ·rw [h]; exact hs.irr _
     ·exact (List.pairwise_cons.1 hS2.parts.2.1).1 z h
    have hx1 : lt w x = false := by
     rcases List.mem_append.1 hx with h | h
     ·exact hS1.parts.1.parts.2.2 x h w (by simp)
     ·simp at h; rw [h]; exact hs.irr _
    exact zwp hs hz1 hp hx1
 ·refine h7.trans ?_
  have e : (c : Int) = ((a + A.length : Nat) : Int) := by omega
  show y3b φ k0 _ _ _ _ _ _ _ _ = _
  rw [e]
theorem ztg (hs : Swo lt) (hy : Cmp D y lt) (φ : Nat) : ∀ (d : Nat) (P L1 L2 Q : List α), (∀ z ∈ L1, D z) -> (∀ z ∈ L2, D z) -> Srt lt L1 -> Srt lt L2 -> L1 ≠ [] -> L2 ≠ [] ->
  P.length + L1.length + L2.length + Q.length <= 999998 -> P.length + L1.length + L2.length + 3 < φ -> L1.length + L2.length <= d ->
  ∃ R, Srt lt R /\ Stb lt (L1 ++ L2) R /\ gsym φ d (P ++ L1 ++ L2 ++ Q) (P.length : Int) ((P.length : Int) + L1.length) ((P.length : Int) + L1.length + L2.length) y = some (P ++ R ++ Q) := by
 intro d
 induction d with
 | zero => intro P L1 L2 Q _ _ _ _ h1 _ _ _ h; have := List.length_pos_iff.2 h1; omega
 | succ d ih =>
  intro P L1 L2 Q hD1 hD2 hS1 hS2 hn1 hn2 hl hφ hd
  have hp1 := List.length_pos_iff.2 hn1
  have hp2 := List.length_pos_iff.2 hn2
  rw [gsym]
  have w1 : W ((P.length : Int) + L1.length - P.length) = (L1.length : Int) := by rw [W_id (by omega) (by omega)]; omega
  have w2 : W ((P.length : Int) + L1.length + L2.length - ((P.length : Int) + L1.length)) = (L2.length : Int) := by rw [W_id (by omega) (by omega)]; omega
  rw [w1, w2]
  by_cases q1 : L1.length = 1
  ·rw [if_pos (by simp [q1])]
   match L1, q1 with
   | [x], _ =>
    obtain ⟨R, r1, r2, r3⟩ := zv7 hs hy φ P L2 Q x (hD1 x (by simp)) hD2 hS2 (by simp at hl; omega) (by simp at hφ; omega)
    refine ⟨R, r1, r2, ?_⟩
    rw [<- r3]
    simp
  ·rw [if_neg (by simp; omega)]
   by_cases q2 : L2.length = 1
   ·rw [if_pos (by simp [q2])]
    match L2, q2 with
    | [x], _ =>
     obtain ⟨R, r1, r2, r3⟩ := zzc hs hy φ P L1 Q x (hD2 x (by simp)) hD1 hS1 (by simp at hl; omega) (by simp at hφ; omega)
     refine ⟨R, r1, r2, ?_⟩
     rw [<- r3]
     simp
   ·rw [if_neg (by simp; omega)]
    obtain ⟨a, ha⟩ : ∃ a, a = P.length := ⟨_, rfl⟩
    obtain ⟨m, hm⟩ : ∃ m, m = a + L1.length := ⟨_, rfl⟩
    obtain ⟨b, hb⟩ : ∃ b, b = m + L2.length := ⟨_, rfl⟩
    obtain ⟨mid, hmid⟩ : ∃ mid, mid = (a + b) / 2 := ⟨_, rfl⟩
    have ea : (P.length : Int) = (a : Int) := by omega
    have em : (P.length : Int) + L1.length = (m : Int) := by omega
    have eb : (P.length : Int) + L1.length + L2.length = (b : Int) := by omega
    rw [eb, em, ea]
    have hW : W ((U (W ((a : Int) + b))).fdiv 2) = (mid : Int) := by rw [y2d (by omega) (by omega)]; omega
    have hn : W ((mid : Int) + m) = ((mid + m : Nat) : Int) := by rw [W_id (by omega) (by omega)]; simp
    rw [if_pos (show (0 : Int) <= 1 by decide), p21, hW, hn]
    have key : ∃ s0 r0 : Nat, ((mid < m /\ s0 = mid + m - b /\ r0 = mid) \/ (m <= mid /\ s0 = a /\ r0 = m)) /\
      (if decide ((mid : Int) < m) = true then zhf φ (gsym φ d) (a : Int) (m : Int) (b : Int) y (mid : Int) ((mid + m : Nat) : Int) (W (((mid + m : Nat) : Int) - b)) (mid : Int) (P ++ L1 ++ L2 ++ Q)
       else zhf φ (gsym φ d) (a : Int) (m : Int) (b : Int) y (mid : Int) ((mid + m : Nat) : Int) (a : Int) (m : Int) (P ++ L1 ++ L2 ++ Q)) =
      zhf φ (gsym φ d) (a : Int) (m : Int) (b : Int) y (mid : Int) ((mid + m : Nat) : Int) (s0 : Int) (r0 : Int) (P ++ L1 ++ L2 ++ Q) := by
     by_cases q : mid < m
     ·refine ⟨mid + m - b, mid, .inl ⟨q, rfl, rfl⟩, ?_⟩
      have : W (((mid + m : Nat) : Int) - b) = ((mid + m - b : Nat) : Int) := by rw [W_id (by omega) (by omega)]; omega
      rw [if_pos (by simp; omega), this]
     ·refine ⟨a, m, .inr ⟨by omega, rfl, rfl⟩, ?_⟩
      rw [if_neg (by simp; omega)]
    obtain ⟨s0, r0, hk, e⟩ := key
    rw [e]
    unfold zhf
    have hp : W (((mid + m : Nat) : Int) - 1) = ((mid + m - 1 : Nat) : Int) := by rw [W_id (by omega) (by omega)]; omega
    rw [hp]
    obtain ⟨A, B, C, E, rfl, rfl, hc, hA, hB, hL⟩ := yao hs hy φ (gsym φ d) P L1 L2 Q hD1 hD2 hS1 hS2 a m b mid s0 r0 ha hm hb hmid (by omega) (by omega) (by omega) (by omega) hk
    rw [hL]
    simp only [List.length_append] at hm hb hl hφ hp1 hp2 q1 q2
    have hcm : mid = a + A.length + C.length := by omega
    have hend : W (((mid + m : Nat) : Int) - ((a + A.length : Nat) : Int)) = ((m + C.length : Nat) : Int) := by rw [W_id (by omega) (by omega)]; omega
    have step1 : y3b φ (gsym φ d) (a : Int) (m : Int) (b : Int) y (mid : Int) ((mid + m : Nat) : Int) ((a + A.length : Nat) : Int) (P ++ (A ++ B) ++ (C ++ E) ++ Q) =
      zf3 φ (gsym φ d) (a : Int) (b : Int) y (mid : Int) ((a + A.length : Nat) : Int) ((m + C.length : Nat) : Int) (P ++ A ++ C ++ B ++ E ++ Q) := by
     unfold y3b
     rw [hend]
     by_cases hBC : B = [] \/ C = []
     ·rw [if_neg (by
       rcases hBC with rfl | rfl
       ·simp at hm ⊢; omega
       ·simp)]
      rcases hBC with rfl | rfl <;> simp
     ·obtain ⟨hB0, hC0⟩ := not_or.1 hBC
      have b0 := List.length_pos_iff.2 hB0
      have c0 := List.length_pos_iff.2 hC0
      rw [if_pos (by simp; omega)]
      have := ybn φ (P ++ A) B C (E ++ Q) y hB0 hC0 (by simp; omega) (by omega)
      have e1 : P ++ (A ++ B) ++ (C ++ E) ++ Q = P ++ A ++ B ++ C ++ (E ++ Q) := by simp
      have e2 : ((a + A.length : Nat) : Int) = ((P ++ A).length : Nat) := by simp; omega
      have e3 : (m : Int) = ((P ++ A).length : Nat) + (B.length : Int) := by simp; omega
      have e4 : ((m + C.length : Nat) : Int) = ((P ++ A).length : Nat) + (B.length : Int) + C.length := by simp; omega
      rw [e1]
      conv => lhs; arg 1; rw [e4, e2, e3]
      rw [this]
      simp only [Option.bind_some]
      congr 1
      simp
    rw [step1]
    have step2 : ∃ R1, Srt lt R1 /\ Stb lt (A ++ C) R1 /\ zf3 φ (gsym φ d) (a : Int) (b : Int) y (mid : Int) ((a + A.length : Nat) : Int) ((m + C.length : Nat) : Int) (P ++ A ++ C ++ B ++ E ++ Q) =
      zjv φ (gsym φ d) (b : Int) y (mid : Int) ((m + C.length : Nat) : Int) (P ++ R1 ++ B ++ E ++ Q) := by
     unfold zf3
     by_cases hAC : A = [] \/ C = []
     ·refine ⟨A ++ C, ?_, Stb.refl _, ?_⟩
      ·rcases hAC with rfl | rfl
       ·simpa using hS2.parts.1
       ·simpa using hS1.parts.1
      ·rw [if_neg (by
        rcases hAC with rfl | rfl
        ·simp
        ·simp at hcm ⊢; omega)]
       simp
     ·obtain ⟨hA0, hC0⟩ := not_or.1 hAC
      have a0 := List.length_pos_iff.2 hA0
      have c0 := List.length_pos_iff.2 hC0
      obtain ⟨R1, r1, r2, r3⟩ := ih P A C (B ++ E ++ Q) (fun z hz => hD1 z (by simp [hz])) (fun z hz => hD2 z (by simp [hz])) hS1.parts.1 hS2.parts.1 hA0 hC0 (by simp; omega) (by omega) (by omega)
      refine ⟨R1, r1, r2, ?_⟩
      rw [if_pos (by simp; omega)]
      have e1 : P ++ A ++ C ++ B ++ E ++ Q = P ++ A ++ C ++ (B ++ E ++ Q) := by simp
      have e2 : ((a + A.length : Nat) : Int) = (P.length : Int) + A.length := by simp; omega
      have e3 : (mid : Int) = (P.length : Int) + A.length + C.length := by omega
      rw [e1]
      conv => lhs; arg 1; rw [e3, e2, <- ea]
      rw [r3]
      simp
    obtain ⟨R1, r1, r2, e2⟩ := step2
    rw [e2]
    have hR1 : R1.length = A.length + C.length := by rw [r2.len]; simp
    have step3 : ∃ R2, Srt lt R2 /\ Stb lt (B ++ E) R2 /\ zjv φ (gsym φ d) (b : Int) y (mid : Int) ((m + C.length : Nat) : Int) (P ++ R1 ++ B ++ E ++ Q) = some (P ++ (R1 ++ R2) ++ Q) := by
     unfold zjv
     by_cases hBE : B = [] \/ E = []
     ·refine ⟨B ++ E, ?_, Stb.refl _, ?_⟩
      ·rcases hBE with rfl | rfl
       ·simpa using hS2.parts.2.1
       ·simpa using hS1.parts.2.1
      ·rw [if_neg (by
        rcases hBE with rfl | rfl
        ·simp at hm ⊢; omega
        ·simp at hb ⊢; omega)]
       simp
     ·obtain ⟨hB0, hE0⟩ := not_or.1 hBE
      have b0 := List.length_pos_iff.2 hB0
      have c0 := List.length_pos_iff.2 hE0
      obtain ⟨R2, p1, p2, p3⟩ := ih (P ++ R1) B E Q (fun z hz => hD1 z (by simp [hz])) (fun z hz => hD2 z (by simp [hz])) hS1.parts.2.1 hS2.parts.2.1 hB0 hE0 (by simp; omega) (by simp; omega) (by omega)
      refine ⟨R2, p1, p2, ?_⟩
      rw [if_pos (by simp; omega)]
      have e1 : (mid : Int) = ((P ++ R1).length : Nat) := by simp; omega
      have e3 : ((m + C.length : Nat) : Int) = ((P ++ R1).length : Nat) + (B.length : Int) := by simp; omega
      have e4 : (b : Int) = ((P ++ R1).length : Nat) + (B.length : Int) + E.length := by simp; omega
      conv => lhs; arg 1; rw [e4, e3, e1]
      rw [p3]
      simp
    obtain ⟨R2, p1, p2, e3⟩ := step3
    rw [e3]
    have hm' := zi8 hs hS1 hS2 hA hB r1 r2 p1 p2
    exact ⟨R1 ++ R2, hm'.1, hm'.2, rfl⟩
theorem zyo (hs : Swo lt) (hy : Cmp D y lt) (φ N : Nat) (hN : N <= 900000) (hφ : N < φ) :
  ∀ (n : Nat) (X Y : List α), (∀ z ∈ Y, D z) -> X.length + Y.length = N -> Y.length < n ->
  ∃ Y1 Y2 Y1', Y = Y1 ++ Y2 /\ Runs lt 20 (Y1' ++ []) /\ Y2.length < 20 /\ Stb lt Y1 Y1' /\ (∀ T, Runs lt 20 T -> Runs lt 20 (Y1' ++ T)) /\
   zgb φ n (N : Int) y 20 (X.length : Int) ((X.length : Int) + 20) (X ++ Y) = ((gins φ (X ++ Y1' ++ Y2) ((X.length : Int) + Y1.length) (N : Int) y).bind fun y12 => zaf φ φ (N : Int) y 20 y12) := by
 intro n
 induction n with
 | zero => intro X Y _ _ h; omega
 | succ n ih =>
  intro X Y hD hl hn
  rw [zgb]
  by_cases h : Y.length < 20
  ·refine ⟨[], Y, [], rfl, .last (by simp) List.Pairwise.nil, h, Stb.refl _, fun T hT => hT, ?_⟩
   rw [if_neg (by simp; omega)]
   simp
  ·obtain ⟨B, Z, rfl, hB⟩ : ∃ B Z, Y = B ++ Z /\ B.length = 20 := ⟨Y.take 20, Y.drop 20, (List.take_append_drop _ _).symm, by simp; omega⟩
   simp only [List.length_append] at hl hn h
   rw [if_pos (by simp; omega)]
   obtain ⟨B', b1, b2, b3⟩ := zzo hs hy φ X B Z (fun z hz => hD z (by simp [hz])) (by omega) (by omega)
   rw [hB] at b3
   have e1 : X ++ (B ++ Z) = X ++ B ++ Z := by simp
   have e2 : ((20 : Nat) : Int) = 20 := rfl
   rw [e2] at b3
   rw [e1, b3]
   simp only [Option.bind_some]
   have hB' : B'.length = 20 := by rw [b2.len, hB]
   have w1 : W ((X.length : Int) + 20 + 20) = (X.length : Int) + 20 + 20 := W_id (by omega) (by omega)
   have e3 : (X.length : Int) + 20 = ((X ++ B').length : Nat) := by simp [hB']
   rw [w1]
   obtain ⟨Y1, Y2, Y1', q1, q2, q3, q4, q5, q6⟩ := ih (X ++ B') Z (fun z hz => hD z (by simp [hz])) (by simp; omega) (by omega)
   rw [<- e3] at q6
   refine ⟨B ++ Y1, Y2, B' ++ Y1', by rw [q1]; simp, ?_, q3, b2.app q4, fun T hT => ?_, ?_⟩
   ·rw [List.append_assoc]; exact .cons hB' b1 q2
   ·rw [List.append_assoc]; exact .cons hB' b1 (q5 T hT)
   ·rw [q6]
    have e4 : (X.length : Int) + 20 + Y1.length = (X.length : Int) + ((B ++ Y1).length : Nat) := by simp; omega
    rw [e4]
    simp
theorem yfv (hs : Swo lt) (hy : Cmp D y lt) (φ N bs : Nat) (k : Int -> (α -> α -> Option Int) -> Int -> List α -> Option (List α)) (hN : N <= 900000) (hφ : 2 * N + 3 < φ) (hb0 : 0 < bs) (hb : bs <= 900000) :
  ∀ (n : Nat) (X Y : List α), (∀ z ∈ Y, D z) -> Runs lt bs Y -> X.length + Y.length = N -> Y.length < n ->
  ∃ Y', Runs lt (bs * 2) Y' /\ Stb lt Y Y' /\ zjw φ k n (N : Int) y (bs : Int) (X.length : Int) ((X.length : Int) + 2 * bs) (X ++ Y) = k (N : Int) y ((bs * 2 : Nat) : Int) (X ++ Y') := by
 intro n
 induction n with
 | zero => intro X Y _ _ _ h; omega
 | succ n ih =>
  intro X Y hD hR hl hn
  have w1 : W ((X.length : Int) + bs) = (X.length : Int) + bs := W_id (by omega) (by omega)
  have w2 : W ((bs : Int) * 2) = ((bs * 2 : Nat) : Int) := by rw [W_id (by omega) (by omega)]; simp
  have w3 : W (2 * (bs : Int)) = 2 * (bs : Int) := W_id (by omega) (by omega)
  have w4 : W ((X.length : Int) + 2 * bs + 2 * bs) = (X.length : Int) + 2 * bs + 2 * bs := W_id (by omega) (by omega)
  rw [zjw, w1, w3, w4]
  by_cases h : 2 * bs <= Y.length
  ·rw [if_pos (by simp; omega)]
   obtain ⟨B1, r, rfl, h1, s1, hr, hne⟩ := hR.big (by omega)
   simp only [List.length_append] at hl hn h
   obtain ⟨B2, Z, rfl, h2, s2, hZ⟩ : ∃ B2 Z, r = B2 ++ Z /\ B2.length = bs /\ Srt lt B2 /\ Runs lt bs Z := by
    by_cases q : r.length = bs
    ·exact ⟨r, [], by simp, q, hr.small (by omega), .last (by simp) List.Pairwise.nil⟩
    ·obtain ⟨b, r', e, q1, q2, q3, _⟩ := hr.big (by omega)
     exact ⟨b, r', e, q1, q2, q3⟩
   simp only [List.length_append] at hl hn h
   obtain ⟨R, r1, r2, r3⟩ := ztg hs hy φ φ X B1 B2 Z (fun z hz => hD z (by simp [hz])) (fun z hz => hD z (by simp [hz])) s1 s2 (by intro e; subst e; simp at h1; omega) (by intro e; subst e; simp at h2; omega) (by omega) (by omega) (by omega)
   have hRl : R.length = 2 * bs := by rw [r2.len]; simp; omega
   have e1 : X ++ (B1 ++ (B2 ++ Z)) = X ++ B1 ++ B2 ++ Z := by simp
   have e2 : (X.length : Int) + bs = (X.length : Int) + B1.length := by omega
   have e3 : (X.length : Int) + 2 * bs = (X.length : Int) + B1.length + B2.length := by omega
   have e4 : (X.length : Int) + 2 * bs = ((X ++ R).length : Nat) := by simp; omega
   obtain ⟨Y', p1, p2, p3⟩ := ih (X ++ R) Z (fun z hz => hD z (by simp [hz])) hZ (by simp; omega) (by omega)
   refine ⟨R ++ Y', .cons (by omega) r1 p1, ?_, ?_⟩
   ·have := r2.app p2
    simpa using this
   ·rw [e1]
    conv => lhs; arg 1; rw [e2, e3]
    rw [r3]
    simp only [Option.bind_some]
    rw [e4, p3]
    simp
  ·rw [if_neg (by simp; omega)]
   rw [w2]
   by_cases q : bs < Y.length
   ·rw [if_pos (by simp; omega)]
    obtain ⟨B1, B2, rfl, h1, s1, hr, hne⟩ := hR.big q
    simp only [List.length_append] at hl hn h
    obtain ⟨R, r1, r2, r3⟩ := ztg hs hy φ φ X B1 B2 [] (fun z hz => hD z (by simp [hz])) (fun z hz => hD z (by simp [hz])) s1 (hr.small (by omega)) (by intro e; subst e; simp at h1; omega) hne (by simp; omega) (by omega) (by omega)
    have e1 : X ++ (B1 ++ B2) = X ++ B1 ++ B2 ++ [] := by simp
    have e2 : (X.length : Int) + bs = (X.length : Int) + B1.length := by omega
    have e3 : (N : Int) = (X.length : Int) + B1.length + B2.length := by omega
    refine ⟨R, .last (by rw [r2.len]; simp; omega) r1, r2, ?_⟩
    rw [e1, e2, e3, r3]
    simp
   ·rw [if_neg (by simp; omega)]
    exact ⟨Y, .last (by omega) (hR.small (by omega)), Stb.refl _, rfl⟩
theorem yam (hs : Swo lt) (hy : Cmp D y lt) (φ N : Nat) (hN : N <= 400000) (hφ : 2 * N + 3 < φ) :
  ∀ (n bs : Nat) (Y : List α), (∀ z ∈ Y, D z) -> Runs lt bs Y -> Y.length = N -> 0 < bs -> bs <= 900000 -> N - bs < n ->
  ∃ Y', Srt lt Y' /\ Stb lt Y Y' /\ zaf φ n (N : Int) y (bs : Int) Y = some Y' := by
 intro n
 induction n with
 | zero => intro bs Y _ _ _ _ _ h; omega
 | succ n ih =>
  intro bs Y hD hR hl hb0 hb hn
  rw [zaf]
  by_cases h : bs < N
  ·rw [if_pos (by simp; omega), W_id (x := 2 * (bs : Int)) (by omega) (by omega)]
   obtain ⟨Y', p1, p2, p3⟩ := yfv hs hy φ N bs (zaf φ n) (by omega) hφ hb0 hb φ [] Y hD hR (by simpa using hl) (by omega)
   obtain ⟨Y'', q1, q2, q3⟩ := ih (bs * 2) Y' (fun z hz => hD z (p2.mem.1 hz)) p1 (by rw [p2.len, hl]) (by omega) (by omega) (by omega)
   refine ⟨Y'', q1, p2.trans q2, ?_⟩
   rw [<- q3]
   simpa using p3
  ·rw [if_neg (by simp; omega)]
   exact ⟨Y, hR.small (by omega), Stb.refl _, rfl⟩
theorem zr8 (hs : Swo lt) (hy : Cmp D y lt) (φ : Nat) (v : List α) (hD : ∀ z ∈ v, D z) (hN : v.length <= 400000) (hφ : 2 * v.length + 3 < φ) :
  ∃ r, Srt lt r /\ Stb lt v r /\ zz9 φ v y = some r := by
 unfold zz9 ye2
 obtain ⟨Y1, Y2, Y1', q1, q2, q3, q4, q5, q6⟩ := zyo hs hy φ v.length (by omega) (by omega) φ [] v hD (by simp) (by omega)
 have q6' : zgb φ φ (v.length : Int) y 20 0 20 v = ((gins φ (Y1' ++ Y2) (Y1.length : Int) (v.length : Int) y).bind fun y12 => zaf φ φ (v.length : Int) y 20 y12) := by simpa using q6
 rw [q6']
 have hl : v.length = Y1.length + Y2.length := by rw [q1]; simp
 have hl1 : Y1'.length = Y1.length := q4.len
 obtain ⟨Y2', p1, p2, p3⟩ := zzo hs hy φ Y1' Y2 [] (fun z hz => hD z (by rw [q1]; simp [hz])) (by simp; omega) (by omega)
 simp only [List.append_nil] at p3
 have e1 : (Y1.length : Int) = Y1'.length := by omega
 have e2 : (v.length : Int) = (Y1'.length : Int) + Y2.length := by omega
 have p3' : gins φ (Y1' ++ Y2) (Y1.length : Int) (v.length : Int) y = some (Y1' ++ Y2') := by rw [e1, e2]; exact p3
 have hst : Stb lt v (Y1' ++ Y2') := by rw [q1]; exact q4.app p2
 obtain ⟨r, r1, r2, r3⟩ := yam hs hy φ v.length hN hφ φ 20 (Y1' ++ Y2') (fun z hz => hD z (hst.mem.1 hz)) (q5 _ (.last (by rw [p2.len]; omega) p1)) hst.len (by omega) (by omega) (by omega)
 refine ⟨r, r1, hst.trans r2, ?_⟩
 rw [p3']
 simp only [Option.bind_some]
 have r3' : zaf φ φ (v.length : Int) y 20 (Y1' ++ Y2') = some r := r3
 rw [r3']
 rfl
end
end Px
end
section
namespace Px
open Go
set_option linter.unusedVariables false
set_option linter.unusedSimpArgs false
set_option maxRecDepth 100000
theorem znh {n b : Nat} (h : n <= 100000) (hb : b <= 1000) : fits n b := by
 unfold fits
 exact Nat.le_trans (Nat.mul_le_mul h hb) (by omega)
theorem y7r (φ : Nat) (v : List z1) (y : z1 -> z1 -> Option Int) : z58 φ v y = zz9 φ v y := by kernel_rfl
def yc7 (a b : Ref) : Bool := decide (a.railway < b.railway) || (decide (a.railway = b.railway) && decide (a.no < b.no))
theorem y1l {a b : Ref} : yc7 a b = true ↔ a.railway < b.railway \/ (a.railway = b.railway /\ a.no < b.no) := by simp [yc7]
theorem yd6 {α : Type} {lt : α -> α -> Bool} (h : Swo lt) : Sort.SWO lt where
 irrefl := fun a => h.irr a
 trans := fun a b c h1 h2 => by
  cases h3 : lt a c with
  | true => rfl
  | false =>
   have h4 := h.asym _ _ h2
   rw [h.ntr a c b h3 h4] at h1; cases h1
 ntrans := fun a b c h1 h2 => h.ntr a b c h1 h2
theorem y8d (φ : Nat) (h : 3 <= φ) (a b : z1) : z6i φ a b = some (or2 (cmpI a.ref.railway b.ref.railway) (cmpI a.ref.no b.ref.no), ()) := by
 unfold z6i
 simp only [zc4, Option.bind_some]
 rw [zzw φ h]; rfl
section
variable {α : Type} {lt : α -> α -> Bool}
theorem yco (hs : Swo lt) {a x y : α} (h1 : eqv2 lt a x = true) (h2 : eqv2 lt a y = true) : lt y x = false := by
 simp only [eqv2, Bool.and_eq_true, Bool.not_eq_true'] at h1 h2
 exact hs.ntr y a x h2.2 h1.1
theorem zx6 (hs : Swo lt) (a x : α) : ∀ r : List α, (insL lt x r).filter (eqv2 lt a) = (x :: r).filter (eqv2 lt a)
 | [] => rfl
 | y :: r => by
  simp only [insL]
  cases h : lt y x with
  | false => rfl
  | true =>
   simp only [cond_true]
   rw [List.filter_cons, zx6 hs a x r]
   cases h1 : eqv2 lt a x <;> cases h2 : eqv2 lt a y <;> simp [List.filter_cons, h1, h2]
   rw [yco hs h1 h2] at h; cases h
theorem ztl (hs : Swo lt) : ∀ l : List α, Stb lt l (z9r lt l)
 | [] => Stb.refl _
 | x :: l => by
  refine ⟨z5o _ _, fun a => ?_⟩
  show (insL lt x (z9r lt l)).filter _ = _
  rw [zx6 hs, List.filter_cons, List.filter_cons, (ztl hs l).2 a]
theorem zzx (hs : Swo lt) (l : List α) : Srt lt (z9r lt l) := zal (yd6 hs) l
theorem zoe (hs : Swo lt) {l r : List α} (h1 : Srt lt r) (h2 : Stb lt l r) : r = z9r lt l := by
 refine Srt.unique hs h1 (zzx hs l) ⟨(z5o _ _).trans h2.1.symm, fun a => ?_⟩
 rw [(ztl hs l).2 a, h2.2 a]
end
end Px
end
section
namespace Px
open Go
set_option linter.unusedVariables false
set_option linter.unusedSimpArgs false
theorem zzr {a b : Int} (h : kl_0 a = kl_0 b) : a = b := by
 have h : [a] = [b] := h
 cases h; rfl
theorem y0g {a b : z6} (h : kl_9 a = kl_9 b) : a = b := by
 obtain ⟨a1, a2⟩ := a
 obtain ⟨b1, b2⟩ := b
 have h : [a1, a2] = [b1, b2] := h
 cases h; rfl
instance : DecidableEq z6 := fun a b => decidable_of_iff (a.kind = b.kind /\ a.serial = b.serial) ⟨fun h => by cases a; cases b; cases h.1; cases h.2; rfl, fun h => by rw [h]; exact ⟨rfl, rfl⟩⟩
def OkS (s : List (Int × Bool)) : Prop := Srt' kl_0 s /\ ∀ q ∈ s, q.2 = true
theorem OkS.nil : OkS [] := ⟨List.Pairwise.nil, fun q hq => by cases hq⟩
theorem OkS.set {s : List (Int × Bool)} (h : OkS s) (w : Int) : OkS (cset kl_0 s w true) :=
 ⟨h.1.set w true, fun q hq => by
  rcases (z35 h.1).1 hq with rfl | ⟨hq, _⟩
  ·rfl
  ·exact h.2 q hq⟩
theorem OkS.get {s : List (Int × Bool)} (h : OkS s) (w : Int) : (cget kl_0 s w).getD (default : Bool) = (s.map (·.1)).contains w := by
 cases hc : cget kl_0 s w with
 | none =>
  have hn := zj4.1 hc
  have : (s.map (·.1)).contains w = false := by
   rw [List.contains_eq_mem, decide_eq_false_iff_not]
   intro hm
   obtain ⟨p, hp, e⟩ := List.mem_map.1 hm
   exact hn p hp (by rw [e])
  rw [this]; rfl
 | some b =>
  obtain ⟨a, hm, e⟩ := zdx hc
  have hb : b = true := h.2 _ hm
  have : (s.map (·.1)).contains w = true := by
   rw [List.contains_eq_mem, decide_eq_true_eq]
   exact List.mem_map.2 ⟨_, hm, (zzr e).symm⟩
  rw [this, hb]; rfl
end Px
end
section
namespace Px
open Go
set_option linter.unusedVariables false
set_option linter.unusedSimpArgs false
def prt (c : z6) : Part := ⟨c.kind, c.serial, true⟩
end Px
end
section
namespace Px
open Go
set_option linter.unusedVariables false
set_option linter.unusedSimpArgs false
set_option maxRecDepth 100000
theorem ye9 : zhk 100000000 = some (true, ()) := by kernel_rfl
theorem y7g (φ : Nat) (hφ : 1000 < φ) (l : List z1) : ∃ b, zju φ l = some (b, ()) /\ (b = true -> l.length <= 30 /\ ∀ r ∈ l, r.item.parts.length <= 20) := by
 unfold zju
 by_cases h : l.length <= 30
 ·rw [if_neg (by simp; omega)]
  refine ⟨l.all (fun r => decide (r.item.parts.length <= 20)), ?_, fun hb => ⟨h, fun r hr => by simpa using List.all_eq_true.1 hb r hr⟩⟩
  refine z6y (fun n i (s : Unit) => z88 φ n l i) l.length (fun i _ => (l.take i).all (fun r => decide (r.item.parts.length <= 20)) = true) (fun o => o = some (l.all (fun r => decide (r.item.parts.length <= 20)), ())) ?_ ?_ φ () rfl (by omega)
  ·intro n i s hi hs hk
   rw [z88, if_pos (by simp; omega), z8 ⟨by omega, by omega⟩, W_id (x := (i : Int) + 1) (by omega) (by omega)]
   by_cases hp : (gt l (i : Int)).item.parts.length <= 20
   ·rw [if_neg (by simp; omega)]
    exact hk () (by rw [ziu _ _ _ hi, hs]; simp [hp])
   ·rw [if_pos (by simp; omega)]
    have : l.all (fun r => decide (r.item.parts.length <= 20)) = false := by
     rw [List.all_eq_false]
     exact ⟨_, zbn (l := l) (i := (i : Int)) (by omega) (by omega), by simpa using hp⟩
    rw [this]
  ·intro n s hs
   rw [List.take_length] at hs
   rw [z88, if_neg (by simp), hs]
 ·rw [if_pos (by simp; omega)]
  exact ⟨_, rfl, fun h => by cases h⟩
end Px
end
section
namespace Px
open Go
set_option linter.unusedVariables false
set_option linter.unusedSimpArgs false
theorem z4t (φ : Nat) (a b c : Int) : zk φ a b c = some (bet a b c, ()) := rfl
def zos (t : z1x) : Bool :=
 bet t.load 0 1000000 && bet t.tare 0 1000000 && bet t.length 0 1000000 && bet t.brake 0 1000000 && bet t.gauge 0 7 && bet t.life 1 1073741824 && bet t.floor 0 100
def zig (n : Int) (w : zi6) : Bool :=
 bet w.type_ 0 (n - 1) && bet w.owner 0 63 && bet w.home 0 511 && bet w.built 0 1073741824 && bet w.worth 0 1099511627776
def zpx (n : Int) (s : Swap) : Bool := bet s.wanted 0 (n - 1) && bet s.given 0 (n - 1) && (s.wanted != s.given) && bet s.cost 0 1000000000
def y2p (w : Wash) : Bool := bet w.from_ 0 63 && bet w.to 0 63 && (w.from_ != w.to) && bet w.minutes 0 100000
def keyW (w : Wash) : Int := 64 * w.from_ + w.to
def z94 (l : List Wash) (i : Nat) : Bool := y2p (gt l (i : Int)) && !(l.take i).any fun v => keyW v == keyW (gt l (i : Int))
def zdm (l : List Wash) : Bool := (List.range l.length).all (z94 l)
def z9b (x : zek) : Int :=
 bif decide (32 < x.types.length) || decide (4096 < x.wagons.length) || decide (1024 < x.swaps.length) || decide (4096 < x.washes.length) then 2 else
 bif x.types.all zos && x.wagons.all (zig x.types.length) && x.swaps.all (zpx x.types.length) && zdm x.washes then 0 else 1
theorem zhw (p : Nat -> Bool) (i : Nat) : (List.range (i + 1)).all p = ((List.range i).all p && p i) := by
 rw [List.range_succ, List.all_append]; simp
theorem zkk (φ : Nat) (x : zek) (hl : x.swaps.length <= 1024) (ht : x.types.length <= 32) :
  ∀ n s, x.swaps.length < n -> z0k φ n x.swaps (x.swaps.length : Int) 0 x s = zm φ φ x.washes (x.washes.length : Int) 0 (bif x.swaps.all (zpx (x.types.length : Int)) then s else 1) (fun _ => default) := by
 have hp : W ((x.types.length : Int) - 1) = (x.types.length : Int) - 1 := W_id (by omega) (by omega)
 refine zn6 (fun n i s => z0k φ n x.swaps (x.swaps.length : Int) i x s) (fun s => zm φ φ x.washes (x.washes.length : Int) 0 s (fun _ => default)) _ _ ?_ ?_
 ·intro n i s hi
  have hW : W ((i : Int) + 1) = (i : Int) + 1 := W_id (by omega) (by omega)
  rw [z0k, if_pos (by simp; omega), z8 ⟨by omega, by omega⟩]
  simp only [z4t, Option.bind_some, zpx, zx, hW, hp]
  cases bet (gt x.swaps i).wanted 0 ((x.types.length : Int) - 1) <;> cases bet (gt x.swaps i).given 0 ((x.types.length : Int) - 1) <;> cases ((gt x.swaps i).wanted != (gt x.swaps i).given) <;>
   cases bet (gt x.swaps i).cost 0 1000000000 <;> rfl
 ·intro n s
  rw [z0k, if_neg (by simp)]
theorem zjb (φ : Nat) (x : zek) (hl : x.wagons.length <= 4096) (ht : x.types.length <= 32) :
  ∀ n s, x.wagons.length < n -> z02 φ n x.wagons (x.wagons.length : Int) 0 x s = z0k φ φ x.swaps (x.swaps.length : Int) 0 x (bif x.wagons.all (zig (x.types.length : Int)) then s else 1) := by
 have hp : W ((x.types.length : Int) - 1) = (x.types.length : Int) - 1 := W_id (by omega) (by omega)
 refine zn6 (fun n i s => z02 φ n x.wagons (x.wagons.length : Int) i x s) (fun s => z0k φ φ x.swaps (x.swaps.length : Int) 0 x s) _ _ ?_ ?_
 ·intro n i s hi
  have hW : W ((i : Int) + 1) = (i : Int) + 1 := W_id (by omega) (by omega)
  rw [z02, if_pos (by simp; omega), z8 ⟨by omega, by omega⟩]
  simp only [z4t, Option.bind_some, zig, zx, hW, hp]
  cases bet (gt x.wagons i).type_ 0 ((x.types.length : Int) - 1) <;> cases bet (gt x.wagons i).owner 0 63 <;> cases bet (gt x.wagons i).home 0 511 <;>
   cases bet (gt x.wagons i).built 0 1073741824 <;> cases bet (gt x.wagons i).worth 0 1099511627776 <;> rfl
 ·intro n s
  rw [z02, if_neg (by simp)]
theorem zm3 (φ : Nat) (k : List z1x -> Int -> Int -> zek -> Int -> Option (Int × Unit)) (ts : List z1x) (len i : Int) (x : zek) (t : z1x) (n : Nat) (s : Int) (hn : 4 < n) :
  z2r φ k n ts len i 4 0 x s t [t.load, t.tare, t.length, t.brake] = k ts len (W (i + 1)) x (bif zos t then s else 1) := by
 have h := zn6 (fun n j s => z2r φ k n ts len i 4 j x s t [t.load, t.tare, t.length, t.brake]) (fun s => k ts len (W (i + 1)) x (bif (bet t.gauge 0 7 && bet t.life 1 1073741824 && bet t.floor 0 100) then s else 1))
  [t.load, t.tare, t.length, t.brake] (fun a => bet a 0 1000000) (fun n j s hi => by
   rw [z2r, if_pos (by simp at hi ⊢; omega), z8 ⟨by omega, by omega⟩]
   simp at hi
   have hW : W ((j : Int) + 1) = (j : Int) + 1 := W_id (by omega) (by omega)
   simp only [z4t, Option.bind_some, hW]
   cases bet (gt [t.load, t.tare, t.length, t.brake] (j : Int)) 0 1000000 <;> rfl) (fun n s => by
   rw [z2r, if_neg (by simp)]
   simp only [z4t, Option.bind_some, zx]
   cases bet t.gauge 0 7 <;> cases bet t.life 1 1073741824 <;> cases bet t.floor 0 100 <;> rfl) n s hn
 rw [h]
 simp only [zos, List.all_cons, List.all_nil]
 cases bet t.load 0 1000000 <;> cases bet t.tare 0 1000000 <;> cases bet t.length 0 1000000 <;> cases bet t.brake 0 1000000 <;>
   cases bet t.gauge 0 7 <;> cases bet t.life 1 1073741824 <;> cases bet t.floor 0 100 <;> rfl
theorem zlj (φ : Nat) (hφ : 4 < φ) (x : zek) (hl : x.types.length <= 32) :
  ∀ n s, x.types.length < n -> z5d φ n x.types (x.types.length : Int) 0 x s = z02 φ φ x.wagons (x.wagons.length : Int) 0 x (bif x.types.all zos then s else 1) := by
 refine zn6 (fun n i s => z5d φ n x.types (x.types.length : Int) i x s) (fun s => z02 φ φ x.wagons (x.wagons.length : Int) 0 x s) _ _ ?_ ?_
 ·intro n i s hi
  rw [z5d, if_pos (by simp; omega), z8 ⟨by omega, by omega⟩]
  have hW : W ((i : Int) + 1) = (i : Int) + 1 := W_id (by omega) (by omega)
  refine (zm3 φ _ x.types (x.types.length : Int) (i : Int) x (gt x.types i) φ s hφ).trans ?_
  rw [hW]
 ·intro n s
  rw [z5d, if_neg (by simp)]
theorem zjh (φ : Nat) (x : zek) (hl : x.washes.length <= 4096) (n : Nat) (s : Int) (hn : x.washes.length < n) :
  zm φ n x.washes (x.washes.length : Int) 0 s (fun _ => default) = some (bif zdm x.washes then s else 1, ()) := by
 refine z6y (fun n i (t : Int × (Nat -> Bool)) => zm φ n x.washes (x.washes.length : Int) i t.1 t.2) x.washes.length
  (fun i t => t.1 = (bif (List.range i).all (z94 x.washes) then s else 1) /\ ((List.range i).all (z94 x.washes) = true -> ∀ j : Nat, t.2 j = (x.washes.take i).any fun v => keyW v == (j : Int)))
  (fun o => o = some (bif zdm x.washes then s else 1, ())) ?_ ?_ n (s, fun _ => false) ⟨by simp, by simp⟩ hn
 ·intro n i t hi ⟨h1, h2⟩ hs
  have hW : W ((i : Int) + 1) = (i : Int) + 1 := W_id (by omega) (by omega)
  rw [zm, if_pos (by simp; omega), z8 ⟨by omega, by omega⟩]
  simp only [z4t, Option.bind_some, zx, hW]
  have hok : y2p (gt x.washes i) = (bet (gt x.washes i).from_ 0 63 && bet (gt x.washes i).to 0 63 && ((gt x.washes i).from_ != (gt x.washes i).to) && bet (gt x.washes i).minutes 0 100000) := rfl
  have hsucc := zhw (z94 x.washes) i
  cases hw : y2p (gt x.washes i) with
  | false =>
   have hf : (List.range (i + 1)).all (z94 x.washes) = false := by rw [hsucc]; simp [z94, hw]
   have h3 : zm φ n x.washes (x.washes.length : Int) ((i : Int) + 1) 1 t.2 = some (bif zdm x.washes then s else 1, ()) := hs (1, t.2) ⟨by rw [hf]; rfl, by rw [hf]; intro h; cases h⟩
   rw [hw] at hok
   rw [<- h3]
   generalize bet (gt x.washes i).from_ 0 63 = a at *; generalize bet (gt x.washes i).to 0 63 = b at *; generalize ((gt x.washes i).from_ != (gt x.washes i).to) = c at *; generalize bet (gt x.washes i).minutes 0 100000 = d at *
   cases a <;> cases b <;> cases c <;> cases d <;> first | (exact absurd hok (by decide)) | rfl
  | true =>
   rw [hw] at hok
   have hb := hok.symm
   simp only [Bool.and_eq_true] at hb
   obtain ⟨⟨⟨b1, b2⟩, b3⟩, b4⟩ := hb
   have c1 := y3u b1; have c2 := y3u b2
   simp only [b1, b2, b3, b4, Bool.and_self, if_true, Option.bind_some, Bool.not_true, Bool.false_eq_true, if_false]
   rw [z8 ⟨by omega, by omega⟩, z8 ⟨by omega, by omega⟩]
   have hkey : ((gt x.washes i).from_.toNat * 64 + (gt x.washes i).to.toNat : Nat) = (keyW (gt x.washes i)).toNat := by unfold keyW; omega
   have hk0 : ((keyW (gt x.washes i)).toNat : Int) = keyW (gt x.washes i) := by unfold keyW; omega
   have key : ∀ e, (e = bif (List.range (i + 1)).all (z94 x.washes) then s else 1) ->
     zm φ n x.washes (x.washes.length : Int) ((i : Int) + 1) e (upd t.2 (keyW (gt x.washes i)).toNat true) = some (bif zdm x.washes then s else 1, ()) := by
    intro e he
    refine hs (e, _) ⟨he, fun hall j => ?_⟩
    rw [hsucc, Bool.and_eq_true] at hall
    rw [zji _ _ _ hi, <- h2 hall.1 j]
    show (if j = (keyW (gt x.washes i)).toNat then true else t.2 j) = _
    by_cases hj : j = (keyW (gt x.washes i)).toNat
    ·simp [hj, hk0]
    ·have : (keyW (gt x.washes i) == (j : Int)) = false := by
      simp; intro h; exact hj (by omega)
     simp [hj, this]
   have e64 : ∀ (p : Prop) [Decidable p] (y : Option (Int × Unit)), p -> ck p y = y := fun p _ y hp => z8 hp
   rw [hkey]
   simp only [e64 _ _ (show (0 : Int) <= (gt x.washes i).from_ /\ (gt x.washes i).from_ < 64 by omega), e64 _ _ (show (0 : Int) <= (gt x.washes i).to /\ (gt x.washes i).to < 64 by omega)]
   cases hall : (List.range i).all (z94 x.washes) with
   | true =>
    have hat : z94 x.washes i = !(t.2 (keyW (gt x.washes i)).toNat) := by
     rw [h2 hall]; simp only [z94, hw, Bool.true_and, hk0]
    cases ht2 : t.2 (keyW (gt x.washes i)).toNat with
    | true =>
     simp only [Bool.not_true, Bool.not_false, if_true]
     refine key 1 ?_
     rw [hsucc, hat, ht2]; simp
    | false =>
     simp only [Bool.not_true, Bool.not_false, Bool.false_eq_true, if_false]
     refine key t.1 ?_
     rw [hsucc, hat, ht2, h1, hall]; simp
   | false =>
    have hf : (List.range (i + 1)).all (z94 x.washes) = false := by rw [hsucc, hall]; rfl
    have ht1 : t.1 = 1 := by rw [h1, hall]; rfl
    rw [ht1]
    split <;> exact key 1 (by rw [hf]; rfl)
 ·intro n t ⟨h1, _⟩
  rw [zm, if_neg (by simp), h1]; rfl
theorem zpm (φ : Nat) (hφ : 5000 < φ) (x : zek) : zeu φ x = some (z9b x, ()) := by
 have e : (((decide (32 < (x.types.length : Int)) || decide (4096 < (x.wagons.length : Int))) || decide (1024 < (x.swaps.length : Int))) || decide (4096 < (x.washes.length : Int))) =
   (decide (32 < x.types.length) || decide (4096 < x.wagons.length) || decide (1024 < x.swaps.length) || decide (4096 < x.washes.length)) := by
  congr 1
  ·congr 1
   ·congr 1 <;> (apply decide_eq_decide.2; omega)
   ·apply decide_eq_decide.2; omega
  ·apply decide_eq_decide.2; omega
 unfold zeu z9b
 rw [e]
 cases h : (decide (32 < x.types.length) || decide (4096 < x.wagons.length) || decide (1024 < x.swaps.length) || decide (4096 < x.washes.length)) with
 | true => rfl
 | false =>
  simp only [Bool.or_eq_false_iff, decide_eq_false_iff_not, Nat.not_lt] at h
  obtain ⟨⟨⟨h1, h2⟩, h3⟩, h4⟩ := h
  rw [if_neg (by simp), zlj φ (by omega) x h1 _ _ (by omega), zjb _ _ h2 h1 _ _ (by omega), zkk _ _ h3 h1 _ _ (by omega), zjh _ _ h4 _ _ (by omega)]
  cases x.types.all zos <;> cases x.wagons.all (zig x.types.length) <;> cases x.swaps.all (zpx x.types.length) <;> cases zdm x.washes <;> rfl
theorem zic {x : zek} (h : z9b x = 0) : x.types.length <= 32 /\ x.wagons.length <= 4096 /\ x.swaps.length <= 1024 /\ x.washes.length <= 4096 /\
  (∀ t ∈ x.types, zos t = true) /\ (∀ t ∈ x.wagons, zig x.types.length t = true) /\ (∀ t ∈ x.swaps, zpx x.types.length t = true) /\ zdm x.washes = true := by
 unfold z9b at h
 cases h1 : (decide (32 < x.types.length) || decide (4096 < x.wagons.length) || decide (1024 < x.swaps.length) || decide (4096 < x.washes.length)) with
 | true => rw [h1] at h; cases h
 | false =>
  rw [h1] at h
  simp only [Bool.or_eq_false_iff, decide_eq_false_iff_not, Nat.not_lt] at h1
  obtain ⟨⟨⟨a1, a2⟩, a3⟩, a4⟩ := h1
  cases h2 : (x.types.all zos && x.wagons.all (zig x.types.length) && x.swaps.all (zpx x.types.length) && zdm x.washes) with
  | false => rw [h2] at h; cases h
  | true =>
   simp only [Bool.and_eq_true, List.all_eq_true] at h2
   exact ⟨a1, a2, a3, a4, h2.1.1.1, h2.1.1.2, h2.1.2, h2.2⟩
end Px
end
section
namespace Px
open Go
set_option linter.unusedVariables false
set_option linter.unusedSimpArgs false
theorem z9y {c : Int} (h : 0 <= c) (h' : c < 18446744073709551616) : (BitVec.ofInt 64 c).toNat = c.toNat := by
 rw [BitVec.toNat_ofInt]; omega
theorem ycv {n : Nat} (h : n < 18446744073709551616) : U (n : Int) = n := U_id (by omega) (by omega)
theorem y9z {a b : Nat} (h : a < 18446744073709551616) : a &&& b < 18446744073709551616 := Nat.lt_of_le_of_lt Nat.and_le_left h
theorem y5j {k : Nat} (h : k <= 63) : (2 ^ k : Nat) < 18446744073709551616 := Nat.lt_of_lt_of_le (Nat.pow_lt_pow_right (by decide) (by omega : k < 64)) (by decide)
theorem ydd {c k : Int} (h : 0 <= c) (hk : 0 <= k) (hk' : k <= 63) : c.fdiv (2 ^ (min (k : Int).toNat (IntKind.bits .u64))) = ((c.toNat / 2 ^ k.toNat : Nat) : Int) := by
 have e : min (k : Int).toNat (IntKind.bits .u64) = k.toNat := by simp [IntKind.bits]; omega
 rw [e]
 have e2 : ((2 : Int) ^ k.toNat) = ((2 ^ k.toNat : Nat) : Int) := by simp
 rw [e2, Int.fdiv_eq_ediv_of_nonneg _ (Int.natCast_nonneg _)]
 have : c = (c.toNat : Int) := by omega
 rw [this]; simp
end Px
end
section
namespace Px
open Go
set_option linter.unusedVariables false
set_option linter.unusedSimpArgs false
set_option maxRecDepth 100000
theorem zyz : ((List.range 256).all fun i => decide (0 <= zcb zo i /\ zcb zo i <= 8 /\ i < 2 ^ (zcb zo i).toNat /\ (0 < i -> 0 < zcb zo i /\ 2 ^ ((zcb zo i).toNat - 1) <= i))) = true := by decide +kernel
theorem zp4 {i : Int} (h : 0 <= i) (h' : i < 256) : ∃ n : Nat, zcb zo i = n /\ n <= 8 /\ i.toNat < 2 ^ n /\ (0 < i -> 0 < n /\ 2 ^ (n - 1) <= i.toNat) := by
 have := List.all_eq_true.1 zyz i.toNat (by simp; omega)
 rw [decide_eq_true_eq, show ((i.toNat : Nat) : Int) = i by omega] at this
 obtain ⟨a, b, c, d⟩ := this
 exact ⟨(zcb zo i).toNat, by omega, by omega, c, fun hi => ⟨by have := (d (by omega)).1; omega, (d (by omega)).2⟩⟩
def z9g (v : Nat) (n : Nat) : Prop := v < 2 ^ n /\ (0 < v -> 0 < n /\ 2 ^ (n - 1) <= v)
theorem z9g.up {v : Nat} (k : Nat) {n : Nat} (h : z9g (v / 2 ^ k) n) (hv : 2 ^ k <= v) : z9g v (n + k) := by
 have hp := Nat.two_pow_pos k
 have hpos : 0 < v / 2 ^ k := Nat.div_pos hv hp
 obtain ⟨h1, h2⟩ := h
 obtain ⟨h3, h4⟩ := h2 hpos
 refine ⟨?_, fun _ => ⟨by omega, ?_⟩⟩
 ·rw [Nat.pow_add]; exact (Nat.div_lt_iff_lt_mul hp).1 h1
 ·have : n + k - 1 = (n - 1) + k := by omega
  rw [this, Nat.pow_add]; exact (Nat.le_div_iff_mul_le hp).1 h4
theorem y3r (φ : Nat) (v w : Int) (h : 0 <= v) (h' : v < 256) (hw : 0 <= w) (hw' : w <= 64) : ∃ n : Nat, z19 φ v w = some (64 - (w + n), ()) /\ n <= 8 /\ z9g v.toNat n := by
 obtain ⟨n, e, hn, a, b⟩ := zp4 h h'
 have e8 : IntKind.wrap .u8 v = v := by simp [IntKind.wrap, IntKind.bits, IntKind.signed]; omega
 refine ⟨n, ?_, hn, a, fun hv => b (by omega)⟩
 unfold z19
 rw [e8, z8 ⟨h, h'⟩, e, W_id (x := (n : Int)) (by omega) (by omega), W_id (x := w + n) (by omega) (by omega), W_id (by omega) (by omega)]
theorem sh8 (v : Int) : v.fdiv (2 ^ (min (8 : Int).toNat 64)) = v / 256 := by rw [show ((2 : Int) ^ (min (8 : Int).toNat 64)) = 256 by decide]; exact Int.fdiv_eq_ediv_of_nonneg _ (by omega)
theorem sh16 (v : Int) : v.fdiv (2 ^ (min (16 : Int).toNat 64)) = v / 65536 := by rw [show ((2 : Int) ^ (min (16 : Int).toNat 64)) = 65536 by decide]; exact Int.fdiv_eq_ediv_of_nonneg _ (by omega)
theorem sh32 (v : Int) : v.fdiv (2 ^ (min (32 : Int).toNat 64)) = v / 4294967296 := by rw [show ((2 : Int) ^ (min (32 : Int).toNat 64)) = 4294967296 by decide]; exact Int.fdiv_eq_ediv_of_nonneg _ (by omega)
theorem y9u (φ : Nat) (v w : Int) (h : 0 <= v) (h' : v < 65536) (hw : 0 <= w) (hw' : w <= 48) : ∃ n : Nat, z1w φ v w = some (64 - (w + n), ()) /\ n <= 16 /\ z9g v.toNat n := by
 unfold z1w
 by_cases c : 256 <= v
 ·rw [if_pos (by simpa using c), if_pos (by decide), sh8, W_id (by omega) (by omega)]
  obtain ⟨n, e, hn, hl⟩ := y3r φ (v / 256) (w + 8) (by omega) (by omega) (by omega) (by omega)
  refine ⟨n + 8, by rw [e]; congr 2; omega, by omega, ?_⟩
  refine z9g.up 8 ?_ (by omega)
  rwa [show v.toNat / 2 ^ 8 = (v / 256).toNat by omega]
 ·rw [if_neg (by simpa using c)]
  obtain ⟨n, e, hn, hl⟩ := y3r φ v w h (by omega) (by omega) (by omega)
  exact ⟨n, e, by omega, hl⟩
theorem y9h (φ : Nat) (v w : Int) (h : 0 <= v) (h' : v < 4294967296) (hw : 0 <= w) (hw' : w <= 32) : ∃ n : Nat, z1y φ v w = some (64 - (w + n), ()) /\ n <= 32 /\ z9g v.toNat n := by
 unfold z1y
 by_cases c : 65536 <= v
 ·rw [if_pos (by simpa using c), if_pos (by decide), sh16, W_id (by omega) (by omega)]
  obtain ⟨n, e, hn, hl⟩ := y9u φ (v / 65536) (w + 16) (by omega) (by omega) (by omega) (by omega)
  refine ⟨n + 16, by rw [e]; congr 2; omega, by omega, ?_⟩
  refine z9g.up 16 ?_ (by omega)
  rwa [show v.toNat / 2 ^ 16 = (v / 65536).toNat by omega]
 ·rw [if_neg (by simpa using c)]
  obtain ⟨n, e, hn, hl⟩ := y9u φ v w h (by omega) (by omega) (by omega)
  exact ⟨n, e, by omega, hl⟩
theorem yfp (φ : Nat) (v : Int) (h : 0 <= v) (h' : v < 18446744073709551616) : ∃ n : Nat, z42 φ v = some (64 - (n : Int), ()) /\ n <= 64 /\ z9g v.toNat n := by
 unfold z42
 by_cases c : 4294967296 <= v
 ·rw [if_pos (by simpa using c), if_pos (by decide), sh32]
  obtain ⟨n, e, hn, hl⟩ := y9h φ (v / 4294967296) 32 (by omega) (by omega) (by omega) (by omega)
  refine ⟨n + 32, by rw [e]; congr 2; omega, by omega, ?_⟩
  refine z9g.up 32 ?_ (by omega)
  rwa [show v.toNat / 2 ^ 32 = (v / 4294967296).toNat by omega]
 ·rw [if_neg (by simpa using c)]
  obtain ⟨n, e, hn, hl⟩ := y9h φ v 0 h (by omega) (by omega) (by omega)
  exact ⟨n, by rw [e]; simp, by omega, hl⟩
theorem znm {v : Int} (h : 0 <= v) (h' : v < 18446744073709551616) : U ((BitVec.ofInt 64 v &&& BitVec.ofInt 64 4294967295).toNat) = v % 4294967296 := by
 show U ((BitVec.ofInt 64 v &&& BitVec.ofInt 64 4294967295).toNat : Int) = _
 rw [BitVec.toNat_and, z9y h h', z9y (by omega) (by omega), ycv (y9z (by omega))]
 have : (4294967295 : Int).toNat = 2 ^ 32 - 1 := by decide
 rw [this, Nat.and_two_pow_sub_one_eq_mod]
 omega
theorem zpb {a b m n : Int} (ha : 0 <= a) (hb : 0 <= b) (h : a <= m) (h' : b <= n) : 0 <= a * b /\ a * b <= m * n :=
 ⟨Int.mul_nonneg ha hb, Int.mul_le_mul h h' hb (by omega)⟩
theorem y8t (φ : Nat) (x y : Int) (hx : 0 <= x) (hx' : x < 18446744073709551616) (hy : 0 <= y) (hy' : y < 18446744073709551616) :
  z9s φ x y = some (x * y / 18446744073709551616, x * y % 18446744073709551616, ()) := by
 unfold z9s
 simp only [show (0 : Int) <= 32 by decide, if_true]
 rw [znm hx hx', znm hy hy']
 simp only [sh32]
 have ex : x = x / 4294967296 * 4294967296 + x % 4294967296 := by omega
 have ey : y = y / 4294967296 * 4294967296 + y % 4294967296 := by omega
 have a1 : 0 <= x / 4294967296 /\ x / 4294967296 <= 4294967295 := by omega
 have a0 : 0 <= x % 4294967296 /\ x % 4294967296 <= 4294967295 := by omega
 have b1 : 0 <= y / 4294967296 /\ y / 4294967296 <= 4294967295 := by omega
 have b0 : 0 <= y % 4294967296 /\ y % 4294967296 <= 4294967295 := by omega
 have hxy : x * y = (x / 4294967296) * (y / 4294967296) * 18446744073709551616 + ((x / 4294967296) * (y % 4294967296) + (x % 4294967296) * (y / 4294967296)) * 4294967296 + (x % 4294967296) * (y % 4294967296) := by
  conv => lhs; rw [ex, ey]
  generalize x / 4294967296 = a; generalize x % 4294967296 = b; generalize y / 4294967296 = c; generalize y % 4294967296 = d
  rw [Int.add_mul, Int.mul_add, Int.mul_add, Int.add_mul]
  have e1 : a * 4294967296 * (c * 4294967296) = a * c * 18446744073709551616 := by
   rw [Int.mul_assoc, Int.mul_left_comm 4294967296 c, <- Int.mul_assoc]; rfl
  have e2 : a * 4294967296 * d = a * d * 4294967296 := by rw [Int.mul_right_comm]
  have e3 : b * (c * 4294967296) = b * c * 4294967296 := by rw [Int.mul_assoc]
  rw [e1, e2, e3]; omega
 have p11 := zpb a1.1 b1.1 a1.2 b1.2
 have p10 := zpb a1.1 b0.1 a1.2 b0.2
 have p01 := zpb a0.1 b1.1 a0.2 b1.2
 have p00 := zpb a0.1 b0.1 a0.2 b0.2
 rw [y4e (x * y), hxy]
 generalize (x / 4294967296) * (y / 4294967296) = p at *; generalize (x / 4294967296) * (y % 4294967296) = q at *
 generalize (x % 4294967296) * (y / 4294967296) = r at *; generalize (x % 4294967296) * (y % 4294967296) = s at *
 clear hxy ex ey a1 a0 b1 b0
 rw [U_id (x := p) (by omega) (by omega), U_id (x := q) (by omega) (by omega), U_id (x := r) (by omega) (by omega), U_id (x := s) (by omega) (by omega)]
 rw [U_id (x := q + s / 4294967296) (by omega) (by omega), znm (by omega) (by omega),
  U_id (x := (q + s / 4294967296) % 4294967296 + r) (by omega) (by omega), U_id (x := p + (q + s / 4294967296) / 4294967296) (by omega) (by omega), U_id (by omega) (by omega)]
 refine congrArg some (Prod.ext ?_ rfl)
 show _ = _
 omega
theorem yeo {yn1 yn0 u d q r : Int} (h1 : 2147483648 <= yn1) (h1' : yn1 < 4294967296) (h0 : 0 <= yn0) (h0' : yn0 < 4294967296) (hd : 0 <= d) (hd' : d < 4294967296) (hu : 0 <= u)
  (hu' : u < yn1 * 4294967296 + yn0) (hqr : q * yn1 + r = u) (hr : 0 <= r) (hr' : r < 4294967296) (hq : (u * 4294967296 + d) / (yn1 * 4294967296 + yn0) <= q) :
  0 <= q /\ q <= 4294967297 /\ 0 <= (u * 4294967296 + d) / (yn1 * 4294967296 + yn0) /\ (u * 4294967296 + d) / (yn1 * 4294967296 + yn0) < 4294967296 /\
  (4294967296 <= q \/ 4294967296 * r + d < q * yn0 -> (u * 4294967296 + d) / (yn1 * 4294967296 + yn0) <= q - 1) /\
  (¬ (4294967296 <= q \/ 4294967296 * r + d < q * yn0) -> q = (u * 4294967296 + d) / (yn1 * 4294967296 + yn0)) /\
  (4294967296 <= q \/ 4294967296 * r + d < q * yn0 -> 4294967296 <= r + yn1 -> q - 1 = (u * 4294967296 + d) / (yn1 * 4294967296 + yn0)) := by
 have hY : 0 < yn1 * 4294967296 + yn0 := by omega
 have hQ0 : 0 <= (u * 4294967296 + d) / (yn1 * 4294967296 + yn0) := Int.ediv_nonneg (by omega) (by omega)
 have hQ1 : (u * 4294967296 + d) / (yn1 * 4294967296 + yn0) < 4294967296 := Int.ediv_lt_of_lt_mul hY (by omega)
 have hq0 : 0 <= q := by omega
 have key : q * (yn1 * 4294967296 + yn0) = (u - r) * 4294967296 + q * yn0 := by
  rw [Int.mul_add, <- Int.mul_assoc, <- hqr]; omega
 have hq2 : q <= 4294967297 := by
  rcases Int.lt_or_le 4294967297 q with h | h
  ·have : 4294967298 * yn1 <= q * yn1 := Int.mul_le_mul_of_nonneg_right (by omega) (by omega)
   omega
  ·exact h
 have lt_of : ∀ {z : Int}, (u * 4294967296 + d) / (yn1 * 4294967296 + yn0) < z ↔ u * 4294967296 + d < z * (yn1 * 4294967296 + yn0) := fun {z} => Int.ediv_lt_iff_lt_mul hY
 refine ⟨hq0, hq2, hQ0, hQ1, fun h => ?_, fun h => ?_, fun h hr2 => ?_⟩
 ·have : (u * 4294967296 + d) / (yn1 * 4294967296 + yn0) < q := by
   rcases h with h | h
   ·omega
   ·rw [lt_of, key]; omega
  omega
 ·have : ¬ (u * 4294967296 + d) / (yn1 * 4294967296 + yn0) < q := by rw [lt_of, key]; omega
  omega
 ·have hq1 : (u * 4294967296 + d) / (yn1 * 4294967296 + yn0) < q := by
   rcases h with h | h
   ·omega
   ·rw [lt_of, key]; omega
  have h2 : ¬ (u * 4294967296 + d) / (yn1 * 4294967296 + yn0) < q - 1 := by
   rw [lt_of]
   have e : (q - 1) * (yn1 * 4294967296 + yn0) = (u - (r + yn1)) * 4294967296 + (q - 1) * yn0 := by
    have : (q - 1) * yn1 + (r + yn1) = u := by rw [Int.sub_mul]; omega
    rw [Int.mul_add, <- Int.mul_assoc, <- this]; omega
   have b := (zpb (by omega : 0 <= q - 1) h0 (by omega : q - 1 <= 4294967296) (by omega : yn0 <= 4294967295)).2
   rw [e]; omega
  omega
theorem mulB {a b : Int} (h : 0 <= a) (h' : a < 4294967296) (g : 0 <= b) (g' : b < 4294967296) : 0 <= a * b /\ a * b <= 18446744065119617025 :=
 zpb h g (by omega : a <= 4294967295) (by omega : b <= 4294967295)
theorem zpy {ρ : Type} (L : Nat -> Int -> Int -> Option ρ) (k : Int -> Option ρ) {yn1 yn0 u d : Int} (h1 : 2147483648 <= yn1) (h1' : yn1 < 4294967296) (h0 : 0 <= yn0) (h0' : yn0 < 4294967296) (hd : 0 <= d) (hd' : d < 4294967296) (hu : 0 <= u)
  (hu' : u < yn1 * 4294967296 + yn0)
  (step : ∀ n q r, L (n + 1) q r = if (decide (4294967296 <= q) || decide (U (U (4294967296 * r) + d) < U (q * yn0))) = true then (if decide (4294967296 <= U (r + yn1)) = true then k (U (q - 1)) else L n (U (q - 1)) (U (r + yn1))) else k q) :
  ∀ (n : Nat) q r, q * yn1 + r = u -> 0 <= r -> r < 4294967296 -> (u * 4294967296 + d) / (yn1 * 4294967296 + yn0) <= q -> 4294967296 - r <= 2147483648 * n -> L (n + 1) q r = k ((u * 4294967296 + d) / (yn1 * 4294967296 + yn0)) := by
 intro n
 induction n with
 | zero => intro q r _ _ _ _ h; omega
 | succ n ih =>
  intro q r hqr hr hr' hq hn
  obtain ⟨g0, g1, g2, g3, g4, g5, g6⟩ := yeo h1 h1' h0 h0' hd hd' hu hu' hqr hr hr' hq
  have hc : (decide (4294967296 <= q) || decide (U (U (4294967296 * r) + d) < U (q * yn0))) = true ↔ (4294967296 <= q \/ 4294967296 * r + d < q * yn0) := by
   rw [Bool.or_eq_true, decide_eq_true_eq, decide_eq_true_eq]
   by_cases hqB : 4294967296 <= q
   ·simp [hqB]
   ·have := mulB g0 (by omega : q < 4294967296) h0 h0'
    rw [U_id (x := 4294967296 * r) (by omega) (by omega), U_id (by omega) (by omega), U_id (by omega) (by omega)]
  rw [step]
  by_cases c : 4294967296 <= q \/ 4294967296 * r + d < q * yn0
  ·have a4 := g4 c
   rw [if_pos (hc.2 c), U_id (x := r + yn1) (by omega) (by omega), U_id (x := q - 1) (by omega) (by omega)]
   by_cases e : 4294967296 <= r + yn1
   ·rw [if_pos (by simpa using e), g6 c e]
   ·rw [if_neg (by simpa using e)]
    exact ih _ _ (by rw [Int.sub_mul]; omega) (by omega) (by omega) a4 (by omega)
  ·rw [if_neg (fun h => c (hc.1 h)), <- g5 c]
theorem zo8 {yn1 yn0 u d : Int} (h1 : 2147483648 <= yn1) (h1' : yn1 < 4294967296) (h0 : 0 <= yn0) (h0' : yn0 < 4294967296) (hd : 0 <= d) (hd' : d < 4294967296) (hu : 0 <= u)
  (hu' : u < yn1 * 4294967296 + yn0) : U (u.tdiv yn1) = u / yn1 /\ U (u - U (U (u.tdiv yn1) * yn1)) = u % yn1 /\ u / yn1 * yn1 + u % yn1 = u /\ 0 <= u % yn1 /\ u % yn1 < 4294967296 /\
  (u * 4294967296 + d) / (yn1 * 4294967296 + yn0) <= u / yn1 := by
 have e1 : u.tdiv yn1 = u / yn1 := Int.tdiv_eq_ediv_of_nonneg hu
 have hdm : u / yn1 * yn1 + u % yn1 = u := by have := Int.ediv_mul_add_emod u yn1; exact this
 have hm0 := Int.emod_nonneg u (by omega : yn1 ≠ 0)
 have hm1 := Int.emod_lt_of_pos u (by omega : 0 < yn1)
 have hq0 : 0 <= u / yn1 := Int.ediv_nonneg hu (by omega)
 have hq1 : u / yn1 <= u := Int.ediv_le_self _ hu
 have hqm : 0 <= u / yn1 * yn1 := Int.mul_nonneg hq0 (by omega)
 rw [e1, U_id hq0 (by omega), U_id (x := u / yn1 * yn1) (by omega) (by omega), U_id (by omega) (by omega)]
 refine ⟨rfl, by omega, hdm, hm0, by omega, ?_⟩
 have hY : 0 < yn1 * 4294967296 + yn0 := by omega
 have hQ0 : 0 <= (u * 4294967296 + d) / (yn1 * 4294967296 + yn0) := Int.ediv_nonneg (by omega) (by omega)
 have hQ := Int.ediv_mul_le (u * 4294967296 + d) (b := yn1 * 4294967296 + yn0) (by omega)
 generalize (u * 4294967296 + d) / (yn1 * 4294967296 + yn0) = z at *
 rw [Int.mul_add, <- Int.mul_assoc] at hQ
 have := Int.mul_nonneg hQ0 h0
 exact (Int.le_ediv_iff_mul_le (by omega)).2 (by omega)
theorem y9i (a b c : Int) : U (U (U a + b) - U c) = U (a + b - c) := by
 simp only [y4e]; omega
theorem yep {a b : Int} {s : Nat} (hs : s <= 63) (ha : 0 <= a) (h : a * 2 ^ s < 18446744073709551616) (hb : 0 <= b) (hb' : b < 2 ^ s) :
  U ((BitVec.ofInt 64 (U (a * 2 ^ s)) ||| BitVec.ofInt 64 b).toNat) = a * 2 ^ s + b := by
 have hp : (0 : Int) < 2 ^ s := Int.pow_pos (by decide)
 have hn := Int.mul_nonneg ha (Int.le_of_lt hp)
 have hp2 : (2 : Int) ^ s = ((2 ^ s : Nat) : Int) := by simp
 have hlt : (2 ^ s : Nat) < 18446744073709551616 := y5j hs
 rw [U_id hn (by omega)]
 show U ((BitVec.ofInt 64 (a * 2 ^ s) ||| BitVec.ofInt 64 b).toNat : Int) = _
 have hlt2 := (BitVec.ofInt 64 (a * 2 ^ s) ||| BitVec.ofInt 64 b).isLt
 rw [ycv (by omega), BitVec.toNat_or, z9y hn h, z9y hb (by omega)]
 obtain ⟨n, rfl⟩ := Int.eq_ofNat_of_zero_le ha
 obtain ⟨m, rfl⟩ := Int.eq_ofNat_of_zero_le hb
 have e : ((n : Int) * 2 ^ s).toNat = 2 ^ s * n := by rw [hp2, <- Int.natCast_mul, Int.toNat_natCast, Nat.mul_comm]
 rw [e, Int.toNat_natCast, <- Nat.two_pow_add_eq_or_of_lt (by rw [hp2] at hb'; omega)]
 simp [Int.mul_comm]
theorem zl6 (φ : Nat) (v : Int) (h : 0 < v) (h' : v < 18446744073709551616) : ∃ s : Nat, z42 φ v = some ((s : Int), ()) /\ s <= 63 /\
  9223372036854775808 <= v * 2 ^ s /\ v * 2 ^ s < 18446744073709551616 /\ v <= 2 ^ (64 - s) := by
 obtain ⟨n, e, hn, h1, h2⟩ := yfp φ v (by omega) h'
 obtain ⟨h3, h4⟩ := h2 (by omega)
 refine ⟨64 - n, ?_, by omega, ?_, ?_, ?_⟩
 ·rw [e]; congr 2; omega
 ·have : 2 ^ (n - 1) * 2 ^ (64 - n) <= v.toNat * 2 ^ (64 - n) := Nat.mul_le_mul_right _ h4
  rw [<- Nat.pow_add, show n - 1 + (64 - n) = 63 by omega] at this
  have e2 : ((v.toNat * 2 ^ (64 - n) : Nat) : Int) = v * 2 ^ (64 - n) := by
   rw [Int.natCast_mul, Int.natCast_pow]; congr 1; omega
  omega
 ·have : v.toNat * 2 ^ (64 - n) < 2 ^ n * 2 ^ (64 - n) := Nat.mul_lt_mul_of_pos_right h1 (Nat.two_pow_pos _)
  rw [<- Nat.pow_add, show n + (64 - n) = 64 by omega] at this
  have e2 : ((v.toNat * 2 ^ (64 - n) : Nat) : Int) = v * 2 ^ (64 - n) := by
   rw [Int.natCast_mul, Int.natCast_pow]; congr 1; omega
  omega
 ·rw [show 64 - (64 - n) = n by omega]
  have e2 : ((2 ^ n : Nat) : Int) = (2 : Int) ^ n := by simp
  omega
theorem y5k (φ : Nat) (hφ : 5 < φ) (hi lo y : Int) (h0 : 0 <= hi) (hy : hi < y) (hy' : y < 18446744073709551616) (hl : 0 <= lo) (hl' : lo < 18446744073709551616) :
  z89 φ hi lo y = some ((hi * 18446744073709551616 + lo) / y, (hi * 18446744073709551616 + lo) % y, ()) := by
 unfold z89
 rw [if_neg (by simp; omega), if_neg (by simp; omega)]
 by_cases hz : hi = 0
 ·subst hz
  rw [if_pos (by simp), z8 (by omega), z8 (by omega), Int.tdiv_eq_ediv_of_nonneg hl, Int.tmod_eq_emod_of_nonneg hl, U_id (Int.ediv_nonneg hl (by omega)) (by have := Int.ediv_le_self y hl; omega)]
  simp
 rw [if_neg (by simpa using hz)]
 obtain ⟨s, es, hs, hY1, hY2, hyP⟩ := zl6 φ y (by omega) hy'
 have em1 : min (s : Int).toNat 64 = s := by omega
 have em2 : min (64 - (s : Int)).toNat 64 = 64 - s := by omega
 have hp : (0 : Int) < 2 ^ s := Int.pow_pos (by decide)
 have hP : (0 : Int) < 2 ^ (64 - s) := Int.pow_pos (by decide)
 have hpP : (2 : Int) ^ s * 2 ^ (64 - s) = 18446744073709551616 := by rw [<- Int.pow_add, show s + (64 - s) = 64 by omega]; rfl
 have hhp : hi * 2 ^ s < y * 2 ^ s := Int.mul_lt_mul_of_pos_right hy hp
 have hlP0 : 0 <= lo / 2 ^ (64 - s) := Int.ediv_nonneg hl (by omega)
 have hlP1 : lo / 2 ^ (64 - s) < 2 ^ s := Int.ediv_lt_of_lt_mul hP (by omega)
 have hh0 : 0 <= hi * 2 ^ s := Int.mul_nonneg h0 (by omega)
 -- the low word
 have hlo10 : U (lo * 2 ^ s) = lo % 2 ^ (64 - s) * 2 ^ s := by
  have e : lo = lo / 2 ^ (64 - s) * 2 ^ (64 - s) + lo % 2 ^ (64 - s) := (Int.ediv_mul_add_emod lo _).symm
  have e2 : lo * 2 ^ s = lo / 2 ^ (64 - s) * 18446744073709551616 + lo % 2 ^ (64 - s) * 2 ^ s := by
   conv => lhs; rw [e]
   rw [Int.add_mul, Int.mul_assoc, Int.mul_comm (2 ^ (64 - s)), hpP]
  have m0 := Int.emod_nonneg lo (by omega : (2 : Int) ^ (64 - s) ≠ 0)
  have m1 := Int.emod_lt_of_pos lo hP
  have m2 : lo % 2 ^ (64 - s) * 2 ^ s < 2 ^ (64 - s) * 2 ^ s := Int.mul_lt_mul_of_pos_right m1 hp
  have m3 := Int.mul_nonneg m0 (Int.le_of_lt hp)
  rw [Int.mul_comm (2 ^ (64 - s))] at m2
  rw [e2, y4e]; omega
 have hN : (hi * 2 ^ s + lo / 2 ^ (64 - s)) * 18446744073709551616 + lo % 2 ^ (64 - s) * 2 ^ s = (hi * 18446744073709551616 + lo) * 2 ^ s := by
  have e : lo = lo / 2 ^ (64 - s) * 2 ^ (64 - s) + lo % 2 ^ (64 - s) := (Int.ediv_mul_add_emod lo _).symm
  have e2 : lo * 2 ^ s = lo / 2 ^ (64 - s) * 18446744073709551616 + lo % 2 ^ (64 - s) * 2 ^ s := by
   conv => lhs; rw [e]
   rw [Int.add_mul, Int.mul_assoc, Int.mul_comm (2 ^ (64 - s)), hpP]
  have e3 : (hi * 18446744073709551616 + lo) * 2 ^ s = hi * 2 ^ s * 18446744073709551616 + lo * 2 ^ s := by rw [Int.add_mul, Int.mul_right_comm]
  rw [e3, e2]; omega
 have hun0 : 0 <= lo % 2 ^ (64 - s) * 2 ^ s := Int.mul_nonneg (Int.emod_nonneg lo (by omega)) (by omega)
 have hun1 : lo % 2 ^ (64 - s) * 2 ^ s < 18446744073709551616 := by
  rw [<- hlo10, y4e]; omega
 have hu' : hi * 2 ^ s + lo / 2 ^ (64 - s) < y * 2 ^ s := by
  have : (hi + 1) * 2 ^ s <= y * 2 ^ s := Int.mul_le_mul_of_nonneg_right (by omega) (by omega)
  rw [Int.add_mul] at this; omega
 have hs1 : U (s : Int) = s := U_id (by omega) (by omega)
 have hs2 : U (64 - (s : Int)) = 64 - (s : Int) := U_id (by omega) (by omega)
 have ef : lo.fdiv (2 ^ (64 - s)) = lo / 2 ^ (64 - s) := Int.fdiv_eq_ediv_of_nonneg _ (by omega)
 have eor := yep hs h0 (by omega : hi * 2 ^ s < 18446744073709551616) hlP0 hlP1
 obtain ⟨Y, hYd⟩ : ∃ Y, Y = y * 2 ^ s := ⟨_, rfl⟩
 have eY : U (y * 2 ^ s) = Y := by rw [hYd]; exact U_id (by omega) (by omega)
 obtain ⟨u, hud⟩ : ∃ u, u = hi * 2 ^ s + lo / 2 ^ (64 - s) := ⟨_, rfl⟩
 obtain ⟨w, hwd⟩ : ∃ w, w = lo % 2 ^ (64 - s) * 2 ^ s := ⟨_, rfl⟩
 rw [<- hwd] at hlo10 hN hun0 hun1
 rw [<- hud] at hN hu' eor
 rw [<- hYd] at hu' hY1 hY2 hhp
 have hu0 : 0 <= u := by omega
 have fY : Y.fdiv 4294967296 = Y / 4294967296 := Int.fdiv_eq_ediv_of_nonneg _ (by omega)
 have fw : w.fdiv 4294967296 = w / 4294967296 := Int.fdiv_eq_ediv_of_nonneg _ (by omega)
 have mY := znm (v := Y) (by omega) (by omega)
 have mw := znm (v := w) (by omega) (by omega)
 have b1 : 2147483648 <= Y / 4294967296 /\ Y / 4294967296 < 4294967296 /\ 0 <= Y % 4294967296 /\ Y % 4294967296 < 4294967296 := by omega
 have b2 : 0 <= w / 4294967296 /\ w / 4294967296 < 4294967296 /\ 0 <= w % 4294967296 /\ w % 4294967296 < 4294967296 := by omega
 have eYs : Y / 4294967296 * 4294967296 + Y % 4294967296 = Y := by omega
 obtain ⟨m, rfl⟩ : ∃ m, φ = m + 3 := ⟨φ - 3, by omega⟩
 rw [es]
 simp only [Option.bind_some, hs1, hs2, em1, em2, sh32, eY, hlo10, mY, mw, ef, eor, show (0 : Int) <= 32 by decide, if_true]
 rw [z8 (by omega), z8 (by omega), z8 (by omega), z8 (by omega), z8 (by omega)]
 obtain ⟨i1, i2, i3, i4, i5, i6⟩ := zo8 (u := u) (d := w / 4294967296) b1.1 b1.2.1 b1.2.2.1 b1.2.2.2 b2.1 b2.2.1 hu0 (by omega)
 rw [i1] at i2 ⊢
 rw [i2]
 refine (zpy (fun n q r => z7e (m + 3) n Y s (Y / 4294967296) (Y % 4294967296) u (w / 4294967296) (w % 4294967296) q r) (fun q => z7f (m + 3) Y s (Y / 4294967296) (Y % 4294967296) u (w / 4294967296) (w % 4294967296) q)
  b1.1 b1.2.1 b1.2.2.1 b1.2.2.2 b2.1 b2.2.1 hu0 (by omega) (fun n q r => by rw [z7e]) (m + 2) _ _ i3 i4 i5 i6 (by omega)).trans ?_
 rw [eYs]
 unfold z7f
 rw [z8 (by omega)]
 have hQ1 : 0 <= (u * 4294967296 + w / 4294967296) / Y /\ (u * 4294967296 + w / 4294967296) / Y < 4294967296 := ⟨Int.ediv_nonneg (by omega) (by omega), Int.ediv_lt_of_lt_mul (by omega) (by omega)⟩
 have hR1 := Int.ediv_mul_add_emod (u * 4294967296 + w / 4294967296) Y
 have hR1a := Int.emod_nonneg (u * 4294967296 + w / 4294967296) (by omega : Y ≠ 0)
 have hR1b := Int.emod_lt_of_pos (u * 4294967296 + w / 4294967296) (by omega : 0 < Y)
 generalize (u * 4294967296 + w / 4294967296) / Y = q1 at *
 generalize (u * 4294967296 + w / 4294967296) % Y = r1 at *
 have eu21 : U (U (U (u * 4294967296) + w / 4294967296) - U (q1 * Y)) = r1 := by
  rw [y9i, show u * 4294967296 + w / 4294967296 - q1 * Y = r1 by omega]; exact U_id hR1a (by omega)
 rw [eu21]
 obtain ⟨j1, j2, j3, j4, j5, j6⟩ := zo8 (u := r1) (d := w % 4294967296) b1.1 b1.2.1 b1.2.2.1 b1.2.2.2 b2.2.2.1 b2.2.2.2 hR1a (by omega)
 rw [j1] at j2 ⊢
 rw [j2]
 refine (zpy (fun n q r => z7h (m + 3) n Y s (Y / 4294967296) (Y % 4294967296) (w % 4294967296) q1 r r1 q) (fun q => z7g (m + 3) Y s (w % 4294967296) q1 r1 q)
  b1.1 b1.2.1 b1.2.2.1 b1.2.2.2 b2.2.2.1 b2.2.2.2 hR1a (by omega) (fun n q r => by rw [z7h]) (m + 2) _ _ j3 j4 j5 j6 (by omega)).trans ?_
 rw [eYs]
 unfold z7g
 rw [em1, z8 (by omega)]
 have hQ0 : 0 <= (r1 * 4294967296 + w % 4294967296) / Y /\ (r1 * 4294967296 + w % 4294967296) / Y < 4294967296 := ⟨Int.ediv_nonneg (by omega) (by omega), Int.ediv_lt_of_lt_mul (by omega) (by omega)⟩
 have hR0 := Int.ediv_mul_add_emod (r1 * 4294967296 + w % 4294967296) Y
 have hR0a := Int.emod_nonneg (r1 * 4294967296 + w % 4294967296) (by omega : Y ≠ 0)
 have hR0b := Int.emod_lt_of_pos (r1 * 4294967296 + w % 4294967296) (by omega : 0 < Y)
 generalize (r1 * 4294967296 + w % 4294967296) / Y = q0 at *
 generalize (r1 * 4294967296 + w % 4294967296) % Y = r0 at *
 rw [y9i, show r1 * 4294967296 + w % 4294967296 - q0 * Y = r0 by omega, U_id (x := r0) hR0a (by omega), U_id (x := q1 * 4294967296) (by omega) (by omega), U_id (by omega) (by omega), Int.fdiv_eq_ediv_of_nonneg _ (by omega)]
 have hall : (hi * 18446744073709551616 + lo - (q1 * 4294967296 + q0) * y) * 2 ^ s = r0 := by
  rw [Int.sub_mul, <- hN, Int.mul_assoc, <- hYd, Int.add_mul, Int.mul_right_comm]; omega
 have hz0 : 0 <= hi * 18446744073709551616 + lo - (q1 * 4294967296 + q0) * y := by
  rcases Int.lt_or_le (hi * 18446744073709551616 + lo - (q1 * 4294967296 + q0) * y) 0 with h | h
  ·have := Int.mul_neg_of_neg_of_pos h hp; omega
  ·exact h
 have hz1 : hi * 18446744073709551616 + lo - (q1 * 4294967296 + q0) * y < y := by
  refine Int.lt_of_mul_lt_mul_right (a := 2 ^ s) ?_ (by omega)
  rw [hall, <- hYd]; exact hR0b
 have hr0 : r0 / 2 ^ s = hi * 18446744073709551616 + lo - (q1 * 4294967296 + q0) * y := by
  rw [<- hall]; exact Int.mul_ediv_cancel _ (by omega)
 have hdm : (hi * 18446744073709551616 + lo) / y = q1 * 4294967296 + q0 /\ (hi * 18446744073709551616 + lo) % y = hi * 18446744073709551616 + lo - (q1 * 4294967296 + q0) * y :=
  (Int.ediv_emod_unique (by omega)).2 ⟨by rw [Int.mul_comm y]; omega, hz0, hz1⟩
 rw [hr0, hdm.1, hdm.2]
end Px
end
section
namespace Px
open Go
set_option linter.unusedVariables false
set_option linter.unusedSimpArgs false
set_option maxRecDepth 100000
def PP : Nat := 2305843009213690799
def QQ : Nat := 1152921504606845399
def pw (b n : Nat) : Nat := b ^ n % PP
theorem y0x (b n : Nat) : pw b n < PP := Nat.mod_lt _ (by decide)
theorem yc5 (b : Nat) : pw b 0 = 1 := by simp [pw, PP]
theorem yad (b m n : Nat) : pw b m * pw b n % PP = pw b (m + n) := by
 unfold pw; rw [Nat.pow_add, <- Nat.mul_mod]
theorem ydb (b : Nat) : pw b 1 = b % PP := by simp [pw]
theorem ydt {a : Nat} (h : a < PP) : ((a : Int)).tmod 2305843009213690799 = (a : Int) := by
 unfold PP at h
 rw [Int.tmod_eq_emod_of_nonneg (by omega)]; omega
theorem yem (b : Nat) : ((b : Int)).tmod 2305843009213690799 = ((b % PP : Nat) : Int) := by
 rw [Int.tmod_eq_emod_of_nonneg (by omega)]; unfold PP; omega
theorem y3p {ρ : Type} {a b : Nat} (ha : a < PP) (hb : b < PP) (φ : Nat) (hφ : 5 < φ) (K : Int -> Option ρ) : ((z9s φ (a : Int) (b : Int)).bind fun y => (z89 φ y.1 y.2.1 2305843009213690799).bind fun z => K z.2.1) = K ((a * b % PP : Nat) : Int) := by
 have ha' : (a : Int) < 2305843009213690799 := by unfold PP at ha; omega
 have hb' : (b : Int) < 2305843009213690799 := by unfold PP at hb; omega
 have hp := zpb (by omega : 0 <= (a : Int)) (by omega : 0 <= (b : Int)) (by omega : (a : Int) <= 2305843009213690798) (by omega : (b : Int) <= 2305843009213690798)
 rw [y8t φ _ _ (by omega) (by omega) (by omega) (by omega), Option.bind_some]
 generalize hz : (a : Int) * (b : Int) = z at *
 show (z89 φ (z / 18446744073709551616) (z % 18446744073709551616) 2305843009213690799).bind _ = _
 rw [y5k φ hφ _ _ _ (by omega) (by omega) (by omega) (by omega) (by omega), Option.bind_some]
 congr 1
 have : z / 18446744073709551616 * 18446744073709551616 + z % 18446744073709551616 = z := by omega
 show (z / 18446744073709551616 * 18446744073709551616 + z % 18446744073709551616) % 2305843009213690799 = _
 rw [this, <- hz, Int.natCast_emod, Int.natCast_mul]; rfl
theorem z9g.uniq {v m n : Nat} (hv : 0 < v) (h : z9g v m) (k : z9g v n) : m = n := by
 obtain ⟨h1, h2⟩ := h
 obtain ⟨k1, k2⟩ := k
 obtain ⟨h3, h4⟩ := h2 hv
 obtain ⟨k3, k4⟩ := k2 hv
 have a : m - 1 < n := (Nat.pow_lt_pow_iff_right (by decide : 1 < 2)).1 (Nat.lt_of_le_of_lt h4 k1)
 have b : n - 1 < m := (Nat.pow_lt_pow_iff_right (by decide : 1 < 2)).1 (Nat.lt_of_le_of_lt k4 h1)
 omega
section first
variable (φ : Nat) (b n a p : Int)
theorem y0r (v w : Int) (h : 0 <= v) (h' : v < 256) (hw : 0 <= w) (hw' : w <= 64) : ∃ m : Nat, zam φ v w b n a p = z09 φ φ b n a (w + m) 0 p /\ m <= 8 /\ z9g v.toNat m := by
 obtain ⟨m, e, hm, x, y⟩ := zp4 h h'
 have e8 : IntKind.wrap .u8 v = v := by simp [IntKind.wrap, IntKind.bits, IntKind.signed]; omega
 refine ⟨m, ?_, hm, x, fun hv => y (by omega)⟩
 unfold zam
 rw [e8, z8 ⟨h, h'⟩, e, W_id (x := (m : Int)) (by omega) (by omega), W_id (x := w + m) (by omega) (by omega)]
theorem y3j (v w : Int) (h : 0 <= v) (h' : v < 65536) (hw : 0 <= w) (hw' : w <= 48) : ∃ m : Nat, zak φ v w b n a p = z09 φ φ b n a (w + m) 0 p /\ m <= 16 /\ z9g v.toNat m := by
 unfold zak
 by_cases c : 256 <= v
 ·rw [if_pos (by simpa using c), if_pos (by decide), sh8, W_id (by omega) (by omega)]
  obtain ⟨m, e, hn, hl⟩ := y0r φ b n a p (v / 256) (w + 8) (by omega) (by omega) (by omega) (by omega)
  refine ⟨m + 8, by rw [e]; congr 1; omega, by omega, ?_⟩
  refine z9g.up 8 ?_ (by omega)
  rwa [show v.toNat / 2 ^ 8 = (v / 256).toNat by omega]
 ·rw [if_neg (by simpa using c)]
  obtain ⟨m, e, hn, hl⟩ := y0r φ b n a p v w h (by omega) (by omega) (by omega)
  exact ⟨m, e, by omega, hl⟩
theorem ya1 (v w : Int) (h : 0 <= v) (h' : v < 4294967296) (hw : 0 <= w) (hw' : w <= 32) : ∃ m : Nat, zd0 φ v w b n a p = z09 φ φ b n a (w + m) 0 p /\ m <= 32 /\ z9g v.toNat m := by
 unfold zd0
 by_cases c : 65536 <= v
 ·rw [if_pos (by simpa using c), if_pos (by decide), sh16, W_id (by omega) (by omega)]
  obtain ⟨m, e, hn, hl⟩ := y3j φ b n a p (v / 65536) (w + 16) (by omega) (by omega) (by omega) (by omega)
  refine ⟨m + 16, by rw [e]; congr 1; omega, by omega, ?_⟩
  refine z9g.up 16 ?_ (by omega)
  rwa [show v.toNat / 2 ^ 16 = (v / 65536).toNat by omega]
 ·rw [if_neg (by simpa using c)]
  obtain ⟨m, e, hn, hl⟩ := y3j φ b n a p v w h (by omega) (by omega) (by omega)
  exact ⟨m, e, by omega, hl⟩
end first
def zkz (φ : Nat) (k : Int -> Int -> Int -> Int -> Int -> Int -> Option (Int × Unit)) (L x57 x58 x59 x60 x61 x62 x63 x64 : Int) : Option (Int × Unit) :=
 ck (0 <= (W ((W (L - 1)) - x60))) (if (((U ((BitVec.ofInt 64 ((x63 : Int).fdiv (2 ^ (min ((W ((W (L - 1)) - x60)) : Int).toNat 64))) &&& BitVec.ofInt 64 1).toNat)) : Int) == 1) = true then (ck (x64 ≠ 0) (ck (x64 ≠ 0) ((z9s φ ((x59 : Int).tmod x64) ((x57 : Int).tmod x64)).bind fun y66 => ((z89 φ y66.1 y66.2.1 x64).bind fun y67 => (k x57 x58 y67.2.1 x61 (W (x62 + 1)) x64))))) else (k x57 x58 x59 x61 (W (x62 + 1)) x64))
section second
variable (φ : Nat) (k : Int -> Int -> Int -> Int -> Int -> Int -> Option (Int × Unit)) (x57 x58 x59 x60 x61 x62 x63 x64 : Int)
theorem y2a (v w : Int) (h : 0 <= v) (h' : v < 256) (hw : 0 <= w) (hw' : w <= 64) : ∃ m : Nat, zao φ k v w x57 x58 x59 x60 x61 x62 x63 x64 = zkz φ k (w + m) x57 x58 x59 x60 x61 x62 x63 x64 /\ m <= 8 /\ z9g v.toNat m := by
 obtain ⟨m, e, hm, x, y⟩ := zp4 h h'
 have e8 : IntKind.wrap .u8 v = v := by simp [IntKind.wrap, IntKind.bits, IntKind.signed]; omega
 refine ⟨m, ?_, hm, x, fun hv => y (by omega)⟩
 unfold zao zkz
 rw [e8, z8 ⟨h, h'⟩, e, W_id (x := (m : Int)) (by omega) (by omega), W_id (x := w + m) (by omega) (by omega)]
theorem y0h (v w : Int) (h : 0 <= v) (h' : v < 65536) (hw : 0 <= w) (hw' : w <= 48) : ∃ m : Nat, zaj φ k v w x57 x58 x59 x60 x61 x62 x63 x64 = zkz φ k (w + m) x57 x58 x59 x60 x61 x62 x63 x64 /\ m <= 16 /\ z9g v.toNat m := by
 unfold zaj
 by_cases c : 256 <= v
 ·rw [if_pos (by simpa using c), if_pos (by decide), sh8, W_id (by omega) (by omega)]
  obtain ⟨m, e, hn, hl⟩ := y2a φ k x57 x58 x59 x60 x61 x62 x63 x64 (v / 256) (w + 8) (by omega) (by omega) (by omega) (by omega)
  refine ⟨m + 8, by rw [e]; congr 1; omega, by omega, ?_⟩
  refine z9g.up 8 ?_ (by omega)
  rwa [show v.toNat / 2 ^ 8 = (v / 256).toNat by omega]
 ·rw [if_neg (by simpa using c)]
  obtain ⟨m, e, hn, hl⟩ := y2a φ k x57 x58 x59 x60 x61 x62 x63 x64 v w h (by omega) (by omega) (by omega)
  exact ⟨m, e, by omega, hl⟩
theorem y0u (v w : Int) (h : 0 <= v) (h' : v < 4294967296) (hw : 0 <= w) (hw' : w <= 32) : ∃ m : Nat, z57 φ k v w x57 x58 x59 x60 x61 x62 x63 x64 = zkz φ k (w + m) x57 x58 x59 x60 x61 x62 x63 x64 /\ m <= 32 /\ z9g v.toNat m := by
 unfold z57
 by_cases c : 65536 <= v
 ·rw [if_pos (by simpa using c), if_pos (by decide), sh16, W_id (by omega) (by omega)]
  obtain ⟨m, e, hn, hl⟩ := y0h φ k x57 x58 x59 x60 x61 x62 x63 x64 (v / 65536) (w + 16) (by omega) (by omega) (by omega) (by omega)
  refine ⟨m + 16, by rw [e]; congr 1; omega, by omega, ?_⟩
  refine z9g.up 16 ?_ (by omega)
  rwa [show v.toNat / 2 ^ 16 = (v / 65536).toNat by omega]
 ·rw [if_neg (by simpa using c)]
  obtain ⟨m, e, hn, hl⟩ := y0h φ k x57 x58 x59 x60 x61 x62 x63 x64 v w h (by omega) (by omega) (by omega)
  exact ⟨m, e, by omega, hl⟩
theorem ye7 (v : Int) (h : 0 <= v) (h' : v < 18446744073709551616) : ∃ m : Nat, (if (decide ((4294967296 : Int) <= v)) = true then (if 0 <= (32 : Int) then (z57 φ k (((v : Int).fdiv (2 ^ (min (32 : Int).toNat 64)))) 32 x57 x58 x59 x60 x61 x62 x63 x64) else none) else (z57 φ k v 0 x57 x58 x59 x60 x61 x62 x63 x64)) =
  zkz φ k m x57 x58 x59 x60 x61 x62 x63 x64 /\ m <= 64 /\ z9g v.toNat m := by
 by_cases c : 4294967296 <= v
 ·rw [if_pos (by simpa using c), if_pos (by decide), sh32]
  obtain ⟨m, e, hn, hl⟩ := y0u φ k x57 x58 x59 x60 x61 x62 x63 x64 (v / 4294967296) 32 (by omega) (by omega) (by omega) (by omega)
  refine ⟨m + 32, by rw [e]; congr 1; omega, by omega, ?_⟩
  refine z9g.up 32 ?_ (by omega)
  rwa [show v.toNat / 2 ^ 32 = (v / 4294967296).toNat by omega]
 ·rw [if_neg (by simpa using c)]
  obtain ⟨m, e, hn, hl⟩ := y0u φ k x57 x58 x59 x60 x61 x62 x63 x64 v 0 h (by omega) (by omega) (by omega)
  exact ⟨m, by rw [e]; simp, by omega, hl⟩
end second
theorem zwd (φ : Nat) (hφ : 100 < φ) (b n : Nat) (hn0 : 0 < n) (hn : n < 18446744073709551616) : ziq φ (b : Int) (n : Int) = some (((pw b n : Nat) : Int), ()) := by
 have hstart : ∃ L : Nat, ziq φ (b : Int) (n : Int) = z09 φ φ b n 1 L 0 2305843009213690799 /\ L <= 64 /\ z9g n L := by
  unfold ziq
  by_cases c : (4294967296 : Int) <= n
  ·rw [if_pos (by simpa using c), if_pos (by decide), sh32]
   obtain ⟨m, e, hm, hl⟩ := ya1 φ b n 1 2305843009213690799 ((n : Int) / 4294967296) 32 (by omega) (by omega) (by omega) (by omega)
   refine ⟨m + 32, by rw [e]; congr 1; omega, by omega, ?_⟩
   refine z9g.up 32 ?_ (by omega)
   rwa [show n / 2 ^ 32 = ((n : Int) / 4294967296).toNat by omega]
  ·rw [if_neg (by simpa using c)]
   obtain ⟨m, e, hm, hl⟩ := ya1 φ b n 1 2305843009213690799 (n : Int) 0 (by omega) (by omega) (by omega) (by omega)
   exact ⟨m, by rw [e]; simp, by omega, by rwa [Int.toNat_natCast] at hl⟩
 obtain ⟨L, e0, hL, hlen⟩ := hstart
 rw [e0]
 obtain ⟨h1, h2⟩ := hlen
 refine z6y (fun k i v => z09 φ k (b : Int) (n : Int) v (L : Int) i 2305843009213690799) L (fun i v => v = ((pw b (n / 2 ^ (L - i)) : Nat) : Int)) (fun o => o = some (((pw b n : Nat) : Int), ())) ?_ ?_ φ 1 ?_ (by omega)
 ·intro k i v hi hv hs
  rw [z09, if_pos (by simp; omega), z8 (by decide), z8 (by decide)]
  subst hv
  rw [ydt (y0x _ _)]
  refine (y3p (y0x _ _) (y0x _ _) φ (by omega) (fun z => (if (decide ((4294967296 : Int) <= (n : Int))) = true then (if 0 <= (32 : Int) then (z57 φ (z09 φ k) ((((n : Int) : Int).fdiv (2 ^ (min (32 : Int).toNat 64)))) 32 b n z i L i n 2305843009213690799) else none) else (z57 φ (z09 φ k) n 0 b n z i L i n 2305843009213690799)))).trans ?_
  rw [yad]
  obtain ⟨m, em, hm, hl⟩ := ye7 φ (z09 φ k) b n ((pw b (n / 2 ^ (L - i) + n / 2 ^ (L - i)) : Nat) : Int) i L i n 2305843009213690799 (n : Int) (by omega) (by omega)
  refine em.trans ?_
  rw [Int.toNat_natCast] at hl
  have := z9g.uniq hn0 hl ⟨h1, h2⟩
  subst this
  unfold zkz
  have hw1 : W ((m : Int) - 1) = (m : Int) - 1 := W_id (by omega) (by omega)
  have hw2 : W ((m : Int) - 1 - (i : Int)) = ((m - 1 - i : Nat) : Int) := by rw [W_id (by omega) (by omega)]; omega
  rw [hw1, hw2, z8 (by omega)]
  have hsh := ydd (c := (n : Int)) (k := ((m - 1 - i : Nat) : Int)) (by omega) (by omega) (by omega)
  have hone : U ((BitVec.ofInt 64 ((n : Int).fdiv (2 ^ (min (((m - 1 - i : Nat) : Int)).toNat 64))) &&& BitVec.ofInt 64 1).toNat) = ((n / 2 ^ (m - 1 - i) % 2 : Nat) : Int) := by
   rw [show ((n : Int).fdiv (2 ^ (min (((m - 1 - i : Nat) : Int)).toNat 64))) = _ from hsh, Int.toNat_natCast, Int.toNat_natCast]
   have hd : n / 2 ^ (m - 1 - i) <= n := Nat.div_le_self _ _
   rw [BitVec.toNat_and, z9y (Int.natCast_nonneg _) (by omega), z9y (by omega) (by omega), ycv (y9z (by omega)), Int.toNat_natCast]
   show ((n / 2 ^ (m - 1 - i) &&& 1 : Nat) : Int) = _
   rw [Nat.and_one_is_mod]
  rw [hone]
  have hhalf : n / 2 ^ (m - i) = n / 2 ^ (m - 1 - i) / 2 := by
   rw [Nat.div_div_eq_div_mul, <- Nat.pow_succ]; congr 2; omega
  have hidx : m - (i + 1) = m - 1 - i := by omega
  have hW : W ((i : Int) + 1) = (i : Int) + 1 := W_id (by omega) (by omega)
  have hbit := Nat.mod_two_eq_zero_or_one (n / 2 ^ (m - 1 - i))
  rcases hbit with hbit | hbit
  ·rw [hbit, if_neg (by simp), hW]
   refine hs _ ?_
   rw [hidx, hhalf]; congr 2; omega
  ·rw [hbit, if_pos (by simp), ydt (y0x _ _), yem, z8 (by decide), z8 (by decide), hW]
   refine (y3p (y0x _ _) (Nat.mod_lt b (by decide : 0 < PP)) φ (by omega) (fun z => z09 φ k b n z m ((i : Int) + 1) 2305843009213690799)).trans ?_
   refine hs _ ?_
   rw [<- ydb b, yad, hidx, hhalf]; congr 2; omega
 ·intro k v hv
  rw [z09, if_neg (by simp), hv]
  rw [Nat.sub_self, Nat.pow_zero, Nat.div_one]
 ·rw [Nat.sub_zero, Nat.div_eq_of_lt h1, yc5]; rfl
def yc3 (x : Int) : Bool := decide (2 <= x) && decide (x < 2305843009213690799) && (pw x.toNat QQ == 1)
theorem zw6 (a : Nat) : (((a : Nat) : Int) == 1) = (a == 1) := by
 rw [Bool.eq_iff_iff, beq_iff_eq, beq_iff_eq]; omega
theorem zs6 (φ : Nat) (hφ : 100 < φ) (x : Int) : zh9 φ x = some (yc3 x, ()) := by
 unfold zh9 yc3 zx
 cases h : decide (2 <= x) && decide (x < 2305843009213690799) with
 | false => rw [if_neg (by simp), Option.bind_some]; simp only [Bool.false_and]
 | true =>
  simp only [Bool.and_eq_true, decide_eq_true_eq] at h
  have := zwd φ hφ x.toNat QQ (by decide) (by decide)
  rw [show ((x.toNat : Nat) : Int) = x by omega, show ((QQ : Nat) : Int) = 1152921504606845399 by decide] at this
  rw [if_pos rfl, this, Option.bind_some, Bool.true_and, Bool.true_and]
  show some ((((pw x.toNat QQ : Nat) : Int) == 1), ()) = _
  rw [zw6]
end Px
end
