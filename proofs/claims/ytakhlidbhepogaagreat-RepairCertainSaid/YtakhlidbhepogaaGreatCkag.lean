/- A part of the proof of repairCertain_holds. Conditions: none. -/
import Derived.Test.YtakhlidbhepogaaGreatCkaf
import Derived.Test.YtakhlidbhepogaaGreatProg
import Derived.Ground.SlsfProg
import Derived.Ground.NamesProg
import Derived.Shelf.SlIterI.Nil
import Derived.Ground.GgzProg
import Derived.KernelRfl
section
namespace Go.Proofs
open Go.Shelf
def Tryz.sortEv_ren : Go.Shelf.Ren := ⟨fun | 6 => 37 | 15 => 65 | 14 => 64 | 28 => 107 | 29 => 108 | 20 => 99 | 21 => 100 | 22 => 101 | 23 => 102 | 24 => 103 | 25 => 104 | 26 => 105 | 27 => 106 | 46 => 140 | 47 => 141 | 48 => 142 | 49 => 143 | 50 => 144 | 57 => 166 | n => n, fun | 22 => 28 | 24 => 24 | 25 => 94 | 3 => 3 | 39 => 134 | 0 => 0 | 53 => 175 | 55 => 110 | 4 => 4 | 46 => 168 | 45 => 167 | 50 => 172 | 5 => 5 | 9 => 9 | 66 => 204 | 70 => 158 | 76 => 223 | 77 => 224 | n => n, fun | n => n⟩
theorem Tryz.sortEv : Go.Proofs.SlLaysF0.n6 Tryz.prog Tryz.sortEv_ren := {
 mixed := by kernel_rfl
 f6 := ⟨Tryz.f37.name, by decide, Tryz.func37.trans (congrArg some (by kernel_rfl))⟩
 f14 := ⟨Tryz.f64.name, by decide, Tryz.func64.trans (congrArg some (by kernel_rfl))⟩
 f15 := Tryz.func65.trans (congrArg some (by kernel_rfl))
 f20 := ⟨Tryz.f99.name, by decide, Tryz.func99.trans (congrArg some (by kernel_rfl))⟩
 f21 := ⟨Tryz.f100.name, by decide, Tryz.func100.trans (congrArg some (by kernel_rfl))⟩
 f22 := ⟨Tryz.f101.name, by decide, Tryz.func101.trans (congrArg some (by kernel_rfl))⟩
 f23 := ⟨Tryz.f102.name, by decide, Tryz.func102.trans (congrArg some (by kernel_rfl))⟩
 f24 := ⟨Tryz.f103.name, by decide, Tryz.func103.trans (congrArg some (by kernel_rfl))⟩
 f25 := ⟨Tryz.f104.name, by decide, Tryz.func104.trans (congrArg some (by kernel_rfl))⟩
 f26 := ⟨Tryz.f105.name, by decide, Tryz.func105.trans (congrArg some (by kernel_rfl))⟩
 f27 := ⟨Tryz.f106.name, by decide, Tryz.func106.trans (congrArg some (by kernel_rfl))⟩
 f28 := Tryz.func107.trans (congrArg some (by kernel_rfl))
 f29 := Tryz.func108.trans (congrArg some (by kernel_rfl))
 f46 := ⟨Tryz.f140.name, by decide, Tryz.func140.trans (congrArg some (by kernel_rfl))⟩
 f47 := Tryz.func141.trans (congrArg some (by kernel_rfl))
 f48 := Tryz.func142.trans (congrArg some (by kernel_rfl))
 f49 := ⟨Tryz.f143.name, by decide, Tryz.func143.trans (congrArg some (by kernel_rfl))⟩
 f50 := ⟨Tryz.f144.name, by decide, Tryz.func144.trans (congrArg some (by kernel_rfl))⟩
 f57 := ⟨Tryz.f166.name, by decide, Tryz.func166.trans (congrArg some (by kernel_rfl))⟩
 t0 := Tryz.underlying0
 a0 := Tryz.isAgg0
 z0 := Tryz.sizeOf0
 v0 := Tryz.zeroValue0
 t3 := Tryz.underlying3
 a3 := Tryz.isAgg3
 z3 := Tryz.sizeOf3
 v3 := Tryz.zeroValue3
 t4 := Tryz.underlying4
 a4 := Tryz.isAgg4
 z4 := Tryz.sizeOf4
 v4 := Tryz.zeroValue4
 t5 := Tryz.underlying5
 a5 := Tryz.isAgg5
 z5 := Tryz.sizeOf5
 v5 := Tryz.zeroValue5
 t9 := Tryz.underlying9
 a9 := Tryz.isAgg9
 z9 := Tryz.sizeOf9
 v9 := Tryz.zeroValue9
 t22 := Tryz.underlying28
 a22 := Tryz.isAgg28
 z22 := Tryz.sizeOf28
 v22 := Tryz.zeroValue28
 t25 := Tryz.underlying94
 a25 := Tryz.isAgg94
 z25 := Tryz.sizeOf94
 v25 := Tryz.zeroValue94
 t39 := Tryz.underlying134
 a39 := Tryz.isAgg134
 z39 := Tryz.sizeOf134
 v39 := Tryz.zeroValue134
 t45 := Tryz.underlying167
 a45 := Tryz.isAgg167
 z45 := Tryz.sizeOf167
 v45 := Tryz.zeroValue167
 t46 := Tryz.underlying168
 a46 := Tryz.isAgg168
 z46 := Tryz.sizeOf168
 v46 := Tryz.zeroValue168
 t50 := Tryz.underlying172
 a50 := Tryz.isAgg172
 z50 := Tryz.sizeOf172
 v50 := Tryz.zeroValue172
 t53 := Tryz.underlying175
 a53 := Tryz.isAgg175
 z53 := Tryz.sizeOf175
 v53 := Tryz.zeroValue175
 t55 := Tryz.underlying110
 a55 := Tryz.isAgg110
 z55 := Tryz.sizeOf110
 v55 := Tryz.zeroValue110
 t66 := Tryz.underlying204
 a66 := Tryz.isAgg204
 z66 := Tryz.sizeOf204
 v66 := Tryz.zeroValue204
 t70 := Tryz.underlying158
 a70 := Tryz.isAgg158
 z70 := Tryz.sizeOf158
 v70 := Tryz.zeroValue158
 t76 := Tryz.underlying223
 a76 := Tryz.isAgg223
 z76 := Tryz.sizeOf223
 v76 := Tryz.zeroValue223
 t77 := Tryz.underlying224
 a77 := Tryz.isAgg224
 z77 := Tryz.sizeOf224
 v77 := Tryz.zeroValue224 }
def Tryz.lays189_ren : Go.Shelf.Ren := ⟨fun | 189 => 71 | 125 => 65 | 257 => 110 | 128 => 107 | 129 => 108 | 294 => 145 | 295 => 146 | 296 => 147 | 297 => 148 | 298 => 149 | 299 => 150 | 216 => 151 | 300 => 152 | 301 => 153 | 328 => 167 | 329 => 141 | 330 => 142 | 331 => 168 | 332 => 169 | 215 => 66 | 343 => 182 | n => n, fun | 28 => 34 | 3 => 3 | 46 => 134 | 0 => 0 | 51 => 175 | 53 => 110 | 4 => 4 | 183 => 168 | 182 => 167 | 131 => 172 | 5 => 5 | 9 => 9 | 218 => 204 | 222 => 158 | 228 => 223 | 229 => 224 | n => n, fun | n => n⟩
theorem Tryz.lays189 : Go.Proofs.Lays.n189 Tryz.prog Tryz.lays189_ren := {
 mixed := by kernel_rfl
 f125 := Tryz.func65.trans (congrArg some (by kernel_rfl))
 f128 := Tryz.func107.trans (congrArg some (by kernel_rfl))
 f129 := Tryz.func108.trans (congrArg some (by kernel_rfl))
 f189 := Tryz.func71.trans (congrArg some (by kernel_rfl))
 f215 := Tryz.func66.trans (congrArg some (by kernel_rfl))
 f216 := Tryz.func151.trans (congrArg some (by kernel_rfl))
 f257 := Tryz.func110.trans (congrArg some (by kernel_rfl))
 f294 := Tryz.func145.trans (congrArg some (by kernel_rfl))
 f295 := Tryz.func146.trans (congrArg some (by kernel_rfl))
 f296 := Tryz.func147.trans (congrArg some (by kernel_rfl))
 f297 := Tryz.func148.trans (congrArg some (by kernel_rfl))
 f298 := Tryz.func149.trans (congrArg some (by kernel_rfl))
 f299 := Tryz.func150.trans (congrArg some (by kernel_rfl))
 f300 := Tryz.func152.trans (congrArg some (by kernel_rfl))
 f301 := Tryz.func153.trans (congrArg some (by kernel_rfl))
 f328 := Tryz.func167.trans (congrArg some (by kernel_rfl))
 f329 := Tryz.func141.trans (congrArg some (by kernel_rfl))
 f330 := Tryz.func142.trans (congrArg some (by kernel_rfl))
 f331 := Tryz.func168.trans (congrArg some (by kernel_rfl))
 f332 := Tryz.func169.trans (congrArg some (by kernel_rfl))
 f343 := Tryz.func182.trans (congrArg some (by kernel_rfl))
 t0 := Tryz.underlying0
 a0 := Tryz.isAgg0
 z0 := Tryz.sizeOf0
 v0 := Tryz.zeroValue0
 t3 := Tryz.underlying3
 a3 := Tryz.isAgg3
 z3 := Tryz.sizeOf3
 v3 := Tryz.zeroValue3
 t4 := Tryz.underlying4
 a4 := Tryz.isAgg4
 z4 := Tryz.sizeOf4
 v4 := Tryz.zeroValue4
 t5 := Tryz.underlying5
 a5 := Tryz.isAgg5
 z5 := Tryz.sizeOf5
 v5 := Tryz.zeroValue5
 t9 := Tryz.underlying9
 a9 := Tryz.isAgg9
 z9 := Tryz.sizeOf9
 v9 := Tryz.zeroValue9
 t28 := Tryz.underlying34
 a28 := Tryz.isAgg34
 z28 := Tryz.sizeOf34
 v28 := Tryz.zeroValue34
 t46 := Tryz.underlying134
 a46 := Tryz.isAgg134
 z46 := Tryz.sizeOf134
 v46 := Tryz.zeroValue134
 t51 := Tryz.underlying175
 a51 := Tryz.isAgg175
 z51 := Tryz.sizeOf175
 v51 := Tryz.zeroValue175
 t53 := Tryz.underlying110
 a53 := Tryz.isAgg110
 z53 := Tryz.sizeOf110
 v53 := Tryz.zeroValue110
 t131 := Tryz.underlying172
 a131 := Tryz.isAgg172
 z131 := Tryz.sizeOf172
 v131 := Tryz.zeroValue172
 t182 := Tryz.underlying167
 a182 := Tryz.isAgg167
 z182 := Tryz.sizeOf167
 v182 := Tryz.zeroValue167
 t183 := Tryz.underlying168
 a183 := Tryz.isAgg168
 z183 := Tryz.sizeOf168
 v183 := Tryz.zeroValue168
 t218 := Tryz.underlying204
 a218 := Tryz.isAgg204
 z218 := Tryz.sizeOf204
 v218 := Tryz.zeroValue204
 t222 := Tryz.underlying158
 a222 := Tryz.isAgg158
 z222 := Tryz.sizeOf158
 v222 := Tryz.zeroValue158
 t228 := Tryz.underlying223
 a228 := Tryz.isAgg223
 z228 := Tryz.sizeOf223
 v228 := Tryz.zeroValue223
 t229 := Tryz.underlying224
 a229 := Tryz.isAgg224
 z229 := Tryz.sizeOf224
 v229 := Tryz.zeroValue224 }
def Tryz.sortedK_ren : Go.Shelf.Ren := ⟨fun | 6 => 44 | 8 => 70 | 9 => 71 | 11 => 109 | 13 => 65 | 12 => 110 | 23 => 107 | 24 => 108 | 14 => 145 | 15 => 146 | 16 => 147 | 17 => 148 | 18 => 149 | 19 => 150 | 20 => 151 | 21 => 152 | 22 => 153 | 25 => 167 | 26 => 141 | 27 => 142 | 28 => 168 | 29 => 169 | 30 => 66 | 31 => 182 | n => n, fun | 26 => 3 | 28 => 100 | 24 => 34 | 0 => 0 | 3 => 3 | 37 => 134 | 48 => 175 | 50 => 110 | 4 => 4 | 40 => 168 | 39 => 167 | 45 => 172 | 5 => 5 | 9 => 9 | 51 => 204 | 55 => 158 | 57 => 223 | 58 => 224 | 33 => 135 | n => n, fun | n => n⟩
theorem Tryz.sortedK : Go.Proofs.SlLaysZI.n6 Tryz.prog Tryz.sortedK_ren := {
 mixed := by kernel_rfl
 f6 := ⟨Tryz.f44.name, by decide, Tryz.func44.trans (congrArg some (by kernel_rfl))⟩
 f8 := ⟨Tryz.f70.name, by decide, Tryz.func70.trans (congrArg some (by kernel_rfl))⟩
 f11 := ⟨Tryz.f109.name, by decide, Tryz.func109.trans (congrArg some (by kernel_rfl))⟩
 t0 := Tryz.underlying0
 a0 := Tryz.isAgg0
 z0 := Tryz.sizeOf0
 v0 := Tryz.zeroValue0
 t24 := Tryz.underlying34
 a24 := Tryz.isAgg34
 z24 := Tryz.sizeOf34
 v24 := Tryz.zeroValue34
 t26 := Tryz.underlying3
 a26 := Tryz.isAgg3
 z26 := Tryz.sizeOf3
 v26 := Tryz.zeroValue3
 t28 := Tryz.underlying100
 a28 := Tryz.isAgg100
 z28 := Tryz.sizeOf100
 v28 := Tryz.zeroValue100
 i26 := by kernel_rfl }
def Tryz.keysK_ren : Go.Shelf.Ren := ⟨fun | 10 => 72 | n => n, fun | 33 => 135 | 23 => 89 | 0 => 0 | 4 => 4 | 26 => 3 | 3 => 4 | n => n, fun | n => n⟩
theorem Tryz.keysK : Go.Proofs.SlLaysZI.n10 Tryz.prog Tryz.keysK_ren := {
 mixed := by kernel_rfl
 f10 := ⟨Tryz.f72.name, by decide, Tryz.func72.trans (congrArg some (by kernel_rfl))⟩
 t0 := Tryz.underlying0
 a0 := Tryz.isAgg0
 z0 := Tryz.sizeOf0
 v0 := Tryz.zeroValue0
 t4 := Tryz.underlying4
 a4 := Tryz.isAgg4
 z4 := Tryz.sizeOf4
 v4 := Tryz.zeroValue4
 t23 := Tryz.underlying89
 a23 := Tryz.isAgg89
 z23 := Tryz.sizeOf89
 v23 := Tryz.zeroValue89
 t26 := Tryz.underlying3
 a26 := Tryz.isAgg3
 z26 := Tryz.sizeOf3
 v26 := Tryz.zeroValue3
 t33 := Tryz.underlying135
 a33 := Tryz.isAgg135
 z33 := Tryz.sizeOf135
 v33 := Tryz.zeroValue135 }
end Go.Proofs
end
section
namespace Px
open Go
set_option linter.unusedVariables false
set_option linter.unusedSimpArgs false
theorem y7j {σ ρ : Type} (L : Nat -> Int -> σ -> Option ρ) (len : Nat) (Inv : Nat -> σ -> Prop) (G : Option ρ -> Prop)
  (step : ∀ n i s, i < len -> Inv i s -> (∀ s', Inv (i + 1) s' -> G (L n ((i : Int) + 1) s')) -> G (L (n + 1) i s))
  (done : ∀ n s, Inv len s -> G (L (n + 1) len s)) : ∀ n i s, i <= len -> Inv i s -> len - i < n -> G (L n i s) := by
 intro n
 induction n with
 | zero => intro i s _ _ h; omega
 | succ n ih =>
  intro i s hi hI hn
  by_cases h : i = len
  ·subst h; exact done n s hI
  ·refine step n i s (by omega) hI fun s' hs' => ?_
   have := ih (i + 1) s' (by omega) hs' (by omega)
   simpa using this
theorem zlc {σ ρ : Type} (L : Nat -> Int -> σ -> Option ρ) (len : Nat) (Inv : Nat -> σ -> Prop) (G : Option ρ -> Prop)
  (step : ∀ n i s, i < len -> Inv i s -> (∀ s', Inv (i + 1) s' -> G (L n ((i : Int) + 1) s')) -> G (L (n + 1) i s))
  (done : ∀ n s, Inv len s -> G (L (n + 1) len s)) (n : Nat) (s : σ) (h : Inv 0 s) (hn : len < n) : G (L n 0 s) := by
 simpa using y7j L len Inv G step done n 0 s (Nat.zero_le _) h (by omega)
theorem yby (x : Int) : W x = if x % 18446744073709551616 >= 9223372036854775808 then x % 18446744073709551616 - 18446744073709551616 else x % 18446744073709551616 := by
 simp [W, IntKind.wrap, IntKind.bits, IntKind.signed]
theorem yb6 (x : Int) : U x = x % 18446744073709551616 := by
 simp [U, IntKind.wrap, IntKind.bits, IntKind.signed]
theorem W_id {x : Int} (h : -9223372036854775808 <= x) (h' : x <= 9223372036854775807) : W x = x := by
 rw [yby]; split <;> omega
theorem U_id {x : Int} (h : 0 <= x) (h' : x <= 18446744073709551615) : U x = x := by
 rw [yb6]; omega
theorem zov {α : Type} [Inhabited α] (ok : α -> Bool) (l : List α) (i : Nat) (h : i < l.length) : (l.take (i + 1)).all ok = ((l.take i).all ok && ok (gt l (i : Int))) := by
 rw [List.take_succ_eq_append_getElem h, List.all_append]
 simp [gt, h]
theorem zq2 {α : Type} [Inhabited α] (ok : α -> Bool) (l : List α) (i : Nat) (h : i < l.length) : (l.take (i + 1)).any ok = ((l.take i).any ok || ok (gt l (i : Int))) := by
 rw [List.take_succ_eq_append_getElem h, List.any_append]
 simp [gt, h]
theorem zql {α : Type} [Inhabited α] (l : List α) (i : Nat) (h : i < l.length) : l.take (i + 1) = l.take i ++ [gt l (i : Int)] := by
 rw [List.take_succ_eq_append_getElem h]
 simp [gt, h]
theorem zmu {α : Type} [Inhabited α] {l : List α} {i : Int} (h0 : 0 <= i) (h : i < (l.length : Int)) : gt l i ∈ l := by
 have hlt : i.toNat < l.length := by omega
 simp [gt, hlt]
theorem zod {α : Type} [Inhabited α] {l : List α} {i : Nat} (h : i < l.length) : gt l (i : Int) = l[i] := by
 simp [gt, h]
theorem zdm {α : Type} [Inhabited α] (l m : List α) (j : Int) (h0 : 0 <= j) (h : j < (l.length : Int)) : gt (l ++ m) j = gt l j := by
 have : j.toNat < l.length := by omega
 simp [gt, List.getD, List.getElem?_append, this]
theorem z8z {α : Type} [Inhabited α] (l m : List α) (j : Int) (h : (l.length : Int) <= j) : gt (l ++ m) j = gt m (j - l.length) := by
 have : ¬ j.toNat < l.length := by omega
 have e : (j - l.length).toNat = j.toNat - l.length := by omega
 simp [gt, List.getD, List.getElem?_append, this, e]
theorem zhb {α σ ρ : Type} [Inhabited α] (L : Nat -> Int -> σ -> Option ρ) (k : σ -> Option ρ) (l : List α) (f : σ -> α -> σ) (Inv : Nat -> σ -> Prop)
  (step : ∀ (n i : Nat) (s : σ), i < l.length -> Inv i s -> L (n + 1) i s = L n ((i : Int) + 1) (f s (gt l i)) /\ Inv (i + 1) (f s (gt l i))) (done : ∀ n s, Inv l.length s -> L (n + 1) l.length s = k s)
  (n : Nat) (s : σ) (h0 : Inv 0 s) (hn : l.length < n) : L n 0 s = k (l.foldl f s) /\ Inv l.length (l.foldl f s) := by
 refine zlc L l.length (fun i t => t = (l.take i).foldl f s /\ Inv i t) (fun o => o = k (l.foldl f s) /\ Inv l.length (l.foldl f s)) ?_ ?_ n s ⟨by simp, h0⟩ hn
 ·intro n i t hi ⟨ht, hI⟩ hs
  rw [(step n i t hi hI).1]
  refine hs _ ⟨?_, (step n i t hi hI).2⟩
  rw [zql l i hi, List.foldl_append, <- ht]; rfl
 ·intro n t ⟨ht, hI⟩
  rw [List.take_length] at ht
  subst ht
  exact ⟨done n _ hI, hI⟩
end Px
end
section
namespace Px
open Go
set_option linter.unusedVariables false
set_option linter.unusedSimpArgs false
theorem zmj {a b : Int} : cmpI a b < 0 ↔ a < b := by unfold cmpI; (repeat' split) <;> omega
theorem zsj {a b : Int} : cmpI a b = 0 ↔ a = b := by unfold cmpI; (repeat' split) <;> omega
theorem zx2 {a b : Int} : or2 a b < 0 ↔ a < 0 \/ (a = 0 /\ b < 0) := by unfold or2; split <;> omega
theorem z4w {a b : Part} : za2 a b < 0 ↔ a.kind < b.kind \/ (a.kind = b.kind /\ a.serial < b.serial) := by
 unfold za2; rw [zx2, zmj, zmj, zsj]
theorem zwe : Sort.SWO (Proofs.ltOf fun a b : {y : Part // (fun _ : Part => true) y = true} => za2 a.1 b.1) where
 irrefl := fun x => by simp only [Proofs.ltOf, decide_eq_false_iff_not]; rw [z4w]; omega
 trans := fun x y z h1 h2 => by simp only [Proofs.ltOf, decide_eq_true_eq] at *; rw [z4w] at *; omega
 ntrans := fun x y z h1 h2 => by simp only [Proofs.ltOf, decide_eq_false_iff_not] at *; rw [z4w] at *; omega
theorem zj5 (φ : Nat) (a b : Int) : z14 φ a b = some (cmpI a b, ()) := by
 unfold z14 cmpI
 simp only [bne_self_eq_false, Bool.false_eq_true, if_false, decide_eq_true_eq]
 split
 ·rfl
 ·split <;> rfl
theorem y7p (φ : Nat) (h : 3 <= φ) (a b : Int) : zgc φ [a, b] = some (or2 a b, ()) := by
 obtain ⟨n, rfl⟩ : ∃ n, φ = n + 3 := ⟨φ - 3, by omega⟩
 unfold zgc or2
 simp only [zho, List.length_cons, List.length_nil]
 have w : ∀ x : Int, 0 <= x -> x < 100 -> W (x + 1) = x + 1 := fun x h1 h2 => W_id (by omega) (by omega)
 have g0 : gt [a, b] 0 = a := rfl
 have g1 : gt [a, b] 1 = b := rfl
 rw [w 0 (by omega) (by omega), show (0 : Int) + 1 = 1 by rfl, w 1 (by omega) (by omega), show (1 : Int) + 1 = 2 by rfl, g0, g1]
 simp [ck]
 repeat' (split; try rfl)
 all_goals simp_all
theorem zt5 (a b : Part) : zb2 10 a b = some (za2 a b, ()) := by
 unfold zb2 za2
 simp only [zj5, Option.bind_some]
 rw [y7p 10 (by omega)]
 rfl
theorem zw3 {α : Type} {ok : α -> Bool} {cf : α -> α -> Int} (ho : ∀ a b c, cf a b >= 0 -> cf b c >= 0 -> cf a c >= 0) (hi : ∀ a, cf a a >= 0) (ht : ∀ a b c, cf a b < 0 -> cf b c < 0 -> cf a c < 0) {l l' : List α} (p : l.Perm l') : zjw ok cf l = zjw ok cf l' := by
 have hs : Sort.SWO (fun a b : α => decide (cf a b < 0)) :=
  ⟨fun a => by have := hi a; simp; omega, fun a b c h1 h2 => by simp at *; exact ht a b c h1 h2, fun a b c h1 h2 => by simp at *; exact ho a b c h1 h2⟩
 have key : ∀ l l' r : List α, l.Perm l' -> zjw ok cf l = some r -> zjw ok cf l' = some r := by
  intro l l' r p h
  obtain ⟨h1, h2, h3, rfl⟩ := zrq h
  have h3' : l.Pairwise fun a b => cf a b < 0 \/ cf b a < 0 := h3.imp fun h => by simpa using h
  rw [zvw (fun y hy => h1 y (p.mem_iff.2 hy)) (by rw [<- p.length_eq]; exact h2) ((p.pairwise_iff (fun {a b} h => h.symm)).1 h3')]
  rw [zo9 (l := l) h3 ((z3y _ _).trans p.symm) (z3y _ _) (z74 hs _) (z74 hs _)]
 cases h : zjw ok cf l with
 | some r => exact (key l l' r p h).symm
 | none =>
  cases h' : zjw ok cf l' with
  | none => rfl
  | some r => rw [key l' l r p.symm h'] at h; cases h
theorem zp1 {l l' : List Part} (p : l.Perm l') : zft l = zft l' := by
 have hlt : ∀ a b : Part, za2 a b >= 0 -> ¬ (a.kind < b.kind \/ (a.kind = b.kind /\ a.serial < b.serial)) := fun a b h q => by have := z4w.2 q; omega
 have hge : ∀ a b : Part, ¬ (a.kind < b.kind \/ (a.kind = b.kind /\ a.serial < b.serial)) -> za2 a b >= 0 := fun a b h => Int.not_lt.1 fun q => h (z4w.1 q)
 refine zw3 (fun a b c h1 h2 => ?_) (fun a => hge a a (by omega)) (fun a b c h1 h2 => ?_) p
 ·have := hlt _ _ h1
  have := hlt _ _ h2
  exact hge _ _ (by omega)
 ·rw [z4w] at *; omega
theorem zgy (φ : Nat) : ∀ (n : Nat) (w : Int) (p p' : List Part) (rem : List (z1 × List (Int × Bool))), p.Perm p' -> zg φ n w p rem = zg φ n w p' rem
 | 0, w, p, p', rem, h => rfl
 | n + 1, w, p, p', [], h => by simp only [zg, zx, zp1 h]
 | n + 1, w, p, p', e :: r, h => by
  simp only [zg, zx, zu, Option.bind_some, h.length_eq]
  rw [zgy φ n w p p' r h, zgy φ n w _ _ r (h.append_right [_])]
theorem zna (φ : Nat) {rem rem' : List (z1 × List (Int × Bool))} (h : rem.Perm rem') : ∀ (n : Nat) (w : Int) (p : List Part), zg φ n w p rem = zg φ n w p rem' := by
 induction h with
 | nil => intros; rfl
 | cons e h ih =>
  intro n w p
  cases n with
  | zero => rfl
  | succ n => simp only [zg, zx, zu, Option.bind_some]; rw [ih n w p, ih n w (p ++ _)]
 | swap a b r =>
  intro n w p
  match n with
  | 0 => rfl
  | 1 =>
   simp only [zg, zx, zu, Option.bind_some, ck]
   repeat' split
   all_goals rfl
  | n + 2 =>
   simp only [zg, zx, zu, Option.bind_some]
   cases hb : (((b.2.length : Int) == 1) && ((cget kl_0 b.2 w).getD default)) <;> cases ha : (((a.2.length : Int) == 1) && ((cget kl_0 a.2 w).getD default))
   ·simp
   ·simp
   ·simp
   ·simp only [if_true, List.append_assoc, List.cons_append, List.nil_append]
    have h := zgy φ n w (p ++ [⟨b.1.kind, b.1.serial, true⟩, ⟨a.1.kind, a.1.serial, true⟩]) (p ++ [⟨a.1.kind, a.1.serial, true⟩, ⟨b.1.kind, b.1.serial, true⟩]) r (List.Perm.append_left p (List.Perm.swap _ _ _))
    simp only [List.length_append, List.length_cons, List.length_nil]
    rw [h]
 | trans h1 h2 ih1 ih2 => intro n w p; rw [ih1, ih2]
theorem zky (φ : Nat) {rem rem' : List (Int × Bool)} (h : rem.Perm rem') (hd : Ndp kl_0 rem) (k20) : ∀ (n : Nat) (a b c d e f g i) (m : List (Int × Bool)), Srt' kl_0 m -> z04 φ k20 n a b c d e f g i m rem = z04 φ k20 n a b c d e f g i m rem' := by
 induction h with
 | nil => intros; rfl
 | cons x h ih =>
  intro n a b c d e f g i m hm
  cases n with
  | zero => rfl
  | succ n => simp only [z04, z2g]; exact ih (List.pairwise_cons.1 hd).2 n _ _ _ _ _ _ _ _ _ (hm.set _ _)
 | swap x y r =>
  intro n a b c d e f g i m hm
  have hne : kl_0 y.1 ≠ kl_0 x.1 := (List.pairwise_cons.1 hd).1 x (by simp)
  match n with
  | 0 => rfl
  | 1 => rfl
  | n + 2 =>
   simp only [z04, z2g]
   rw [zyh hm hne]
 | trans h1 h2 ih1 ih2 => intro n a b c d e f g i m hm; rw [ih1 hd n _ _ _ _ _ _ _ _ m hm, ih2 (hd.perm h1) n _ _ _ _ _ _ _ _ m hm]
end Px
end
section
namespace Px
open Go Go.RowKit
set_option linter.unusedVariables false
set_option linter.unusedSimpArgs false
section
variable {κ ν : Type} {e : κ -> List Int} {num : κ -> Int}
theorem zzr (he : ∀ k, e k = [num k]) {m : List (κ × ν)} (h : Srt' e m) : (m.map fun p => num p.1).Pairwise fun a b => a < b := by
 rw [List.pairwise_map]
 refine List.Pairwise.imp (fun {a b} hab => ?_) h
 rw [he, he] at hab
 simp only [ltI] at hab
 cases hd : decide (num a.1 < num b.1) with
 | true => exact of_decide_eq_true hd
 | false =>
  rw [hd] at hab
  simp only [cond_false] at hab
  cases hb : (num a.1 == num b.1) with
  | true => rw [hb] at hab; simp at hab
  | false => rw [hb] at hab; simp at hab
theorem y0n {ss l : List Int} (hp : ss.Perm l) (hl : l.Pairwise fun a b => a < b) : ss.mergeSort (fun x y => decide (x <= y)) = l := by
 refine List.Perm.eq_of_pairwise (le := fun a b : Int => a <= b) (fun a b _ _ h1 h2 => by omega) ?_ (hl.imp fun h => by omega) ((List.mergeSort_perm _ _).trans hp)
 have := List.pairwise_mergeSort (le := fun x y : Int => decide (x <= y)) (by intro a b c h1 h2; simp at *; omega) (by intro a b; simp; omega) ss
 exact this.imp fun h => by simpa using h
theorem y8c {P : Program} {kt : TypeId} {eK : κ -> Value} {eV : ν -> Value} {w : World} {b : Nat} {m : List (κ × ν)} (hk : P.underlying kt = some (.int .i64)) (he : ∀ k, e k = [num k]) (hK : ∀ k, eK k = .int .i64 (num k))
  (hin : ∀ p ∈ m, -9223372036854775808 <= num p.1 /\ num p.1 < 9223372036854775808) (hl : m.length <= 17592186044416) (h : CM w b e eK eV m) :
  ∃ D0 : DataW Unit, w.ownsMap P kt (fun _ => some (.lit (.bool false), [])) b m.length D0 /\ Maps.size D0 = m.length /\ (intKeys D0).Perm (m.map fun p => num p.1) := by
 obtain ⟨hs, es, clock, m', h1, h2, h3, h4⟩ := h
 have hlen : es.toList.length = m.length := by
  have := congrArg List.length h4
  simp only [List.length_map] at this
  rw [this, h3.length_eq]
 have hkeys : es.toList.map (·.key) = m'.map fun p => Value.int .i64 (num p.1) := by
  have := congrArg (List.map (·.1)) h4
  simpa [Function.comp_def, hK] using this
 have hmem : ∀ x ∈ es.toList, ∃ n, x.key = .int .i64 n /\ -9223372036854775808 <= n /\ n < 9223372036854775808 := by
  intro x hx
  have : x.key ∈ es.toList.map (·.key) := List.mem_map.2 ⟨x, hx, rfl⟩
  rw [hkeys] at this
  obtain ⟨p, hp, e1⟩ := List.mem_map.1 this
  exact ⟨_, e1.symm, hin p (h3.mem_iff.1 hp)⟩
 have hrd : ∀ n : Int, -9223372036854775808 <= n -> n < 9223372036854775808 -> keyOf P kt (.int .i64 n) = some (.int .i64 n) := by
  intro n ha hb
  have hw : (Lit.int .i64 n).wf = true := by
   simp only [Lit.wf, Bool.and_eq_true, decide_eq_true_eq]
   have e1 : IntKind.i64.min = -9223372036854775808 := rfl
   have e2 : IntKind.i64.max = 9223372036854775807 := rfl
   rw [e1, e2]; omega
  simp [keyOf, hk, mapKey, hw]
 have hrd2 : ∀ x ∈ es.toList, ∀ n, x.key = .int .i64 n -> WideElems.rd P kt (fun _ => some ((.lit (.bool false) : DataW Unit), [])) x = some (.int .i64 n, .lit (.bool false)) := by
  intro x hx n hn
  obtain ⟨n', e1, ha, hb⟩ := hmem x hx
  rw [hn] at e1
  cases e1
  simp [WideElems.rd, hn, hrd n ha hb]
 have hints : es.toList.map (fun x => Go.intOf (WideElems.rg P kt (fun _ => some ((.lit (.bool false) : DataW Unit), [])) x).1) = m'.map fun p => num p.1 := by
  have e1 : es.toList.map (fun x => Go.intOf (WideElems.rg P kt (fun _ => some ((.lit (.bool false) : DataW Unit), [])) x).1) = (es.toList.map (·.key)).map fun v => match v with | .int _ n => n | _ => 0 := by
   rw [List.map_map]
   refine List.map_congr_left fun x hx => ?_
   obtain ⟨n, e1, _⟩ := hmem x hx
   simp only [WideElems.rg, hrd2 x hx n e1, Option.getD_some, Function.comp, e1, Go.intOf]
  rw [e1, hkeys, List.map_map]
  rfl
 refine ⟨.map ((es.toList.map (WideElems.rg P kt fun _ => some (.lit (.bool false), []))).foldr DataW.insert []), ⟨es, clock, h1, ⟨?_, ⟨h2.lt, h2.nd, ?_⟩, fun x hx => ?_⟩, ?_, rfl⟩, ?_, ?_⟩
 ·have : es.size = m.length := by simpa using hlen
  unfold maxLen; omega
 ·rw [hkeys]
  have h5 := zzr (num := num) he hs
  have h6 : (m'.map fun p => num p.1).Nodup := (h3.map (fun p : κ × ν => num p.1)).nodup_iff.2 (List.Pairwise.imp (fun {a b} h => by omega) h5)
  have h7 : (m'.map fun p => Value.int .i64 (num p.1)) = (m'.map fun p => num p.1).map (Value.int .i64) := by rw [List.map_map]; rfl
  rw [h7]
  exact List.pairwise_map.2 (List.Pairwise.imp (fun {a b} h q => h (by cases q; rfl)) h6)
 ·obtain ⟨n, e1, _⟩ := hmem x hx
  exact ⟨_, hrd2 x hx n e1⟩
 ·have : es.size = m.length := by simpa using hlen
  omega
 ·rw [Maps.size_eq, (WideShapes.sorted_perm _).length_eq]
  simpa using hlen
 ·show (List.map (fun p : Lit × DataW Unit => Go.intOf p.1) _).Perm _
  refine ((WideShapes.sorted_perm _).map _).trans ?_
  rw [List.map_map]
  show (es.toList.map (fun x => Go.intOf (WideElems.rg P kt (fun _ => some ((.lit (.bool false) : DataW Unit), [])) x).1)).Perm _
  rw [hints]
  exact h3.map _
end
open Proofs in
theorem yba {V : TE} {P : Program} {ρ σ τ : Shelf.Ren} (L : SlLaysZI.n6 P ρ) (K : SlLaysZI.n10 P σ) (S : Lays.n189 P τ) {kc vc E : Nat} (num : V.T kc -> Int) (hl : ∀ k, V.kl kc k = [num k]) (hv : ∀ k, V.kv kc k = .int .i64 (num k)) (hev : ∀ k, V.ev kc k = [iv .i64 (num k)]) (hsz : V.sz kc = 1)
  (h9 : ρ.f 9 = τ.f 189) (h26 : ρ.t 26 = E) (e9 : ∀ args w, (callFunc (ρ.f 9) args).run P w = .ok (.enter (ρ.f 9) args) w) (eg : ∀ args w, (callFunc (σ.f 10) args).run P w = .ok (.enter (σ.f 10) args) w) : SoOK V P (ρ.f 6) ⟨σ.f 10, kc, vc, E⟩ := by
 intro m hm
 simp only [soK, Bool.and_eq_true, List.all_eq_true] at hm
 obtain ⟨hin, hlen⟩ := hm
 have hlen := Nat.le_of_ble_eq_true hlen
 have hin : ∀ p ∈ m, -9223372036854775808 <= num p.1 /\ num p.1 < 9223372036854775808 := by
  intro p hp
  have := hin p hp
  rw [hl] at this
  simpa [inI] using this
 intro r w vs hr hsize hA
 obtain ⟨caps, hfn, hc1, hc2⟩ := hA 0 _ rfl
 obtain ⟨Bm, hcap, hrB, hcell⟩ := hc2 0 _ rfl
 obtain ⟨u, hu, hmap, _⟩ := hcell 0 _ rfl
 have hcaps : caps = #[.pointer (some ⟨Bm, 0, none⟩)] := by
  refine Array.ext (by simpa using hc1) fun i h1 h2 => ?_
  have : i = 0 := by simp at h2; omega
  subst this
  rw [<- hcap]; simp [Array.getD_eq_getD_getElem?, h1]
 subst hcaps
 have hvs : vs = #[.func (.func (σ.f 10)) #[] #[.pointer (some ⟨Bm, 0, none⟩)]] := by
  refine Array.ext (by simpa using hsize) fun i h1 h2 => ?_
  have : i = 0 := by simp at h2; omega
  subst this
  rw [<- hfn]; simp [Array.getD_eq_getD_getElem?, h1]
 subst hvs
 have hBm := hr Bm hrB
 have hsorts : AnyZI.SortsIn P ρ Fence.wide 4 := by
  refine ⟨fun blk off cap ss W hH hb hs => callsIn_wide.2 ?_, fun p cap W => callsIn_wide.2 ?_⟩
  ·rw [h9]; exact Any.slices_Sort_int S blk off cap ss W hH hb hs
  ·rw [h9]; exact Any.slices_Sort_int_none S p cap W
 have fin : ∀ (Sq : List Int -> Prop), (∀ ss, Sq ss -> ss.Perm (m.map fun p => num p.1)) -> (m.map fun p => num p.1).Pairwise (fun a b => a < b) -> SeqGives Fence.wide 2 P (σ.f 10) #[.pointer (some ⟨Bm, 0, none⟩)] encZ Sq m.length w ->
   Calls P (ρ.f 6) #[.func (.func (σ.f 10)) #[] #[.pointer (some ⟨Bm, 0, none⟩)]] w (retR w w.heap.size r w fun x news => ∃ sv, x = eqv sv /\ news = [row E (V.ev kc) (V.sz kc) (m.map (·.1)) sv]) := by
  intro Sq hSq hlt hseq
  have cS := AnyZI.sorted_in L Fence.wide 5 trivial trivial trivial trivial rfl (by omega) hsorts e9 (σ.f 10) #[.pointer (some ⟨Bm, 0, none⟩)] trivial eg Sq m.length (by unfold maxLen; omega) (by omega) w hseq
  refine (callsIn_wide.1 cS).mono ?_
  rintro e w' ⟨v, ss, rfl, hS, hrow, hnil, hb⟩
  have hms := y0n (hSq ss hS) hlt
  have hsl : ss.length = m.length := by rw [(hSq ss hS).length_eq, List.length_map]
  rw [hms] at hrow
  refine ⟨v, eqv v, [row E (V.ev kc) (V.sz kc) (m.map (·.1)) v], r, fun j b => j = 0 /\ v.ownBlock = some b, rfl, ⟨fun _ h => h, fun b hb' => hb.block b (hr b hb'), fun _ h => .inl h⟩, ⟨⟨hb, fun h => (h : False).elim⟩, hb.size, ?_, ?_, ?_, fun b hb' => Nat.lt_of_lt_of_le (hr b hb') hb.size⟩, rfl, v, rfl, rfl⟩
  ·intro i H hi
   cases i with
   | succ i => simp at hi
   | zero =>
    simp only [List.getElem?_cons_zero, Option.some.injEq] at hi
    subst hi
    rcases hrow.2 with ⟨h1, h2⟩ | ⟨g, cap, cur, h1, h2, h3, h4, h5, h6, h7⟩
    ·exact .inl ⟨h1, by rw [List.map_eq_nil_iff]; exact List.length_eq_zero_iff.1 (by omega)⟩
    ·refine .inr ⟨g, cap, cur, ?_, ⟨rfl, by rw [h1]; rfl⟩, ?_, ?_, h5, ?_, ?_⟩
     ·rw [h1, List.length_map, hsl]
     ·rw [<- h26]; exact h3
     ·rw [List.length_map]; omega
     ·rw [hsz]; exact h6
     ·rw [List.length_map, hsz, <- hsl, h7]
      have e1 : (m.map (·.1)).flatMap (V.ev kc) = ((m.map fun p => num p.1).map encZ).map eqv := by
       rw [List.map_map, List.map_map, List.flatMap_map]
       have : ∀ l : List (V.T kc × V.T vc), l.flatMap (fun a => V.ev kc a.1) = l.map ((eqv ∘ encZ) ∘ fun p => num p.1) := by
        intro l
        induction l with
        | nil => rfl
        | cons a l ih => rw [List.flatMap_cons, ih, hev]; rfl
       exact this m
      rw [e1]
      exact zj1 fun v hv => by
       obtain ⟨n, _, rfl⟩ := List.mem_map.1 hv
       rfl
  ·rintro i b ⟨rfl, hb'⟩
   rcases hrow.2 with ⟨h1, _⟩ | ⟨g, cap, cur, h1, h2, h3, _⟩
   ·rw [h1] at hb'; cases hb'
   ·rw [h1] at hb'
    cases hb'
    exact ⟨by simp, h2, (Array.getElem?_eq_some_iff.1 h3).1, fun q => Nat.lt_irrefl _ (Nat.lt_of_lt_of_le (hr _ q) h2)⟩
  ·rintro i j b ⟨rfl, _⟩ ⟨rfl, _⟩; rfl
 rcases hmap with ⟨rfl, rfl⟩ | ⟨b, t, rfl, hmt, hrb, hCM, _⟩
 ·refine fin (fun ss => ss = []) (fun ss h => by subst h; exact List.Perm.refl _) List.Pairwise.nil ?_
  exact AnyZI.keys_gives_nil { K with } Fence.wide _ trivial rfl Bm w hBm hu
 ·have hnum : (t.map fun p => num p.1) = m.map fun p => num p.1 := by rw [<- hmt, List.map_map]; rfl
  have htl : t.length = m.length := by rw [<- hmt, List.length_map]
  obtain ⟨D0, h1, h2, h3⟩ := y8c (num := num) K.t26 hl hv (fun p hp => hin (p.1, p.2.1) (by rw [<- hmt]; exact List.mem_map.2 ⟨p, hp, rfl⟩)) (by omega) hCM
  refine fin (fun ss => ss.Perm (intKeys D0)) (fun ss h => by rw [<- hnum]; exact h.trans h3) (by rw [<- hnum]; exact zzr hl hCM.1) ?_
  have := AnyZI.keys_gives { K with } Fence.wide 2 trivial rfl (by omega) Bm b _ D0 w hBm hu h1
  rw [h2, htl] at this
  exact this
end Px
end
section
set_option linter.unusedVariables false
set_option linter.unusedSimpArgs false
set_option maxHeartbeats 4000000
set_option maxRecDepth 100000
namespace Px
open Go Go.RowKit Go.Proofs
def zbq (φ : Nat) : H TV (RTup TT [.val 2]) := .x
def zee (P : Program) (φ : Nat) : Env TV := ⟨P, lk [], lk [], lk [], lk []⟩
theorem zqg (φ : Nat) (a) : (zbz φ).F a = fnX TV (zee Tryz.prog φ) φ Tryz.f26 [0, 1] [.val 2] (zbq φ) a := by kernel_rfl
theorem zs3 (φ : Nat) : fnO TV (zee Tryz.prog φ) φ Tryz.f26 [.val 2] (zbq φ) := by
 unfold fnO
 show obl _ _ _ _ _ _ _
 unfold zbq
 repeat' (first | exact trivial | (refine ⟨?_, ?_⟩) | (intro _) | kernel_rfl)
theorem zjq [Dr] (φ : Nat) : z21 TV Tryz.prog 26 (zbz φ) :=
 z36 (N := zee Tryz.prog φ) (zl trivial trivial trivial trivial) (zbq φ) Tryz.func26 (by kernel_rfl) (zqg φ) (zs3 φ)
def z6f (φ : Nat) : H TV (RTup TT [.val 7]) := .x
def z9j (P : Program) (φ : Nat) : Env TV := ⟨P, lk [], lk [], lk [], lk []⟩
theorem zkh (φ : Nat) (a) : (z9r φ).F a = fnX TV (z9j Tryz.prog φ) φ Tryz.f25 [0, 0, 0, 2] [.val 7] (z6f φ) a := by kernel_rfl
theorem zk0 (φ : Nat) : fnO TV (z9j Tryz.prog φ) φ Tryz.f25 [.val 7] (z6f φ) := by
 unfold fnO
 show obl _ _ _ _ _ _ _
 unfold z6f
 repeat' (first | exact trivial | (refine ⟨?_, ?_⟩) | (intro _) | kernel_rfl)
theorem zke [Dr] (φ : Nat) : z21 TV Tryz.prog 25 (z9r φ) :=
 z36 (N := z9j Tryz.prog φ) (zl trivial trivial trivial trivial) (z6f φ) Tryz.func25 (by kernel_rfl) (zkh φ) (zk0 φ)
def z0k (φ : Nat) : H TV (List (TT 7)) := (.seq .x (.body (.loop ⟨[(53, [(0, .own 0), (1, .val 0), (2, .val 0), (3, .cmp 7), (8, .val 0)]), (1, [(0, .own 0)])], [.row 57 7]⟩ (fun n z => z1p φ n z.1 z.2.1 z.2.2.1 z.2.2.2.1 z.2.2.2.2.1) (fun zk10 => (.seq .x (.seq (.body (.seq .x (.body (.loop ⟨[(53, [(0, .own 0), (1, .val 0), (2, .val 0), (3, .cmp 7), (8, .val 0), (9, .val 0)]), (1, [(0, .own 0)])], [.row 57 7]⟩ (fun n z => z1j φ (fun a0 a1 a2 a3 a4 => zk10 (a0, a1, a2, a3, a4, ())) n z.1 z.2.1 z.2.2.1 z.2.2.2.1 z.2.2.2.2.1 z.2.2.2.2.2.1) (fun zk17 => .x))))) .x))))))
def z2l (P : Program) (φ : Nat) : Env TV := ⟨P, lk [], lk [], lk [], lk []⟩
theorem z95 (φ : Nat) (l a) : (z2m φ).F l a = fnM TV (z2l Tryz.prog φ) φ Tryz.f114 57 7 [.val 0, .val 0, .cmp 7] (z0k φ) l a := by kernel_rfl
theorem z9t (φ : Nat) : fnMO TV (z2l Tryz.prog φ) φ Tryz.f114 57 7 (z0k φ) := by
 unfold fnMO
 show obl _ _ _ _ _ _ _
 unfold z0k
 repeat' (first | exact trivial | (refine ⟨?_, ?_⟩) | (intro _) | kernel_rfl)
theorem z9v [Dr] (φ : Nat) : zal TV Tryz.prog 114 (z2m φ) := z86 (N := z2l Tryz.prog φ) (zl trivial trivial trivial trivial) (z0k φ) Tryz.func114 (by kernel_rfl) (z95 φ) (z9t φ)
def z1s (φ : Nat) : H TV (List (TT 7)) := (.seq .x (.body (.loop ⟨[(38, [(0, .own 0), (1, .val 0), (2, .val 0), (3, .val 0), (10, .val 0)]), (1, [(0, .own 0)])], [.row 57 7]⟩ (fun n z => z3h φ n z.1 z.2.1 z.2.2.1 z.2.2.2.1 z.2.2.2.2.1) (fun zk11 => .x))))
def z4b (P : Program) (φ : Nat) : Env TV := ⟨P, lk [], lk [], lk [], lk []⟩
theorem zc7 (φ : Nat) (l a) : (z4d φ).F l a = fnM TV (z4b Tryz.prog φ) φ Tryz.f173 57 7 [.val 0, .val 0, .val 0, .cmp 7] (z1s φ) l a := by kernel_rfl
theorem zcn (φ : Nat) : fnMO TV (z4b Tryz.prog φ) φ Tryz.f173 57 7 (z1s φ) := by
 unfold fnMO
 show obl _ _ _ _ _ _ _
 unfold z1s
 repeat' (first | exact trivial | (refine ⟨?_, ?_⟩) | (intro _) | kernel_rfl)
theorem zcs [Dr] (φ : Nat) : zal TV Tryz.prog 173 (z4d φ) := z86 (N := z4b Tryz.prog φ) (zl trivial trivial trivial trivial) (z1s φ) Tryz.func173 (by kernel_rfl) (zc7 φ) (zcn φ)
def z3j (φ : Nat) : H TV (List (TT 7)) := (.seq .x (.seq .x (.seq (.body (.loop ⟨[(58, [(0, .own 0), (2, .val 0), (4, .cmp 7), (10, .val 0), (11, .val 0)]), (1, [(0, .own 0)])], [.row 57 7]⟩ (fun n z => z2j φ n z.1 z.2.1 z.2.2.1 z.2.2.2.1 z.2.2.2.2.1) (fun zk11 => .x))) .x)))
def z4z (P : Program) (φ : Nat) : Env TV := ⟨P, lk [], lk [(173, z4d φ)], lk [], lk []⟩
theorem ze4 (φ : Nat) (l a) : (z56 φ).F l a = fnM TV (z4z Tryz.prog φ) φ Tryz.f155 57 7 [.val 0, .val 0, .val 0, .cmp 7] (z3j φ) l a := by kernel_rfl
theorem ze8 (φ : Nat) : fnMO TV (z4z Tryz.prog φ) φ Tryz.f155 57 7 (z3j φ) := by
 unfold fnMO
 show obl _ _ _ _ _ _ _
 unfold z3j
 repeat' (first | exact trivial | (refine ⟨?_, ?_⟩) | (intro _) | kernel_rfl)
theorem ze7 [Dr] (φ : Nat) : zal TV Tryz.prog 155 (z56 φ) := z86 (N := z4z Tryz.prog φ) (zl trivial ⟨(zcs φ), trivial⟩ trivial trivial) (z3j φ) Tryz.func155 (by kernel_rfl) (ze4 φ) (ze8 φ)
def z2i (φ d : Nat) : H TV (List (TT 7)) := (.seq (.seq .x (.cond (.seq .x (.seq .x (.seq (.body (.loop ⟨[(220, [(0, .own 0), (1, .val 0), (4, .cmp 7), (10, .val 0), (11, .val 0)]), (1, [(0, .own 0)])], [.row 57 7]⟩ (fun n z => z1c φ n z.1 z.2.1 z.2.2.1 z.2.2.2.1 z.2.2.2.2.1) (fun zk11 => .x))) (.seq (.seq .x (.body (.loop ⟨[(220, [(0, .own 0), (10, .val 0), (13, .val 0)]), (1, [(0, .own 0)])], [.row 57 7]⟩ (fun n z => z3k φ n z.1 z.2.1 z.2.2.1) (fun zk16 => .x)))) .x)))) .x)) (.seq (.seq .x (.cond (.seq .x (.seq .x (.seq (.body (.loop ⟨[(220, [(0, .own 0), (2, .val 0), (4, .cmp 7), (14, .val 0), (15, .val 0)]), (1, [(0, .own 0)])], [.row 57 7]⟩ (fun n z => z1a φ n z.1 z.2.1 z.2.2.1 z.2.2.2.1 z.2.2.2.2.1) (fun zk22 => .x))) (.seq (.seq .x (.body (.loop ⟨[(220, [(0, .own 0), (14, .val 0), (17, .val 0)]), (1, [(0, .own 0)])], [.row 57 7]⟩ (fun n z => z3v φ n z.1 z.2.1 z.2.2.1) (fun zk27 => .x)))) .x)))) .x)) (.seq .x (.seq .x (.seq .x (.seq (.join ⟨[(220, [(0, .own 0), (1, .val 0), (2, .val 0), (3, .val 0), (4, .cmp 7), (18, .val 0), (19, .val 0), (20, .val 0), (21, .val 0)]), (1, [(0, .own 0)])], [.row 57 7]⟩ (fun z => z3o φ (zo φ d) z.1 z.2.1 z.2.2.1 z.2.2.2.1 z.2.2.2.2.1 z.2.2.2.2.2.1 z.2.2.2.2.2.2.1 z.2.2.2.2.2.2.2.1 z.2.2.2.2.2.2.2.2.1) (.seq .x .x)) (.seq .x (.seq (.body (.loop ⟨[(220, [(0, .own 0), (1, .val 0), (2, .val 0), (3, .val 0), (4, .cmp 7), (18, .val 0), (19, .val 0), (20, .val 0), (21, .val 0), (22, .val 0)]), (1, [(0, .own 0)])], [.row 57 7]⟩ (fun n z => z1f φ (zo φ d) n z.1 z.2.1 z.2.2.1 z.2.2.2.1 z.2.2.2.2.1 z.2.2.2.2.2.1 z.2.2.2.2.2.2.1 z.2.2.2.2.2.2.2.1 z.2.2.2.2.2.2.2.2.1 z.2.2.2.2.2.2.2.2.2.1) (fun zk48 => .x))) (.seq .x (.seq (.join ⟨[(220, [(0, .own 0), (1, .val 0), (3, .val 0), (4, .cmp 7), (18, .val 0), (20, .val 0), (24, .val 0)]), (1, [(0, .own 0)])], [.row 57 7]⟩ (fun z => z3n φ (zo φ d) z.1 z.2.1 z.2.2.1 z.2.2.2.1 z.2.2.2.2.1 z.2.2.2.2.2.1 z.2.2.2.2.2.2.1) (.seq .x .x)) (.seq (.join ⟨[(220, [(0, .own 0), (3, .val 0), (4, .cmp 7), (18, .val 0), (24, .val 0)]), (1, [(0, .own 0)])], [.row 57 7]⟩ (fun z => z3u φ (zo φ d) z.1 z.2.1 z.2.2.1 z.2.2.2.1 z.2.2.2.2.1) (.seq .x .x)) .x)))))))))))
def z4n (P : Program) (φ d : Nat) : Env TV := ⟨P, lk [], lk [(155, z56 φ), (115, z2h φ d)], lk [], lk []⟩
theorem zcy (φ d : Nat) (l a) : (z2h φ (d + 1)).F l a = fnM TV (z4n Tryz.prog φ d) φ Tryz.f115 57 7 [.val 0, .val 0, .val 0, .cmp 7] (z2i φ d) l a := by kernel_rfl
theorem zcx (φ d : Nat) : fnMO TV (z4n Tryz.prog φ d) φ Tryz.f115 57 7 (z2i φ d) := by
 unfold fnMO
 show obl _ _ _ _ _ _ _
 unfold z2i
 repeat' (first | exact trivial | (refine ⟨?_, ?_⟩) | (intro _) | kernel_rfl)
theorem z75 [Dr] (φ : Nat) : ∀ d, zal TV Tryz.prog 115 (z2h φ d)
 | 0 => fun l a l2 sv h => absurd (show (none : Option (List (TT 7))) = some l2 from h) (fun q => by cases q)
 | d + 1 => z86 (N := z4n Tryz.prog φ d) (zl trivial ⟨(ze7 φ), (z75 φ d), trivial⟩ trivial trivial) (z2i φ d) Tryz.func115 (by kernel_rfl) (zcy φ d) (zcx φ d)
def z3i (φ : Nat) : H TV (List (TT 7)) := (.seq .x (.seq .x (.seq (.body (.loop ⟨[(63, [(0, .own 0), (1, .val 0), (2, .cmp 7), (6, .val 0), (7, .val 0), (8, .val 0)]), (1, [(0, .own 0)])], [.row 57 7]⟩ (fun n z => z4i φ n z.1 z.2.1 z.2.2.1 z.2.2.2.1 z.2.2.2.2.1 z.2.2.2.2.2.1) (fun zk10 => .x))) (.seq .x (.body (.loop ⟨[(63, [(0, .own 0), (1, .val 0), (2, .cmp 7), (6, .val 0)]), (1, [(0, .own 0)])], [.row 57 7]⟩ (fun n z => z4l φ n z.1 z.2.1 z.2.2.1 z.2.2.2.1) (fun zk17 => (.seq .x (.body (.seq .x (.seq (.body (.loop ⟨[(63, [(0, .own 0), (1, .val 0), (2, .cmp 7), (6, .val 0), (7, .val 0), (8, .val 0)]), (1, [(0, .own 0)])], [.row 57 7]⟩ (fun n z => z4o φ (fun a0 a1 a2 a3 => zk17 (a0, a1, a2, a3, ())) n z.1 z.2.1 z.2.2.1 z.2.2.2.1 z.2.2.2.2.1 z.2.2.2.2.2.1) (fun zk24 => .x))) .x)))))))))))
def z57 (P : Program) (φ : Nat) : Env TV := ⟨P, lk [], lk [(114, z2m φ), (115, z2h φ φ)], lk [], lk []⟩
theorem ze3 (φ : Nat) (l a) : (z58 φ).F l a = fnM TV (z57 Tryz.prog φ) φ Tryz.f79 57 7 [.val 0, .cmp 7] (z3i φ) l a := by kernel_rfl
theorem ze6 (φ : Nat) : fnMO TV (z57 Tryz.prog φ) φ Tryz.f79 57 7 (z3i φ) := by
 unfold fnMO
 show obl _ _ _ _ _ _ _
 unfold z3i
 repeat' (first | exact trivial | (refine ⟨?_, ?_⟩) | (intro _) | kernel_rfl)
theorem ze9 [Dr] (φ : Nat) : zal TV Tryz.prog 79 (z58 φ) := z86 (N := z57 Tryz.prog φ) (zl trivial ⟨(z9v φ), (z75 φ φ), trivial⟩ trivial trivial) (z3i φ) Tryz.func79 (by kernel_rfl) (ze3 φ) (ze6 φ)
def z2w (φ : Nat) : H TV (List (TT 7)) := .x
def z4v (P : Program) (φ : Nat) : Env TV := ⟨P, lk [], lk [(79, z58 φ)], lk [], lk []⟩
theorem zdt (φ : Nat) (l a) : (z2x φ).F l a = fnM TV (z4v Tryz.prog φ) φ Tryz.f52 57 7 [.cmp 7] (z2w φ) l a := by kernel_rfl
theorem zda (φ : Nat) : fnMO TV (z4v Tryz.prog φ) φ Tryz.f52 57 7 (z2w φ) := by
 unfold fnMO
 show obl _ _ _ _ _ _ _
 unfold z2w
 repeat' (first | exact trivial | (refine ⟨?_, ?_⟩) | (intro _) | kernel_rfl)
theorem z7w [Dr] (φ : Nat) : zal TV Tryz.prog 52 (z2x φ) := z86 (N := z4v Tryz.prog φ) (zl trivial ⟨(ze9 φ), trivial⟩ trivial trivial) (z2w φ) Tryz.func52 (by kernel_rfl) (zdt φ) (zda φ)
def zaa (φ : Nat) : H TV (RTup TT [.val 0]) := .x
def zde (P : Program) (φ : Nat) : Env TV := ⟨P, lk [], lk [], lk [], lk []⟩
theorem zq0 (φ : Nat) (a) : (z2z φ).F a = fnX TV (zde Tryz.prog φ) φ Tryz.f40 [0, 0] [.val 0] (zaa φ) a := by kernel_rfl
theorem zpj (φ : Nat) : fnO TV (zde Tryz.prog φ) φ Tryz.f40 [.val 0] (zaa φ) := by
 unfold fnO
 show obl _ _ _ _ _ _ _
 unfold zaa
 repeat' (first | exact trivial | (refine ⟨?_, ?_⟩) | (intro _) | kernel_rfl)
theorem z4u [Dr] (φ : Nat) : z21 TV Tryz.prog 40 (z2z φ) :=
 z36 (N := zde Tryz.prog φ) (zl trivial trivial trivial trivial) (zaa φ) Tryz.func40 (by kernel_rfl) (zq0 φ) (zpj φ)
def zl5 (φ : Nat) : H TV (RTup TT [.val 0]) := (.seq .x (.seq .x (.seq (.seq .x (.body (.loop ⟨[(18, [(3, .val 0), (6, .val 8), (7, .val 0), (8, .val 0)])], []⟩ (fun n z => zho φ n z.1 z.2.1 z.2.2.1 z.2.2.2.1) (fun zk6 => .x)))) .x)))
def zp0 (P : Program) (φ : Nat) : Env TV := ⟨P, lk [], lk [], lk [], lk []⟩
theorem y1o (φ : Nat) (a) : (za5 φ).F a = fnX TV (zp0 Tryz.prog φ) φ Tryz.f39 [8] [.val 0] (zl5 φ) a := by kernel_rfl
theorem y0z (φ : Nat) : fnO TV (zp0 Tryz.prog φ) φ Tryz.f39 [.val 0] (zl5 φ) := by
 unfold fnO
 show obl _ _ _ _ _ _ _
 unfold zl5
 repeat' (first | exact trivial | (refine ⟨?_, ?_⟩) | (intro _) | kernel_rfl)
theorem zdj [Dr] (φ : Nat) : z21 TV Tryz.prog 39 (za5 φ) :=
 z36 (N := zp0 Tryz.prog φ) (zl trivial trivial trivial trivial) (zl5 φ) Tryz.func39 (by kernel_rfl) (y1o φ) (y0z φ)
def z8p (φ : Nat) : H TV (RTup TT [.val 0]) := .x
def zch (P : Program) (φ : Nat) : Env TV := ⟨P, lk [(40, z2z φ), (39, za5 φ)], lk [], lk [], lk []⟩
theorem znb (φ : Nat) (a) : (z8x φ).F a = fnX TV (zch Tryz.prog φ) φ Tryz.f53 [7, 7] [.val 0] (z8p φ) a := by kernel_rfl
theorem znl (φ : Nat) : fnO TV (zch Tryz.prog φ) φ Tryz.f53 [.val 0] (z8p φ) := by
 unfold fnO
 show obl _ _ _ _ _ _ _
 unfold z8p
 repeat' (first | exact trivial | (refine ⟨?_, ?_⟩) | (intro _) | kernel_rfl)
theorem zgj [Dr] (φ : Nat) : z21 TV Tryz.prog 53 (z8x φ) :=
 z36 (N := zch Tryz.prog φ) (zl ⟨z4u φ, zdj φ, trivial⟩ trivial trivial trivial) (z8p φ) Tryz.func53 (by kernel_rfl) (znb φ) (znl φ)
def z4r (φ : Nat) : H TV (RTup TT [.val 0]) := .x
def z6v (P : Program) (φ : Nat) : Env TV := ⟨P, lk [(40, z2z φ), (53, z8x φ), (39, za5 φ)], lk [], lk [], lk []⟩
theorem zgo (φ : Nat) (a) : (z6q φ).F a = fnX TV (z6v Tryz.prog φ) φ Tryz.f63 [7, 7] [.val 0] (z4r φ) a := by kernel_rfl
theorem zgt (φ : Nat) : fnO TV (z6v Tryz.prog φ) φ Tryz.f63 [.val 0] (z4r φ) := by
 unfold fnO
 show obl _ _ _ _ _ _ _
 unfold z4r
 repeat' (first | exact trivial | (refine ⟨?_, ?_⟩) | (intro _) | kernel_rfl)
theorem zgn [Dr] (φ : Nat) : z21 TV Tryz.prog 63 (z6q φ) :=
 z36 (N := z6v Tryz.prog φ) (zl ⟨z4u φ, zgj φ, zdj φ, trivial⟩ trivial trivial trivial) (z4r φ) Tryz.func63 (by kernel_rfl) (zgo φ) (zgt φ)
def zdl (φ : Nat) : H TV (RTup TT [.val 9]) := .x
def zgu (P : Program) (φ : Nat) : Env TV := ⟨P, lk [], lk [], lk [], lk []⟩
theorem zt4 (φ : Nat) (a) : (z8n φ).F a = fnX TV (zgu Tryz.prog φ) φ Tryz.f47 [2] [.val 9] (zdl φ) a := by kernel_rfl
theorem zsl (φ : Nat) : fnO TV (zgu Tryz.prog φ) φ Tryz.f47 [.val 9] (zdl φ) := by
 unfold fnO
 show obl _ _ _ _ _ _ _
 unfold zdl
 repeat' (first | exact trivial | (refine ⟨?_, ?_⟩) | (intro _) | kernel_rfl)
theorem zd5 [Dr] (φ : Nat) : z21 TV Tryz.prog 47 (z8n φ) :=
 z36 (N := zgu Tryz.prog φ) (zl trivial trivial trivial trivial) (zdl φ) Tryz.func47 (by kernel_rfl) (zt4 φ) (zsl φ)
def z5s (φ : Nat) : H TV (RTup TT [.val 12]) := (.seq .x (.seq .x (.seq (.seq .x (.body (.loop ⟨[(80, [(1, .val 0), (5, .own 0), (14, .val 10), (15, .val 0), (16, .val 0)])], [.row 57 7]⟩ (fun n z => z17 φ n z.1 z.2.1 z.2.2.1 z.2.2.2.1 z.2.2.2.2.1) (fun zk8 => .x)))) (.seq .x (.seq .x (.seq (.seq .x (.body (.loop ⟨[(80, [(8, .own 0), (39, .own 1), (40, .val 0), (41, .val 0)])], [.map 9 11 0, .row 57 7]⟩ (fun n z => z07 φ n z.1 z.2.1 z.2.2.1 z.2.2.2.1) (fun zk14 => (.seq .x (.seq .x (.seq (.body (.seq .x (.seq .x (.body (.loop ⟨[(80, [(8, .own 0), (10, .ptr 1 0), (39, .own 2), (40, .val 0), (41, .val 0), (47, .val 5), (48, .val 0), (49, .val 0)])], [.map 9 11 0, .box 57 [.val 7], .row 57 7]⟩ (fun n z => zn φ (fun a0 a1 a2 a3 => zk14 (a0, a1, a2, a3, ())) n z.1 z.2.1 z.2.2.1 z.2.2.2.1 z.2.2.2.2.1 z.2.2.2.2.2.1 z.2.2.2.2.2.2.1 z.2.2.2.2.2.2.2.1) (fun zk23 => (.seq .x (.seq .x (.seq (.body (.seq .x (.seq .x (.seq (.seq .x (.cond (.seq (.foc (8, none) (54, none) .x) .x) .x)) (.seq (.seq (.foc (8, none) (54, none) .x) .x) .x))))) .x))))))))) .x))))))) .x))))))
def z8f (P : Program) (φ : Nat) : Env TV := ⟨P, lk [(63, z6q φ), (47, z8n φ)], lk [(52, z2x φ)], lk [], lk []⟩
theorem zjd (φ : Nat) (a) : (z4p φ).F a = fnX TV (z8f Tryz.prog φ) φ Tryz.f35 [10, 0] [.val 12] (z5s φ) a := by kernel_rfl
theorem zij (φ : Nat) : fnO TV (z8f Tryz.prog φ) φ Tryz.f35 [.val 12] (z5s φ) := by
 unfold fnO
 show obl _ _ _ _ _ _ _
 unfold z5s
 repeat' (first | exact trivial | (refine ⟨?_, ?_⟩) | (intro _) | kernel_rfl)
theorem z8k [Dr] (φ : Nat) : z21 TV Tryz.prog 35 (z4p φ) :=
 z36 (N := z8f Tryz.prog φ) (zl ⟨zgn φ, zd5 φ, trivial⟩ ⟨(z7w φ), trivial⟩ trivial trivial) (z5s φ) Tryz.func35 (by kernel_rfl) (zjd φ) (zij φ)
def z2u (φ : Nat) : H TV (RTup TT [.val 2]) := .x
def z4s (P : Program) (φ : Nat) : Env TV := ⟨P, lk [], lk [], lk [], lk []⟩
theorem zdf (φ : Nat) (a) : (z2v φ).F a = fnX TV (z4s Tryz.prog φ) φ Tryz.f36 [9] [.val 2] (z2u φ) a := by kernel_rfl
theorem zd8 (φ : Nat) : fnO TV (z4s Tryz.prog φ) φ Tryz.f36 [.val 2] (z2u φ) := by
 unfold fnO
 show obl _ _ _ _ _ _ _
 unfold z2u
 repeat' (first | exact trivial | (refine ⟨?_, ?_⟩) | (intro _) | kernel_rfl)
theorem z80 [Dr] (φ : Nat) : z21 TV Tryz.prog 36 (z2v φ) :=
 z36 (N := z4s Tryz.prog φ) (zl trivial trivial trivial trivial) (z2u φ) Tryz.func36 (by kernel_rfl) (zdf φ) (zd8 φ)
theorem y5g : SoOK TV Tryz.prog 44 ⟨72, 0, 1, 3⟩ :=
 yba (V := TV) (ρ := Tryz.sortedK_ren) (σ := Tryz.keysK_ren) (τ := Tryz.lays189_ren) Tryz.sortedK Tryz.keysK Tryz.lays189 (kc := 0) (vc := 1) (E := 3) (fun n : Int => n) (fun _ => rfl) (fun _ => rfl) (fun _ => rfl) (by kernel_rfl) rfl rfl (enters_of Tryz.func71 (by kernel_rfl) rfl) (enters_of Tryz.func72 (by kernel_rfl) rfl)
def z5r (φ : Nat) : H TV (RTup TT [.val 14]) := (.seq .x (.seq .x (.seq .x (.seq (.seq .x (.body (.loop ⟨[(41, [(8, .own 0), (9, .ptr 1 0), (10, .val 11), (23, .own 2), (24, .val 0), (25, .val 0)])], [.row 73 13, .box 88 [.val 9], .row 3 0]⟩ (fun n z => z1i φ n z.1 z.2.1 z.2.2.1 z.2.2.2.1 z.2.2.2.2.1 z.2.2.2.2.2.1) (fun zk12 => .x)))) .x))))
def z8g (P : Program) (φ : Nat) : Env TV := ⟨P, lk [(35, z4p φ), (36, z2v φ)], lk [], lk [], lk [(44, ⟨72, 0, 1, 3⟩)]⟩
theorem zjb (φ : Nat) (a) : (z5v φ).F a = fnX TV (z8g Tryz.prog φ) φ Tryz.f16 [10, 0, 0, 0] [.val 14] (z5r φ) a := by kernel_rfl
theorem zic (φ : Nat) : fnO TV (z8g Tryz.prog φ) φ Tryz.f16 [.val 14] (z5r φ) := by
 unfold fnO
 show obl _ _ _ _ _ _ _
 unfold z5r
 repeat' (first | exact trivial | (refine ⟨?_, ?_⟩) | (intro _) | kernel_rfl)
theorem zcz (φ : Nat) : z21 TV Tryz.prog 16 (z5v φ) :=
 z36 (N := z8g Tryz.prog φ) (zl ⟨z8k φ, z80 φ, trivial⟩ trivial trivial ⟨y5g, trivial⟩) (z5r φ) Tryz.func16 (by kernel_rfl) (zjb φ) (zic φ)
def z7g (φ : Nat) : H TV (RTup TT [.val 13]) := .x
def zb7 (P : Program) (φ : Nat) : Env TV := ⟨P, lk [(26, zbz φ)], lk [], lk [], lk []⟩
theorem zn5 (φ : Nat) (a) : (zax φ).F a = fnX TV (zb7 Tryz.prog φ) φ Tryz.f33 [0, 1] [.val 13] (z7g φ) a := by kernel_rfl
theorem zm6 (φ : Nat) : fnO TV (zb7 Tryz.prog φ) φ Tryz.f33 [.val 13] (z7g φ) := by
 unfold fnO
 show obl _ _ _ _ _ _ _
 unfold z7g
 repeat' (first | exact trivial | (refine ⟨?_, ?_⟩) | (intro _) | kernel_rfl)
theorem zls [Dr] (φ : Nat) : z21 TV Tryz.prog 33 (zax φ) :=
 z36 (N := zb7 Tryz.prog φ) (zl ⟨zjq φ, trivial⟩ trivial trivial trivial) (z7g φ) Tryz.func33 (by kernel_rfl) (zn5 φ) (zm6 φ)
def z4h (φ : Nat) : H TV (RTup TT [.val 1]) := (.seq .x (.seq .x (.seq (.seq .x (.body (.loop ⟨[(26, [(0, .val 14), (1, .val 14), (5, .val 0)])], []⟩ (fun n z => z5o φ n z.1 z.2.1 z.2.2.1) (fun zk6 => .x)))) .x)))
def z64 (P : Program) (φ : Nat) : Env TV := ⟨P, lk [], lk [], lk [], lk []⟩
theorem zg7 (φ : Nat) (a) : (z67 φ).F a = fnX TV (z64 Tryz.prog φ) φ Tryz.f15 [14, 14] [.val 1] (z4h φ) a := by kernel_rfl
theorem zga (φ : Nat) : fnO TV (z64 Tryz.prog φ) φ Tryz.f15 [.val 1] (z4h φ) := by
 unfold fnO
 show obl _ _ _ _ _ _ _
 unfold z4h
 repeat' (first | exact trivial | (refine ⟨?_, ?_⟩) | (intro _) | kernel_rfl)
theorem zg6 [Dr] (φ : Nat) : z21 TV Tryz.prog 15 (z67 φ) :=
 z36 (N := z64 Tryz.prog φ) (zl trivial trivial trivial trivial) (z4h φ) Tryz.func15 (by kernel_rfl) (zg7 φ) (zga φ)
def z5u (φ : Nat) : H TV (RTup TT [.val 0]) := .x
def z8j (P : Program) (φ : Nat) : Env TV := ⟨P, lk [(40, z2z φ), (39, za5 φ)], lk [], lk [], lk []⟩
theorem zj0 (φ : Nat) (a) : (z8m φ).F a = fnX TV (z8j Tryz.prog φ) φ Tryz.f38 [2, 2] [.val 0] (z5u φ) a := by kernel_rfl
theorem zip (φ : Nat) : fnO TV (z8j Tryz.prog φ) φ Tryz.f38 [.val 0] (z5u φ) := by
 unfold fnO
 show obl _ _ _ _ _ _ _
 unfold z5u
 repeat' (first | exact trivial | (refine ⟨?_, ?_⟩) | (intro _) | kernel_rfl)
theorem zcw [Dr] (φ : Nat) : z21 TV Tryz.prog 38 (z8m φ) :=
 z36 (N := z8j Tryz.prog φ) (zl ⟨z4u φ, zdj φ, trivial⟩ trivial trivial trivial) (z5u φ) Tryz.func38 (by kernel_rfl) (zj0 φ) (zip φ)
def zo3 : Msp TV := ⟨24, 2, [.fn 38], fun l _ => zft l⟩
theorem zw9 [Dr] : zal TV Tryz.prog 37 zo3 :=
 zyv (V := TV) (c := 2) (ρ := Tryz.sortEv_ren) Tryz.sortEv Tryz.isAgg24 (by rw [show TV.sz 2 = 3 by kernel_rfl]; exact Tryz.sizeOf24) (by kernel_rfl) (by kernel_rfl) ⟨Tryz.f38, Tryz.func38, by kernel_rfl, by kernel_rfl⟩ zwe fun a b ha hb =>
  @zd4.mono ⟨True⟩ _ _ _ _ _ (@zcw ⟨True⟩ 10 (a, b, ()) (za2 a b, ()) (zt5 a b)) fun x news ⟨B, hB, h1, h2⟩ => by
   cases B with
   | nil => exact ⟨h1, h2⟩
   | cons y B => cases hB
theorem zmf (φ : Nat) (z z' : Sh.Z TT (⟨[(34, [(1, .val 0), (6, .own 0), (12, .own 1)])], [.row 24 2, .it 9 11]⟩ : Sh)) (h : Sh.eqZ TT (⟨[(34, [(1, .val 0), (6, .own 0), (12, .own 1)])], [.row 24 2, .it 9 11]⟩ : Sh) z z') (hok : ∀ o ∈ (Sh.enc TV (⟨[(34, [(1, .val 0), (6, .own 0), (12, .own 1)])], [.row 24 2, .it 9 11]⟩ : Sh) z).ob, okO TV o) : ∀ n, zx φ (zg φ n) z'.1 z'.2.1 z'.2.2.1 = zx φ (zg φ n) z.1 z.2.1 z.2.2.1 := by
 obtain ⟨a, b, c, u⟩ := z
 obtain ⟨a', b', c', u'⟩ := z'
 have h : a = a' /\ b = b' /\ c.Perm c' /\ True := h
 obtain ⟨rfl, rfl, hp, _⟩ := h
 exact fun n => (zna φ hp (n + 1) a b).symm
def z7e (φ : Nat) : H TV (RTup TT [.val 5]) := (.seq .x (.seq (.seq .x (.body (.loop ⟨[(34, [(1, .val 0), (6, .own 0), (12, .own 1)])], [.row 24 2, .it 9 11]⟩ (fun n z => zg φ n z.1 z.2.1 z.2.2.1) (fun zk8 => (.seq (.pk ⟨[(34, [(1, .val 0), (6, .own 0), (12, .own 1)])], [.row 24 2, .it 9 11]⟩ (fun z => zx φ (fun a0 a1 a2 => zk8 (a0, a1, a2, ())) z.1 z.2.1 z.2.2.1)) .x))))) .x))
def zaw (P : Program) (φ : Nat) : Env TV := ⟨P, lk [(35, z4p φ), (36, z2v φ), (38, z8m φ)], lk [(37, zo3)], lk [], lk []⟩
theorem zmm (φ : Nat) (a) : (z7v φ).F a = fnX TV (zaw Tryz.prog φ) φ Tryz.f13 [10, 0, 0] [.val 5] (z7e φ) a := by kernel_rfl
theorem zn4 (φ : Nat) : fnO TV (zaw Tryz.prog φ) φ Tryz.f13 [.val 5] (z7e φ) := by
 unfold fnO
 show obl _ _ _ _ _ _ _
 unfold z7e
 repeat' (first | exact trivial | (refine ⟨?_, ?_⟩) | (intro _) | (rename_i h1 h2; have q := zmf φ _ _ h1 h2; exact q _) | kernel_rfl)
theorem zeq [Dr] (φ : Nat) : z21 TV Tryz.prog 13 (z7v φ) :=
 z36 (N := zaw Tryz.prog φ) (zl ⟨z8k φ, z80 φ, zcw φ, trivial⟩ ⟨(zw9), trivial⟩ trivial trivial) (z7e φ) Tryz.func13 (by kernel_rfl) (zmm φ) (zn4 φ)
def z5w (φ : Nat) : H TV (RTup TT [.val 1]) := (.seq .x (.seq .x (.seq (.seq .x (.body (.loop ⟨[(26, [(0, .val 5), (1, .val 5), (5, .val 0)])], []⟩ (fun n z => z7n φ n z.1 z.2.1 z.2.2.1) (fun zk6 => .x)))) .x)))
def z89 (P : Program) (φ : Nat) : Env TV := ⟨P, lk [], lk [], lk [], lk []⟩
theorem zj6 (φ : Nat) (a) : (z8e φ).F a = fnX TV (z89 Tryz.prog φ) φ Tryz.f12 [5, 5] [.val 1] (z5w φ) a := by kernel_rfl
theorem ziv (φ : Nat) : fnO TV (z89 Tryz.prog φ) φ Tryz.f12 [.val 1] (z5w φ) := by
 unfold fnO
 show obl _ _ _ _ _ _ _
 unfold z5w
 repeat' (first | exact trivial | (refine ⟨?_, ?_⟩) | (intro _) | kernel_rfl)
theorem zif [Dr] (φ : Nat) : z21 TV Tryz.prog 12 (z8e φ) :=
 z36 (N := z89 Tryz.prog φ) (zl trivial trivial trivial trivial) (z5w φ) Tryz.func12 (by kernel_rfl) (zj6 φ) (ziv φ)
def z8w (φ : Nat) : H TV (RTup TT [.val 7]) := .x
def zce (P : Program) (φ : Nat) : Env TV := ⟨P, lk [], lk [], lk [], lk []⟩
theorem znh (φ : Nat) (a) : (zcu φ).F a = fnX TV (zce Tryz.prog φ) φ Tryz.f24 [0, 0, 0] [.val 7] (z8w φ) a := by kernel_rfl
theorem znc (φ : Nat) : fnO TV (zce Tryz.prog φ) φ Tryz.f24 [.val 7] (z8w φ) := by
 unfold fnO
 show obl _ _ _ _ _ _ _
 unfold z8w
 repeat' (first | exact trivial | (refine ⟨?_, ?_⟩) | (intro _) | kernel_rfl)
theorem zn9 [Dr] (φ : Nat) : z21 TV Tryz.prog 24 (zcu φ) :=
 z36 (N := zce Tryz.prog φ) (zl trivial trivial trivial trivial) (z8w φ) Tryz.func24 (by kernel_rfl) (znh φ) (znc φ)
theorem zkx (φ : Nat) (z z' : Sh.Z TT (⟨[(16, [(0, .own 0), (7, .own 1)]), (50, [(1, .val 0), (5, .val 12), (6, .own 0), (15, .val 10), (16, .val 0), (17, .val 0), (33, .val 5), (34, .val 0), (35, .val 0)])], [.map 0 1 0, .it 0 1]⟩ : Sh)) (h : Sh.eqZ TT (⟨[(16, [(0, .own 0), (7, .own 1)]), (50, [(1, .val 0), (5, .val 12), (6, .own 0), (15, .val 10), (16, .val 0), (17, .val 0), (33, .val 5), (34, .val 0), (35, .val 0)])], [.map 0 1 0, .it 0 1]⟩ : Sh) z z') (hok : ∀ o ∈ (Sh.enc TV (⟨[(16, [(0, .own 0), (7, .own 1)]), (50, [(1, .val 0), (5, .val 12), (6, .own 0), (15, .val 10), (16, .val 0), (17, .val 0), (33, .val 5), (34, .val 0), (35, .val 0)])], [.map 0 1 0, .it 0 1]⟩ : Sh) z).ob, okO TV o) : ∀ k n, z2g φ k (z04 φ k n) z'.1 z'.2.1 z'.2.2.1 z'.2.2.2.1 z'.2.2.2.2.1 z'.2.2.2.2.2.1 z'.2.2.2.2.2.2.1 z'.2.2.2.2.2.2.2.1 z'.2.2.2.2.2.2.2.2.1 z'.2.2.2.2.2.2.2.2.2.1 = z2g φ k (z04 φ k n) z.1 z.2.1 z.2.2.1 z.2.2.2.1 z.2.2.2.2.1 z.2.2.2.2.2.1 z.2.2.2.2.2.2.1 z.2.2.2.2.2.2.2.1 z.2.2.2.2.2.2.2.2.1 z.2.2.2.2.2.2.2.2.2.1 := by
 obtain ⟨a, b, c, d, e, f, g, i, m, x, u⟩ := z
 obtain ⟨a', b', c', d', e', f', g', i', m', x', u'⟩ := z'
 have h : a = a' /\ b = b' /\ c = c' /\ d = d' /\ e = e' /\ f = f' /\ g = g' /\ i = i' /\ m = m' /\ x.Perm x' /\ True := h
 obtain ⟨rfl, rfl, rfl, rfl, rfl, rfl, rfl, rfl, rfl, hp, _⟩ := h
 have hok : ∀ o ∈ [(SO.x (.map 0 1 0 m none) : SO TT), .x (.it 0 1 x none)], okO TV o := hok
 have hm : Srt' kl_0 m := hok (.x (.map 0 1 0 m none)) (by simp)
 have hd : Ndp kl_0 x := hok (.x (.it 0 1 x none)) (by simp)
 exact fun k n => (zky φ hp hd k (n + 1) a b c d e f g i m hm).symm
def z6g (φ : Nat) : H TV (RTup TT [.val 8]) := (.seq .x (.seq .x (.seq .x (.seq (.seq .x (.body (.loop ⟨[(50, [(1, .val 0), (5, .val 12), (6, .own 0), (15, .val 10), (16, .val 0), (17, .val 0)])], [.map 0 1 0]⟩ (fun n z => z5i φ n z.1 z.2.1 z.2.2.1 z.2.2.2.1 z.2.2.2.2.1 z.2.2.2.2.2.1) (fun zk10 => (.seq .x (.seq .x (.seq (.body (.seq .x (.seq .x (.seq .x (.body (.loop ⟨[(50, [(1, .val 0), (5, .val 12), (6, .own 0), (15, .val 10), (16, .val 0), (17, .val 0), (33, .val 5), (34, .val 0), (35, .val 0)])], [.map 0 1 0]⟩ (fun n z => z7z φ (fun a0 a1 a2 a3 a4 a5 => zk10 (a0, a1, a2, a3, a4, a5, ())) n z.1 z.2.1 z.2.2.1 z.2.2.2.1 z.2.2.2.2.1 z.2.2.2.2.2.1 z.2.2.2.2.2.2.1 z.2.2.2.2.2.2.2.1 z.2.2.2.2.2.2.2.2.1) (fun zk20 => (.seq .x (.seq .x (.seq (.body (.seq .x (.ins 5 46 (.seq .x (.body (.loop ⟨[(16, [(0, .own 0), (7, .own 1)]), (50, [(1, .val 0), (5, .val 12), (6, .own 0), (15, .val 10), (16, .val 0), (17, .val 0), (33, .val 5), (34, .val 0), (35, .val 0)])], [.map 0 1 0, .it 0 1]⟩ (fun n z => z04 φ (fun a0 a1 a2 a3 a4 a5 a6 a7 a8 => zk20 (a0, a1, a2, a3, a4, a5, a6, a7, a8, ())) n z.1 z.2.1 z.2.2.1 z.2.2.2.1 z.2.2.2.2.1 z.2.2.2.2.2.1 z.2.2.2.2.2.2.1 z.2.2.2.2.2.2.2.1 z.2.2.2.2.2.2.2.2.1 z.2.2.2.2.2.2.2.2.2.1) (fun zk32 => (.seq (.pk ⟨[(16, [(0, .own 0), (7, .own 1)]), (50, [(1, .val 0), (5, .val 12), (6, .own 0), (15, .val 10), (16, .val 0), (17, .val 0), (33, .val 5), (34, .val 0), (35, .val 0)])], [.map 0 1 0, .it 0 1]⟩ (fun z => z2g φ (fun a0 a1 a2 a3 a4 a5 a6 a7 a8 => zk20 (a0, a1, a2, a3, a4, a5, a6, a7, a8, ())) (fun a0 a1 a2 a3 a4 a5 a6 a7 a8 a9 => zk32 (a0, a1, a2, a3, a4, a5, a6, a7, a8, a9, ())) z.1 z.2.1 z.2.2.1 z.2.2.2.1 z.2.2.2.2.1 z.2.2.2.2.2.1 z.2.2.2.2.2.2.1 z.2.2.2.2.2.2.2.1 z.2.2.2.2.2.2.2.2.1 z.2.2.2.2.2.2.2.2.2.1)) .x))))) .x))) .x)))))))))) .x))))))) .x))))
def z9z (P : Program) (φ : Nat) : Env TV := ⟨P, lk [(35, z4p φ), (47, z8n φ)], lk [], lk [], lk [(44, ⟨72, 0, 1, 3⟩)]⟩
theorem zk2 (φ : Nat) (a) : (z9g φ).F a = fnX TV (z9z Tryz.prog φ) φ Tryz.f19 [10, 0] [.val 8] (z6g φ) a := by kernel_rfl
theorem zkm (φ : Nat) : fnO TV (z9z Tryz.prog φ) φ Tryz.f19 [.val 8] (z6g φ) := by
 unfold fnO
 show obl _ _ _ _ _ _ _
 unfold z6g
 repeat' (first | exact trivial | (refine ⟨?_, ?_⟩) | (intro _) | (rename_i h1 h2; have q := zkx φ _ _ h1 h2; exact q _ _) | kernel_rfl)
theorem zkw (φ : Nat) : z21 TV Tryz.prog 19 (z9g φ) :=
 z36 (N := z9z Tryz.prog φ) (zl ⟨z8k φ, zd5 φ, trivial⟩ trivial trivial ⟨y5g, trivial⟩) (z6g φ) Tryz.func19 (by kernel_rfl) (zk2 φ) (zkm φ)
def z6k (φ : Nat) : H TV (RTup TT [.val 1]) := (.seq .x (.seq .x (.seq (.seq .x (.body (.loop ⟨[(26, [(0, .val 8), (1, .val 8), (5, .val 0)])], []⟩ (fun n z => z8o φ n z.1 z.2.1 z.2.2.1) (fun zk6 => .x)))) .x)))
def z99 (P : Program) (φ : Nat) : Env TV := ⟨P, lk [], lk [], lk [], lk []⟩
theorem zku (φ : Nat) (a) : (z9k φ).F a = fnX TV (z99 Tryz.prog φ) φ Tryz.f18 [8, 8] [.val 1] (z6k φ) a := by kernel_rfl
theorem zk1 (φ : Nat) : fnO TV (z99 Tryz.prog φ) φ Tryz.f18 [.val 1] (z6k φ) := by
 unfold fnO
 show obl _ _ _ _ _ _ _
 unfold z6k
 repeat' (first | exact trivial | (refine ⟨?_, ?_⟩) | (intro _) | kernel_rfl)
theorem zkj [Dr] (φ : Nat) : z21 TV Tryz.prog 18 (z9k φ) :=
 z36 (N := z99 Tryz.prog φ) (zl trivial trivial trivial trivial) (z6k φ) Tryz.func18 (by kernel_rfl) (zku φ) (zk1 φ)
def zby (φ : Nat) : H TV (RTup TT [.val 39]) := (.seq .x (.seq .x (.seq .x (.seq (.seq .x (.body (.loop ⟨[(30, [(0, .ptr 0 0), (1, .ptr 1 0), (2, .val 0)])], [.box 51 [.own 2, .own 3, .own 4, .own 5, .own 6, .own 7, .own 8, .own 9, .own 10], .box 51 [.own 11, .own 12, .own 13, .own 14, .own 15, .own 16, .own 17, .own 18, .own 19], .row 129 15, .row 147 17, .row 131 21, .row 80 23, .row 182 25, .row 186 27, .row 142 30, .row 145 32, .row 112 37, .row 129 15, .row 147 17, .row 131 21, .row 80 23, .row 182 25, .row 186 27, .row 142 30, .row 145 32, .row 112 37]⟩ (fun n z => zct φ n z.1 z.2.1 z.2.2.1 z.2.2.2.1 z.2.2.2.2.1 z.2.2.2.2.2.1 z.2.2.2.2.2.2.1 z.2.2.2.2.2.2.2.1 z.2.2.2.2.2.2.2.2.1 z.2.2.2.2.2.2.2.2.2.1 z.2.2.2.2.2.2.2.2.2.2.1 z.2.2.2.2.2.2.2.2.2.2.2.1 z.2.2.2.2.2.2.2.2.2.2.2.2.1 z.2.2.2.2.2.2.2.2.2.2.2.2.2.1 z.2.2.2.2.2.2.2.2.2.2.2.2.2.2.1 z.2.2.2.2.2.2.2.2.2.2.2.2.2.2.2.1 z.2.2.2.2.2.2.2.2.2.2.2.2.2.2.2.2.1 z.2.2.2.2.2.2.2.2.2.2.2.2.2.2.2.2.2.1 z.2.2.2.2.2.2.2.2.2.2.2.2.2.2.2.2.2.2.1) (fun zk20 => .x)))) .x))))
def zek (P : Program) (φ : Nat) : Env TV := ⟨P, lk [], lk [], lk [], lk []⟩
theorem zrp (φ : Nat) (a) : (zfk φ).F a = fnX TV (zek Tryz.prog φ) φ Tryz.f34 [] [.val 39] (zby φ) a := by kernel_rfl
theorem zqi (φ : Nat) : fnO TV (zek Tryz.prog φ) φ Tryz.f34 [.val 39] (zby φ) := by
 unfold fnO
 show obl _ _ _ _ _ _ _
 unfold zby
 repeat' (first | exact trivial | (refine ⟨?_, ?_⟩) | (intro _) | kernel_rfl)
theorem zsc [Dr] (φ : Nat) : z21 TV Tryz.prog 34 (zfk φ) :=
 z36 (N := zek Tryz.prog φ) (zl trivial trivial trivial trivial) (zby φ) Tryz.func34 (by kernel_rfl) (zrp φ) (zqi φ)
def z7k (φ : Nat) : H TV (RTup TT [.val 1]) := .x
def zap (P : Program) (φ : Nat) : Env TV := ⟨P, lk [], lk [], lk [], lk []⟩
theorem zle (φ : Nat) (a) : (zai φ).F a = fnX TV (zap Tryz.prog φ) φ Tryz.f111 [15] [.val 1] (z7k φ) a := by kernel_rfl
theorem zm7 (φ : Nat) : fnO TV (zap Tryz.prog φ) φ Tryz.f111 [.val 1] (z7k φ) := by
 unfold fnO
 show obl _ _ _ _ _ _ _
 unfold z7k
 repeat' (first | exact trivial | (refine ⟨?_, ?_⟩) | (intro _) | kernel_rfl)
theorem zlt [Dr] (φ : Nat) : z21 TV Tryz.prog 111 (zai φ) :=
 z36 (N := zap Tryz.prog φ) (zl trivial trivial trivial trivial) (z7k φ) Tryz.func111 (by kernel_rfl) (zle φ) (zm7 φ)
def z7y (φ : Nat) : H TV (RTup TT [.val 0]) := (.seq .x (.seq .x (.seq .x (.seq (.seq .x (.body (.loop ⟨[(84, [(1, .ptr 0 0), (3, .val 0), (20, .val 16), (21, .val 0), (22, .val 0)])], [.box 40 [.val 19]]⟩ (fun n z => z96 φ n z.1 z.2.1 z.2.2.1 z.2.2.2.1 z.2.2.2.2.1) (fun zk7 => .x)))) (.seq (.seq .x (.body (.loop ⟨[(84, [(3, .val 0), (31, .val 18), (32, .val 0), (33, .val 0)])], []⟩ (fun n z => z8b φ n z.1 z.2.1 z.2.2.1 z.2.2.2.1) (fun zk13 => .x)))) .x)))))
def zar (P : Program) (φ : Nat) : Env TV := ⟨P, lk [(111, zai φ)], lk [], lk [], lk []⟩
theorem zmg (φ : Nat) (a) : (zb4 φ).F a = fnX TV (zar Tryz.prog φ) φ Tryz.f73 [19] [.val 0] (z7y φ) a := by kernel_rfl
theorem zlv (φ : Nat) : fnO TV (zar Tryz.prog φ) φ Tryz.f73 [.val 0] (z7y φ) := by
 unfold fnO
 show obl _ _ _ _ _ _ _
 unfold z7y
 repeat' (first | exact trivial | (refine ⟨?_, ?_⟩) | (intro _) | kernel_rfl)
theorem zn1 [Dr] (φ : Nat) : z21 TV Tryz.prog 73 (zb4 φ) :=
 z36 (N := zar Tryz.prog φ) (zl ⟨zlt φ, trivial⟩ trivial trivial trivial) (z7y φ) Tryz.func73 (by kernel_rfl) (zmg φ) (zlv φ)
def z7d (φ : Nat) : H TV (RTup TT [.val 1]) := .x
def zb9 (P : Program) (φ : Nat) : Env TV := ⟨P, lk [], lk [], lk [], lk []⟩
theorem zmp (φ : Nat) (a) : (z7s φ).F a = fnX TV (zb9 Tryz.prog φ) φ Tryz.f75 [0, 0, 0] [.val 1] (z7d φ) a := by kernel_rfl
theorem zlh (φ : Nat) : fnO TV (zb9 Tryz.prog φ) φ Tryz.f75 [.val 1] (z7d φ) := by
 unfold fnO
 show obl _ _ _ _ _ _ _
 unfold z7d
 repeat' (first | exact trivial | (refine ⟨?_, ?_⟩) | (intro _) | kernel_rfl)
theorem zfp [Dr] (φ : Nat) : z21 TV Tryz.prog 75 (z7s φ) :=
 z36 (N := zb9 Tryz.prog φ) (zl trivial trivial trivial trivial) (z7d φ) Tryz.func75 (by kernel_rfl) (zmp φ) (zlh φ)
def zaf (φ : Nat) : H TV (RTup TT [.val 0]) := (.seq .x (.seq .x (.seq .x (.seq .x (.seq (.seq .x (.body (.loop ⟨[(206, [(1, .ptr 0 0), (3, .ptr 1 0), (4, .func 112 [.ptr 1 0]), (41, .val 22), (42, .val 0), (43, .val 0)])], [.box 46 [.val 29], .box 59 [.val 0]]⟩ (fun n z => zcj φ n z.1 z.2.1 z.2.2.1 z.2.2.2.1 z.2.2.2.2.1) (fun zk7 => (.seq .x (.seq .x (.seq (.body (.seq .x (.seq (.seq .x (.body (.loop ⟨[(206, [(1, .ptr 0 0), (3, .ptr 1 0), (4, .func 112 [.ptr 1 0]), (6, .ptr 2 0), (41, .val 22), (42, .val 0), (43, .val 0), (55, .own 3), (56, .val 0), (57, .val 0)])], [.box 46 [.val 29], .box 59 [.val 0], .box 131 [.val 21], .row 3 0]⟩ (fun n z => z7t φ (fun a0 a1 a2 a3 a4 => zk7 (a0, a1, a2, a3, a4, ())) n z.1 z.2.1 z.2.2.1 z.2.2.2.1 z.2.2.2.2.1 z.2.2.2.2.2.1 z.2.2.2.2.2.2.1 z.2.2.2.2.2.2.2.1 z.2.2.2.2.2.2.2.2.1) (fun zk17 => .x)))) .x))) .x))))))) (.seq (.seq .x (.body (.loop ⟨[(206, [(1, .ptr 0 0), (3, .ptr 1 0), (4, .func 112 [.ptr 1 0]), (83, .val 24), (84, .val 0), (85, .val 0)])], [.box 46 [.val 29], .box 59 [.val 0]]⟩ (fun n z => z4k φ n z.1 z.2.1 z.2.2.1 z.2.2.2.1 z.2.2.2.2.1) (fun zk27 => .x)))) (.seq (.seq .x (.body (.loop ⟨[(206, [(1, .ptr 0 0), (3, .ptr 1 0), (4, .func 112 [.ptr 1 0]), (120, .val 26), (121, .val 0), (122, .val 0)])], [.box 46 [.val 29], .box 59 [.val 0]]⟩ (fun n z => z7b φ n z.1 z.2.1 z.2.2.1 z.2.2.2.1 z.2.2.2.2.1) (fun zk40 => .x)))) (.seq .x (.seq (.seq .x (.body (.loop ⟨[(206, [(3, .ptr 0 0), (4, .func 112 [.ptr 0 0]), (13, .ptr 1 0), (158, .val 28), (159, .val 0), (160, .val 0)])], [.box 59 [.val 0], .box 184 [.val 40]]⟩ (fun n z => z2f φ n z.1 z.2.1 z.2.2.1 z.2.2.2.1 z.2.2.2.2.1) (fun zk49 => .x)))) .x)))))))))
def zdg (P : Program) (φ : Nat) : Env TV := ⟨P, lk [(75, z7s φ)], lk [], lk [], lk []⟩
theorem zq6 (φ : Nat) (a) : (zdk φ).F a = fnX TV (zdg Tryz.prog φ) φ Tryz.f74 [29] [.val 0] (zaf φ) a := by kernel_rfl
theorem zpn (φ : Nat) : fnO TV (zdg Tryz.prog φ) φ Tryz.f74 [.val 0] (zaf φ) := by
 unfold fnO
 show obl _ _ _ _ _ _ _
 unfold zaf
 repeat' (first | exact trivial | (refine ⟨?_, ?_⟩) | (intro _) | kernel_rfl)
theorem zpf [Dr] (φ : Nat) : z21 TV Tryz.prog 74 (zdk φ) :=
 z36 (N := zdg Tryz.prog φ) (zl ⟨zfp φ, trivial⟩ trivial trivial trivial) (zaf φ) Tryz.func74 (by kernel_rfl) (zq6 φ) (zpn φ)
def z6i (φ : Nat) : H TV (RTup TT [.val 0]) := (.seq .x (.seq (.seq .x (.body (.loop ⟨[(45, [(1, .ptr 0 0), (9, .val 35), (10, .val 0)])], [.box 109 [.val 36]]⟩ (fun n z => z8l φ n z.1 z.2.1 z.2.2.1) (fun zk5 => .x)))) (.seq .x (.seq (.seq .x (.body (.loop ⟨[(45, [(5, .val 0), (30, .val 8), (31, .val 0), (32, .val 0)])], []⟩ (fun n z => z7f φ n z.1 z.2.1 z.2.2.1 z.2.2.2.1) (fun zk10 => .x)))) .x))))
def z97 (P : Program) (φ : Nat) : Env TV := ⟨P, lk [], lk [], lk [], lk []⟩
theorem zkc (φ : Nat) (a) : (z9s φ).F a = fnX TV (z97 Tryz.prog φ) φ Tryz.f76 [36] [.val 0] (z6i φ) a := by kernel_rfl
theorem zkb (φ : Nat) : fnO TV (z97 Tryz.prog φ) φ Tryz.f76 [.val 0] (z6i φ) := by
 unfold fnO
 show obl _ _ _ _ _ _ _
 unfold z6i
 repeat' (first | exact trivial | (refine ⟨?_, ?_⟩) | (intro _) | kernel_rfl)
theorem zkd [Dr] (φ : Nat) : z21 TV Tryz.prog 76 (z9s φ) :=
 z36 (N := z97 Tryz.prog φ) (zl trivial trivial trivial trivial) (z6i φ) Tryz.func76 (by kernel_rfl) (zkc φ) (zkb φ)
def zc1 (φ : Nat) : H TV (RTup TT [.val 20, .val 20]) := .x
def zeb (P : Program) (φ : Nat) : Env TV := ⟨P, lk [], lk [], lk [], lk []⟩
theorem zr3 (φ : Nat) (a) : (zf5 φ).F a = fnX TV (zeb Tryz.prog φ) φ Tryz.f171 [20, 20] [.val 20, .val 20] (zc1 φ) a := by kernel_rfl
theorem zrd (φ : Nat) : fnO TV (zeb Tryz.prog φ) φ Tryz.f171 [.val 20, .val 20] (zc1 φ) := by
 unfold fnO
 show obl _ _ _ _ _ _ _
 unfold zc1
 repeat' (first | exact trivial | (refine ⟨?_, ?_⟩) | (intro _) | kernel_rfl)
theorem zrj [Dr] (φ : Nat) : z21 TV Tryz.prog 171 (zf5 φ) :=
 z36 (N := zeb Tryz.prog φ) (zl trivial trivial trivial trivial) (zc1 φ) Tryz.func171 (by kernel_rfl) (zr3 φ) (zrd φ)
def z4a (φ : Nat) : H TV (RTup TT [.val 0]) := (.seq .x (.seq (.ins 1 108 (.seq .x (.seq (.join ⟨[(25, [(0, .val 20), (2, .val 0)]), (6, [])], []⟩ (fun z => z59 φ z.1 z.2.1) (.seq .x .x)) (.seq (.join ⟨[(25, [(0, .val 20), (2, .val 0)]), (6, [])], []⟩ (fun z => z54 φ z.1 z.2.1) (.seq .x .x)) (.seq (.join ⟨[(25, [(0, .val 20), (2, .val 0)]), (6, [])], []⟩ (fun z => z4t φ z.1 z.2.1) (.seq .x .x)) .x)))) .x) .x))
def z5n (P : Program) (φ : Nat) : Env TV := ⟨P, lk [], lk [], lk [], lk []⟩
theorem zer (φ : Nat) (a) : (z5p φ).F a = fnX TV (z5n Tryz.prog φ) φ Tryz.f183 [20] [.val 0] (z4a φ) a := by kernel_rfl
theorem zf8 (φ : Nat) : fnO TV (z5n Tryz.prog φ) φ Tryz.f183 [.val 0] (z4a φ) := by
 unfold fnO
 show obl _ _ _ _ _ _ _
 unfold z4a
 repeat' (first | exact trivial | (refine ⟨?_, ?_⟩) | (intro _) | kernel_rfl)
theorem zed [Dr] (φ : Nat) : z21 TV Tryz.prog 183 (z5p φ) :=
 z36 (N := z5n Tryz.prog φ) (zl trivial trivial trivial trivial) (z4a φ) Tryz.func183 (by kernel_rfl) (zer φ) (zf8 φ)
def zc4 (φ : Nat) : H TV (RTup TT [.val 20, .val 20]) := (.seq .x (.seq .x (.seq .x (.seq .x (.seq .x (.seq .x (.seq .x (.seq .x (.seq .x (.seq .x (.seq .x (.seq .x (.seq .x (.seq .x (.seq (.join ⟨[(135, [(2, .val 20), (8, .val 20), (9, .val 20), (10, .val 20), (11, .val 20), (13, .val 20), (14, .val 20), (15, .val 20)])], []⟩ (fun z => zc8 φ z.1 z.2.1 z.2.2.1 z.2.2.2.1 z.2.2.2.2.1 z.2.2.2.2.2.1 z.2.2.2.2.2.2.1 z.2.2.2.2.2.2.2.1) (.body (.loop ⟨[(135, [(2, .val 20), (8, .val 20), (9, .val 20), (10, .val 20), (11, .val 20), (13, .val 20), (14, .val 20), (15, .val 20), (16, .val 20)])], []⟩ (fun n z => zc9 φ n z.1 z.2.1 z.2.2.1 z.2.2.2.1 z.2.2.2.2.1 z.2.2.2.2.2.1 z.2.2.2.2.2.2.1 z.2.2.2.2.2.2.2.1 z.2.2.2.2.2.2.2.2.1) (fun zk40 => .x)))) (.seq .x (.seq .x (.seq .x (.seq (.join ⟨[(135, [(2, .val 20), (8, .val 20), (14, .val 20), (15, .val 20), (17, .val 20), (18, .val 20)])], []⟩ (fun z => zcp φ z.1 z.2.1 z.2.2.1 z.2.2.2.1 z.2.2.2.2.1 z.2.2.2.2.2.1) (.body (.loop ⟨[(135, [(2, .val 20), (8, .val 20), (9, .val 20), (10, .val 20), (14, .val 20), (15, .val 20), (16, .val 20), (17, .val 20), (18, .val 20)])], []⟩ (fun n z => zcr φ n z.1 z.2.1 z.2.2.1 z.2.2.2.1 z.2.2.2.2.1 z.2.2.2.2.2.1 z.2.2.2.2.2.2.1 z.2.2.2.2.2.2.2.1 z.2.2.2.2.2.2.2.2.1) (fun zk30 => .x)))) .x)))))))))))))))))))
def zfl (P : Program) (φ : Nat) : Env TV := ⟨P, lk [(183, z5p φ)], lk [], lk [], lk []⟩
theorem zqk (φ : Nat) (a) : (zfq φ).F a = fnX TV (zfl Tryz.prog φ) φ Tryz.f172 [20, 20, 20] [.val 20, .val 20] (zc4 φ) a := by kernel_rfl
theorem zqy (φ : Nat) : fnO TV (zfl Tryz.prog φ) φ Tryz.f172 [.val 20, .val 20] (zc4 φ) := by
 unfold fnO
 show obl _ _ _ _ _ _ _
 unfold zc4
 repeat' (first | exact trivial | (refine ⟨?_, ?_⟩) | (intro _) | kernel_rfl)
theorem zqz [Dr] (φ : Nat) : z21 TV Tryz.prog 172 (zfq φ) :=
 z36 (N := zfl Tryz.prog φ) (zl ⟨zed φ, trivial⟩ trivial trivial trivial) (zc4 φ) Tryz.func172 (by kernel_rfl) (zqk φ) (zqy φ)
def zg4 (φ : Nat) : H TV (RTup TT [.val 20]) := (.seq .x (.seq .x (.seq .x (.seq (.seq (.ins 1 108 (.seq .x (.seq (.join ⟨[(25, [(0, .val 20), (2, .val 0)]), (33, [(0, .val 20), (1, .val 20), (5, .func 170 [.ptr 0 0]), (6, .val 20)])], [.box 110 [.val 20]]⟩ (fun z => zh4 φ z.1 z.2.1 z.2.2.1 z.2.2.2.1 z.2.2.2.2.1 z.2.2.2.2.2.1) (.seq .x .x)) (.seq (.join ⟨[(25, [(0, .val 20), (2, .val 0)]), (33, [(0, .val 20), (1, .val 20), (5, .func 170 [.ptr 0 0]), (6, .val 20)])], [.box 110 [.val 20]]⟩ (fun z => zfe φ z.1 z.2.1 z.2.2.1 z.2.2.2.1 z.2.2.2.2.1 z.2.2.2.2.2.1) (.seq .x .x)) (.seq (.join ⟨[(25, [(0, .val 20), (2, .val 0)]), (33, [(0, .val 20), (1, .val 20), (5, .func 170 [.ptr 0 0]), (6, .val 20)])], [.box 110 [.val 20]]⟩ (fun z => zew φ z.1 z.2.1 z.2.2.1 z.2.2.2.1 z.2.2.2.2.1 z.2.2.2.2.2.1) (.seq .x .x)) .x)))) .x) (.body (.loop ⟨[(33, [(0, .val 20), (1, .val 20), (5, .func 170 [.ptr 0 0]), (6, .val 20), (10, .val 0), (11, .val 0)])], [.box 110 [.val 20]]⟩ (fun n z => zc2 φ n z.1 z.2.1 z.2.2.1 z.2.2.2.1 z.2.2.2.2.1 z.2.2.2.2.2.1) (fun zk30 => (.seq .x (.seq .x (.seq (.body (.seq .x (.seq .x (.seq (.ins 2 108 (.seq .x (.seq (.join ⟨[(25, [(0, .val 20), (2, .val 0)]), (33, [(0, .val 20), (1, .val 20), (5, .func 170 [.ptr 0 0]), (6, .val 20), (7, .val 0), (10, .val 0), (11, .val 0), (18, .val 20)])], [.box 110 [.val 20]]⟩ (fun z => zf7 φ (fun a0 a1 a2 a3 a4 a5 => zk30 (a0, a1, a2, a3, a4, a5, ())) z.1 z.2.1 z.2.2.1 z.2.2.2.1 z.2.2.2.2.1 z.2.2.2.2.2.1 z.2.2.2.2.2.2.1 z.2.2.2.2.2.2.2.1 z.2.2.2.2.2.2.2.2.1 z.2.2.2.2.2.2.2.2.2.1) (.seq .x .x)) (.seq (.join ⟨[(25, [(0, .val 20), (2, .val 0)]), (33, [(0, .val 20), (1, .val 20), (5, .func 170 [.ptr 0 0]), (6, .val 20), (7, .val 0), (10, .val 0), (11, .val 0), (18, .val 20)])], [.box 110 [.val 20]]⟩ (fun z => zfc φ (fun a0 a1 a2 a3 a4 a5 => zk30 (a0, a1, a2, a3, a4, a5, ())) z.1 z.2.1 z.2.2.1 z.2.2.2.1 z.2.2.2.2.1 z.2.2.2.2.2.1 z.2.2.2.2.2.2.1 z.2.2.2.2.2.2.2.1 z.2.2.2.2.2.2.2.2.1 z.2.2.2.2.2.2.2.2.2.1) (.seq .x .x)) (.seq (.join ⟨[(25, [(0, .val 20), (2, .val 0)]), (33, [(0, .val 20), (1, .val 20), (5, .func 170 [.ptr 0 0]), (6, .val 20), (7, .val 0), (10, .val 0), (11, .val 0), (18, .val 20)])], [.box 110 [.val 20]]⟩ (fun z => zf6 φ (fun a0 a1 a2 a3 a4 a5 => zk30 (a0, a1, a2, a3, a4, a5, ())) z.1 z.2.1 z.2.2.1 z.2.2.2.1 z.2.2.2.2.1 z.2.2.2.2.2.1 z.2.2.2.2.2.2.1 z.2.2.2.2.2.2.2.1 z.2.2.2.2.2.2.2.2.1 z.2.2.2.2.2.2.2.2.2.1) (.seq .x .x)) .x)))) .x) .x)))) .x))))))) .x))))
def zid (P : Program) (φ : Nat) : Env TV := ⟨P, lk [(171, zf5 φ), (172, zfq φ)], lk [], lk [], lk []⟩
theorem zwh (φ : Nat) (a) : (ziu φ).F a = fnX TV (zid Tryz.prog φ) φ Tryz.f113 [20, 20] [.val 20] (zg4 φ) a := by kernel_rfl
theorem zwz (φ : Nat) : fnO TV (zid Tryz.prog φ) φ Tryz.f113 [.val 20] (zg4 φ) := by
 unfold fnO
 show obl _ _ _ _ _ _ _
 unfold zg4
 repeat' (first | exact trivial | (refine ⟨?_, ?_⟩) | (intro _) | kernel_rfl)
theorem zw7 [Dr] (φ : Nat) : z21 TV Tryz.prog 113 (ziu φ) :=
 z36 (N := zid Tryz.prog φ) (zl ⟨zrj φ, zqz φ, trivial⟩ trivial trivial trivial) (zg4 φ) Tryz.func113 (by kernel_rfl) (zwh φ) (zwz φ)
def zbv (φ : Nat) : H TV (RTup TT [.val 1]) := .x
def zfn (P : Program) (φ : Nat) : Env TV := ⟨P, lk [(113, ziu φ)], lk [], lk [], lk []⟩
theorem zra (φ : Nat) (a) : (zf2 φ).F a = fnX TV (zfn Tryz.prog φ) φ Tryz.f77 [20] [.val 1] (zbv φ) a := by kernel_rfl
theorem zrm (φ : Nat) : fnO TV (zfn Tryz.prog φ) φ Tryz.f77 [.val 1] (zbv φ) := by
 unfold fnO
 show obl _ _ _ _ _ _ _
 unfold zbv
 repeat' (first | exact trivial | (refine ⟨?_, ?_⟩) | (intro _) | kernel_rfl)
theorem zrw [Dr] (φ : Nat) : z21 TV Tryz.prog 77 (zf2 φ) :=
 z36 (N := zfn Tryz.prog φ) (zl ⟨zw7 φ, trivial⟩ trivial trivial trivial) (zbv φ) Tryz.func77 (by kernel_rfl) (zra φ) (zrm φ)
end Px
end
section
set_option linter.unusedVariables false
set_option linter.unusedSimpArgs false
set_option maxHeartbeats 4000000
set_option maxRecDepth 100000
namespace Px
open Go Go.RowKit Go.Proofs
def z5x (φ : Nat) : H TV (RTup TT [.val 0]) := (.seq .x (.seq .x (.seq .x (.seq .x (.seq .x (.seq .x (.seq (.seq .x (.body (.loop ⟨[(193, [(1, .ptr 0 0), (5, .val 16), (6, .val 0), (7, .val 1), (57, .val 31), (58, .val 0), (59, .val 0)])], [.box 51 [.val 39]]⟩ (fun n z => z6s φ n z.1 z.2.1 z.2.2.1 z.2.2.2.1 z.2.2.2.2.1 z.2.2.2.2.2.1 z.2.2.2.2.2.2.1) (fun zk11 => .x)))) (.seq (.seq .x (.body (.loop ⟨[(193, [(1, .ptr 0 0), (5, .val 16), (6, .val 0), (7, .val 1), (92, .val 33), (93, .val 0), (94, .val 0)])], [.box 51 [.val 39]]⟩ (fun n z => z6x φ n z.1 z.2.1 z.2.2.1 z.2.2.2.1 z.2.2.2.2.1 z.2.2.2.2.2.1 z.2.2.2.2.2.2.1) (fun zk20 => .x)))) (.seq (.seq .x (.body (.loop ⟨[(193, [(1, .ptr 0 0), (5, .val 16), (6, .val 0), (7, .val 1), (120, .val 24), (121, .val 0), (122, .val 0)])], [.box 51 [.val 39]]⟩ (fun n z => z6u φ n z.1 z.2.1 z.2.2.1 z.2.2.2.1 z.2.2.2.2.1 z.2.2.2.2.2.1 z.2.2.2.2.2.2.1) (fun zk29 => .x)))) (.seq (.seq .x (.body (.loop ⟨[(193, [(1, .ptr 0 0), (6, .val 0), (7, .val 1), (135, .val 16), (136, .val 0), (137, .val 0)])], [.box 51 [.val 39]]⟩ (fun n z => z6w φ n z.1 z.2.1 z.2.2.1 z.2.2.2.1 z.2.2.2.2.1 z.2.2.2.2.2.1) (fun zk36 => .x)))) (.seq (.seq .x (.body (.loop ⟨[(193, [(1, .ptr 0 0), (6, .val 0), (7, .val 1), (157, .val 18), (158, .val 0), (159, .val 0)])], [.box 51 [.val 39]]⟩ (fun n z => z6y φ n z.1 z.2.1 z.2.2.1 z.2.2.2.1 z.2.2.2.2.1 z.2.2.2.2.2.1) (fun zk43 => .x)))) (.seq (.seq .x (.body (.loop ⟨[(193, [(7, .val 1), (172, .val 38), (173, .val 0), (174, .val 0)])], []⟩ (fun n z => z6r φ n z.1 z.2.1 z.2.2.1 z.2.2.2.1) (fun zk48 => .x)))) .x))))))))))))
def z88 (P : Program) (φ : Nat) : Env TV := ⟨P, lk [(73, zb4 φ), (74, zdk φ), (75, z7s φ), (76, z9s φ), (77, zf2 φ)], lk [], lk [], lk []⟩
theorem zib (φ : Nat) (a) : (z37 φ).F a = fnX TV (z88 Tryz.prog φ) φ Tryz.f49 [39] [.val 0] (z5x φ) a := by kernel_rfl
theorem ziz (φ : Nat) : fnO TV (z88 Tryz.prog φ) φ Tryz.f49 [.val 0] (z5x φ) := by
 unfold fnO
 show obl _ _ _ _ _ _ _
 unfold z5x
 repeat' (first | exact trivial | (refine ⟨?_, ?_⟩) | (intro _) | kernel_rfl)
theorem z5z [Dr] (φ : Nat) : z21 TV Tryz.prog 49 (z37 φ) :=
 z36 (N := z88 Tryz.prog φ) (zl ⟨zn1 φ, zpf φ, zfp φ, zkd φ, zrw φ, trivial⟩ trivial trivial trivial) (z5x φ) Tryz.func49 (by kernel_rfl) (zib φ) (ziz φ)
def z7j (φ : Nat) : H TV (RTup TT [.val 1]) := .x
def zas (P : Program) (φ : Nat) : Env TV := ⟨P, lk [], lk [], lk [], lk []⟩
theorem zm2 (φ : Nat) (a) : (zau φ).F a = fnX TV (zas Tryz.prog φ) φ Tryz.f59 [6] [.val 1] (z7j φ) a := by kernel_rfl
theorem zln (φ : Nat) : fnO TV (zas Tryz.prog φ) φ Tryz.f59 [.val 1] (z7j φ) := by
 unfold fnO
 show obl _ _ _ _ _ _ _
 unfold z7j
 repeat' (first | exact trivial | (refine ⟨?_, ?_⟩) | (intro _) | kernel_rfl)
theorem zlw [Dr] (φ : Nat) : z21 TV Tryz.prog 59 (zau φ) :=
 z36 (N := zas Tryz.prog φ) (zl trivial trivial trivial trivial) (z7j φ) Tryz.func59 (by kernel_rfl) (zm2 φ) (zln φ)
def zdd (φ : Nat) : H TV (RTup TT [.val 1]) := (.seq .x (.seq (.seq .x (.body (.loop ⟨[(43, [(0, .val 5), (1, .val 1), (7, .val 5), (8, .val 0), (9, .val 0)])], []⟩ (fun n z => zep φ n z.1 z.2.1 z.2.2.1 z.2.2.2.1 z.2.2.2.2.1) (fun zk8 => .x)))) .x))
def zgp (P : Program) (φ : Nat) : Env TV := ⟨P, lk [], lk [], lk [], lk []⟩
theorem ztg (φ : Nat) (a) : (zgs φ).F a = fnX TV (zgp Tryz.prog φ) φ Tryz.f135 [5, 1] [.val 1] (zdd φ) a := by kernel_rfl
theorem zu5 (φ : Nat) : fnO TV (zgp Tryz.prog φ) φ Tryz.f135 [.val 1] (zdd φ) := by
 unfold fnO
 show obl _ _ _ _ _ _ _
 unfold zdd
 repeat' (first | exact trivial | (refine ⟨?_, ?_⟩) | (intro _) | kernel_rfl)
theorem zth [Dr] (φ : Nat) : z21 TV Tryz.prog 135 (zgs φ) :=
 z36 (N := zgp Tryz.prog φ) (zl trivial trivial trivial trivial) (zdd φ) Tryz.func135 (by kernel_rfl) (ztg φ) (zu5 φ)
def zbp (φ : Nat) : H TV (RTup TT [.val 1]) := (.seq .x (.seq .x (.seq (.join ⟨[(46, [(5, .ptr 0 0)])], [.box 157 [.val 41]]⟩ (fun z => zt φ z.1) (.seq .x (.cond (.ins 0 95 (.seq .x (.seq .x (.seq .x (.seq .x (.body (.seq .x (.cond .x (.seq .x (.cond (.seq (.ins 1 131 (.seq .x (.seq (.join ⟨[(66, [(0, .ptr 0 0), (1, .val 0), (4, .ptr 1 0)]), (135, [(0, .ptr 0 0)]), (46, [(5, .ptr 0 0)])], [.box 157 [.val 41], .box 129 [.val 15]]⟩ (fun z => zdu φ z.1 z.2.1 z.2.2.1) (.seq .x .x)) .x)) .x) .x) (.seq (.join ⟨[(135, [(0, .ptr 0 0), (2, .ptr 0 9), (20, .val 0), (43, .val 1)]), (46, [(5, .ptr 0 0)])], [.box 157 [.val 41]]⟩ (fun z => zcd φ z.1 z.2.1 z.2.2.1) (.seq .x .x)) (.cond (.seq (.ins 1 131 (.seq .x (.seq (.join ⟨[(66, [(0, .ptr 0 0), (1, .val 0), (4, .ptr 1 0)]), (135, [(0, .ptr 0 0), (2, .ptr 0 9)]), (46, [(5, .ptr 0 0)])], [.box 157 [.val 41], .box 129 [.val 15]]⟩ (fun z => zc6 φ z.1 z.2.1 z.2.2.1) (.seq .x .x)) .x)) .x) .x) (.seq .x (.cond (.seq .x (.seq .x (.seq (.ins 1 131 (.seq .x (.seq (.join ⟨[(66, [(0, .ptr 0 0), (1, .val 0), (4, .ptr 1 0)]), (135, [(0, .ptr 0 0), (2, .ptr 0 9)]), (46, [(5, .ptr 0 0)])], [.box 157 [.val 41], .box 129 [.val 15]]⟩ (fun z => zcg φ z.1 z.2.1 z.2.2.1) (.seq .x .x)) .x)) .x) .x))) (.seq (.join ⟨[(135, [(0, .ptr 0 0), (2, .ptr 0 9), (116, .val 1)]), (46, [(5, .ptr 0 0)])], [.box 157 [.val 41]]⟩ (fun z => zco φ z.1 z.2.1) (.seq .x .x)) (.cond (.seq (.ins 1 131 (.seq .x (.seq (.join ⟨[(66, [(0, .ptr 0 0), (1, .val 0), (4, .ptr 1 0)]), (135, [(0, .ptr 0 0), (2, .ptr 0 9)]), (46, [(5, .ptr 0 0)])], [.box 157 [.val 41], .box 129 [.val 15]]⟩ (fun z => zcb φ z.1 z.2.1 z.2.2.1) (.seq .x .x)) .x)) .x) .x) .x))))))))))))))) .x) (.ins 0 96 (.seq .x (.seq .x (.body (.seq .x (.cond .x (.seq .x (.cond (.seq .x (.seq (.ins 1 131 (.seq .x (.seq (.join ⟨[(66, [(0, .ptr 0 0), (1, .val 0), (4, .ptr 1 0)]), (168, [(0, .ptr 0 0), (2, .ptr 0 9)]), (46, [(5, .ptr 0 0)])], [.box 157 [.val 41], .box 129 [.val 15]]⟩ (fun z => zcf φ z.1 z.2.1 z.2.2.1) (.seq .x .x)) .x)) .x) .x)) (.seq .x (.cond .x (.seq (.join ⟨[(168, [(0, .ptr 0 0), (2, .ptr 0 9), (9, .val 0), (91, .val 1)]), (46, [(5, .ptr 0 0)])], [.box 157 [.val 41]]⟩ (fun z => z8v φ z.1 z.2.1 z.2.2.1) (.seq .x .x)) (.cond .x (.seq .x (.cond .x (.seq .x (.cond (.seq .x (.seq (.ins 1 131 (.seq .x (.seq (.join ⟨[(66, [(0, .ptr 0 0), (1, .val 0), (4, .ptr 1 0)]), (168, [(0, .ptr 0 0), (2, .ptr 0 9)]), (46, [(5, .ptr 0 0)])], [.box 157 [.val 41], .box 129 [.val 15]]⟩ (fun z => zck φ z.1 z.2.1 z.2.2.1) (.seq .x .x)) .x)) .x) .x)) .x))))))))))))))) .x)))) (.seq (.seq .x (.body (.unr 12 .x))) .x))))
def zex (P : Program) (φ : Nat) : Env TV := ⟨P, lk [(135, zgs φ)], lk [], lk [], lk []⟩
theorem zqs (φ : Nat) (a) : (zeg φ).F a = fnX TV (zex Tryz.prog φ) φ Tryz.f60 [39, 6] [.val 1] (zbp φ) a := by kernel_rfl
theorem zqc (φ : Nat) : fnO TV (zex Tryz.prog φ) φ Tryz.f60 [.val 1] (zbp φ) := by
 unfold fnO
 show obl _ _ _ _ _ _ _
 unfold zbp
 repeat' (first | exact trivial | (refine ⟨?_, ?_⟩) | (intro _) | kernel_rfl)
theorem zs0 [Dr] (φ : Nat) : z21 TV Tryz.prog 60 (zeg φ) :=
 z36 (N := zex Tryz.prog φ) (zl ⟨zth φ, trivial⟩ trivial trivial trivial) (zbp φ) Tryz.func60 (by kernel_rfl) (zqs φ) (zqc φ)
def zdy (φ : Nat) : H TV (RTup TT [.val 0]) := .x
def zgx (P : Program) (φ : Nat) : Env TV := ⟨P, lk [(49, z37 φ), (59, zau φ), (60, zeg φ)], lk [], lk [], lk []⟩
theorem zt2 (φ : Nat) (a) : (zdv φ).F a = fnX TV (zgx Tryz.prog φ) φ Tryz.f30 [39, 6] [.val 0] (zdy φ) a := by kernel_rfl
theorem zsk (φ : Nat) : fnO TV (zgx Tryz.prog φ) φ Tryz.f30 [.val 0] (zdy φ) := by
 unfold fnO
 show obl _ _ _ _ _ _ _
 unfold zdy
 repeat' (first | exact trivial | (refine ⟨?_, ?_⟩) | (intro _) | kernel_rfl)
theorem zm3 [Dr] (φ : Nat) : z21 TV Tryz.prog 30 (zdv φ) :=
 z36 (N := zgx Tryz.prog φ) (zl ⟨z5z φ, zlw φ, zs0 φ, trivial⟩ trivial trivial trivial) (zdy φ) Tryz.func30 (by kernel_rfl) (zt2 φ) (zsk φ)
def z6l (φ : Nat) : H TV (RTup TT [.val 1]) := .x
def z9m (P : Program) (φ : Nat) : Env TV := ⟨P, lk [(47, z8n φ)], lk [], lk [], lk []⟩
theorem zkl (φ : Nat) (a b) : (z9y φ).F a b = fnXc TV (z9m Tryz.prog φ) φ Tryz.f51 [2] [.b (.map 9 1)] [.val 1] (z6l φ) a b := by kernel_rfl
theorem zkq (φ : Nat) : fnO TV (z9m Tryz.prog φ) φ Tryz.f51 [.val 1] (z6l φ) := by
 unfold fnO
 show obl _ _ _ _ _ _ _
 unfold z6l
 repeat' (first | exact trivial | (refine ⟨?_, ?_⟩) | (intro _) | kernel_rfl)
theorem zkn [Dr] (φ : Nat) : zw1 TV Tryz.prog 51 (z9y φ) :=
 y4n (N := z9m Tryz.prog φ) (zl ⟨zd5 φ, trivial⟩ trivial trivial trivial) (z6l φ) Tryz.func51 (by kernel_rfl) (zkl φ) (zkq φ)
def z6d (φ : Nat) : H TV (RTup TT [.val 0]) := .x
def z93 (P : Program) (φ : Nat) : Env TV := ⟨P, lk [(49, z37 φ)], lk [], lk [], lk []⟩
theorem zko (φ : Nat) (a) : (z9p φ).F a = fnX TV (z93 Tryz.prog φ) φ Tryz.f61 [39, 0, 0] [.val 0] (z6d φ) a := by kernel_rfl
theorem zks (φ : Nat) : fnO TV (z93 Tryz.prog φ) φ Tryz.f61 [.val 0] (z6d φ) := by
 unfold fnO
 show obl _ _ _ _ _ _ _
 unfold z6d
 repeat' (first | exact trivial | (refine ⟨?_, ?_⟩) | (intro _) | kernel_rfl)
theorem zju [Dr] (φ : Nat) : z21 TV Tryz.prog 61 (z9p φ) :=
 z36 (N := z93 Tryz.prog φ) (zl ⟨z5z φ, trivial⟩ trivial trivial trivial) (z6d φ) Tryz.func61 (by kernel_rfl) (zko φ) (zks φ)
def za6 (φ : Nat) : H TV (RTup TT [.row 3 0]) := (.seq .x (.seq .x (.seq (.seq .x (.body (.loop ⟨[(35, [(2, .val 0), (3, .ptr 0 0), (7, .own 1), (10, .val 10), (11, .val 0), (12, .val 0)])], [.box 51 [.val 39], .row 3 0]⟩ (fun n z => z7i φ n z.1 z.2.1 z.2.2.1 z.2.2.2.1 z.2.2.2.2.1 z.2.2.2.2.2.1) (fun zk10 => .x)))) .x)))
def zd7 (P : Program) (φ : Nat) : Env TV := ⟨P, lk [(30, zdv φ)], lk [], lk [], lk []⟩
theorem zon (φ : Nat) (a) : (zds φ).F a = fnX TV (zd7 Tryz.prog φ) φ Tryz.f160 [39, 10, 0] [.row 3 0] (za6 φ) a := by kernel_rfl
theorem zol (φ : Nat) : fnO TV (zd7 Tryz.prog φ) φ Tryz.f160 [.row 3 0] (za6 φ) := by
 unfold fnO
 show obl _ _ _ _ _ _ _
 unfold za6
 repeat' (first | exact trivial | (refine ⟨?_, ?_⟩) | (intro _) | kernel_rfl)
theorem zoq [Dr] (φ : Nat) : z21 TV Tryz.prog 160 (zds φ) :=
 z36 (N := zd7 Tryz.prog φ) (zl ⟨zm3 φ, trivial⟩ trivial trivial trivial) (za6 φ) Tryz.func160 (by kernel_rfl) (zon φ) (zol φ)
def z6m (φ : Nat) : H TV (RTup TT [.val 0]) := .x
def z9c (P : Program) (φ : Nat) : Env TV := ⟨P, lk [(40, z2z φ), (39, za5 φ)], lk [], lk [], lk []⟩
theorem zki (φ : Nat) (a) : (z4x φ).F a = fnX TV (z9c Tryz.prog φ) φ Tryz.f139 [3, 3] [.val 0] (z6m φ) a := by kernel_rfl
theorem zjz (φ : Nat) : fnO TV (z9c Tryz.prog φ) φ Tryz.f139 [.val 0] (z6m φ) := by
 unfold fnO
 show obl _ _ _ _ _ _ _
 unfold z6m
 repeat' (first | exact trivial | (refine ⟨?_, ?_⟩) | (intro _) | kernel_rfl)
theorem z94 [Dr] (φ : Nat) : z21 TV Tryz.prog 139 (z4x φ) :=
 z36 (N := z9c Tryz.prog φ) (zl ⟨z4u φ, zdj φ, trivial⟩ trivial trivial trivial) (z6m φ) Tryz.func139 (by kernel_rfl) (zki φ) (zjz φ)
def z5g (φ : Nat) : H TV (RTup TT [.val 0]) := .x
def z7p (P : Program) (φ : Nat) : Env TV := ⟨P, lk [(40, z2z φ), (139, z4x φ), (39, za5 φ)], lk [], lk [], lk []⟩
theorem zhx (φ : Nat) (a b) : (z7u φ).F a b = fnXc TV (z7p Tryz.prog φ) φ Tryz.f162 [0, 0] [.b (.val 10)] [.val 0] (z5g φ) a b := by kernel_rfl
theorem zha (φ : Nat) : fnO TV (z7p Tryz.prog φ) φ Tryz.f162 [.val 0] (z5g φ) := by
 unfold fnO
 show obl _ _ _ _ _ _ _
 unfold z5g
 repeat' (first | exact trivial | (refine ⟨?_, ?_⟩) | (intro _) | kernel_rfl)
theorem zhm [Dr] (φ : Nat) : zw1 TV Tryz.prog 162 (z7u φ) :=
 y4n (N := z7p Tryz.prog φ) (zl ⟨z4u φ, z94 φ, zdj φ, trivial⟩ trivial trivial trivial) (z5g φ) Tryz.func162 (by kernel_rfl) (zhx φ) (zha φ)
def z05 (φ : Nat) : H TV (List (TT 0)) := (.seq .x (.body (.loop ⟨[(53, [(0, .own 0), (1, .val 0), (2, .val 0), (3, .cmp 0), (8, .val 0)]), (1, [(0, .own 0)])], [.row 3 0]⟩ (fun n z => z0m φ n z.1 z.2.1 z.2.2.1 z.2.2.2.1 z.2.2.2.2.1) (fun zk10 => (.seq .x (.seq (.body (.seq .x (.body (.loop ⟨[(53, [(0, .own 0), (1, .val 0), (2, .val 0), (3, .cmp 0), (8, .val 0), (9, .val 0)]), (1, [(0, .own 0)])], [.row 3 0]⟩ (fun n z => z0o φ (fun a0 a1 a2 a3 a4 => zk10 (a0, a1, a2, a3, a4, ())) n z.1 z.2.1 z.2.2.1 z.2.2.2.1 z.2.2.2.2.1 z.2.2.2.2.2.1) (fun zk17 => .x))))) .x))))))
def z15 (P : Program) (φ : Nat) : Env TV := ⟨P, lk [], lk [], lk [], lk []⟩
theorem z7x (φ : Nat) (l a) : (z0x φ).F l a = fnM TV (z15 Tryz.prog φ) φ Tryz.f185 3 0 [.val 0, .val 0, .cmp 0] (z05 φ) l a := by kernel_rfl
theorem z7m (φ : Nat) : fnMO TV (z15 Tryz.prog φ) φ Tryz.f185 3 0 (z05 φ) := by
 unfold fnMO
 show obl _ _ _ _ _ _ _
 unfold z05
 repeat' (first | exact trivial | (refine ⟨?_, ?_⟩) | (intro _) | kernel_rfl)
theorem z82 [Dr] (φ : Nat) : zal TV Tryz.prog 185 (z0x φ) := z86 (N := z15 Tryz.prog φ) (zl trivial trivial trivial trivial) (z05 φ) Tryz.func185 (by kernel_rfl) (z7x φ) (z7m φ)
def z0j (φ : Nat) : H TV (List (TT 0)) := (.seq .x (.body (.loop ⟨[(38, [(0, .own 0), (1, .val 0), (2, .val 0), (3, .val 0), (10, .val 0)]), (1, [(0, .own 0)])], [.row 3 0]⟩ (fun n z => z1h φ n z.1 z.2.1 z.2.2.1 z.2.2.2.1 z.2.2.2.2.1) (fun zk11 => .x))))
def z2q (P : Program) (φ : Nat) : Env TV := ⟨P, lk [], lk [], lk [], lk []⟩
theorem z9d (φ : Nat) (l a) : (z2p φ).F l a = fnM TV (z2q Tryz.prog φ) φ Tryz.f190 3 0 [.val 0, .val 0, .val 0, .cmp 0] (z0j φ) l a := by kernel_rfl
theorem z9h (φ : Nat) : fnMO TV (z2q Tryz.prog φ) φ Tryz.f190 3 0 (z0j φ) := by
 unfold fnMO
 show obl _ _ _ _ _ _ _
 unfold z0j
 repeat' (first | exact trivial | (refine ⟨?_, ?_⟩) | (intro _) | kernel_rfl)
theorem za0 [Dr] (φ : Nat) : zal TV Tryz.prog 190 (z2p φ) := z86 (N := z2q Tryz.prog φ) (zl trivial trivial trivial trivial) (z0j φ) Tryz.func190 (by kernel_rfl) (z9d φ) (z9h φ)
def z1e (φ : Nat) : H TV (List (TT 0)) := (.seq .x (.seq .x (.seq (.body (.loop ⟨[(58, [(0, .own 0), (2, .val 0), (4, .cmp 0), (10, .val 0), (11, .val 0)]), (1, [(0, .own 0)])], [.row 3 0]⟩ (fun n z => z0v φ n z.1 z.2.1 z.2.2.1 z.2.2.2.1 z.2.2.2.2.1) (fun zk11 => .x))) .x)))
def z3w (P : Program) (φ : Nat) : Env TV := ⟨P, lk [], lk [(190, z2p φ)], lk [], lk []⟩
theorem zbc (φ : Nat) (l a) : (z3t φ).F l a = fnM TV (z3w Tryz.prog φ) φ Tryz.f188 3 0 [.val 0, .val 0, .val 0, .cmp 0] (z1e φ) l a := by kernel_rfl
theorem zbd (φ : Nat) : fnMO TV (z3w Tryz.prog φ) φ Tryz.f188 3 0 (z1e φ) := by
 unfold fnMO
 show obl _ _ _ _ _ _ _
 unfold z1e
 repeat' (first | exact trivial | (refine ⟨?_, ?_⟩) | (intro _) | kernel_rfl)
theorem zbl [Dr] (φ : Nat) : zal TV Tryz.prog 188 (z3t φ) := z86 (N := z3w Tryz.prog φ) (zl trivial ⟨(za0 φ), trivial⟩ trivial trivial) (z1e φ) Tryz.func188 (by kernel_rfl) (zbc φ) (zbd φ)
def z0q (φ d : Nat) : H TV (List (TT 0)) := (.seq (.seq .x (.cond (.seq .x (.seq .x (.seq (.body (.loop ⟨[(220, [(0, .own 0), (1, .val 0), (4, .cmp 0), (10, .val 0), (11, .val 0)]), (1, [(0, .own 0)])], [.row 3 0]⟩ (fun n z => z0f φ n z.1 z.2.1 z.2.2.1 z.2.2.2.1 z.2.2.2.2.1) (fun zk11 => .x))) (.seq (.seq .x (.body (.loop ⟨[(220, [(0, .own 0), (10, .val 0), (13, .val 0)]), (1, [(0, .own 0)])], [.row 3 0]⟩ (fun n z => z1w φ n z.1 z.2.1 z.2.2.1) (fun zk16 => .x)))) .x)))) .x)) (.seq (.seq .x (.cond (.seq .x (.seq .x (.seq (.body (.loop ⟨[(220, [(0, .own 0), (2, .val 0), (4, .cmp 0), (14, .val 0), (15, .val 0)]), (1, [(0, .own 0)])], [.row 3 0]⟩ (fun n z => z0g φ n z.1 z.2.1 z.2.2.1 z.2.2.2.1 z.2.2.2.2.1) (fun zk22 => .x))) (.seq (.seq .x (.body (.loop ⟨[(220, [(0, .own 0), (14, .val 0), (17, .val 0)]), (1, [(0, .own 0)])], [.row 3 0]⟩ (fun n z => z2c φ n z.1 z.2.1 z.2.2.1) (fun zk27 => .x)))) .x)))) .x)) (.seq .x (.seq .x (.seq .x (.seq (.join ⟨[(220, [(0, .own 0), (1, .val 0), (2, .val 0), (3, .val 0), (4, .cmp 0), (18, .val 0), (19, .val 0), (20, .val 0), (21, .val 0)]), (1, [(0, .own 0)])], [.row 3 0]⟩ (fun z => z1v φ (zh φ d) z.1 z.2.1 z.2.2.1 z.2.2.2.1 z.2.2.2.2.1 z.2.2.2.2.2.1 z.2.2.2.2.2.2.1 z.2.2.2.2.2.2.2.1 z.2.2.2.2.2.2.2.2.1) (.seq .x .x)) (.seq .x (.seq (.body (.loop ⟨[(220, [(0, .own 0), (1, .val 0), (2, .val 0), (3, .val 0), (4, .cmp 0), (18, .val 0), (19, .val 0), (20, .val 0), (21, .val 0), (22, .val 0)]), (1, [(0, .own 0)])], [.row 3 0]⟩ (fun n z => z0e φ (zh φ d) n z.1 z.2.1 z.2.2.1 z.2.2.2.1 z.2.2.2.2.1 z.2.2.2.2.2.1 z.2.2.2.2.2.2.1 z.2.2.2.2.2.2.2.1 z.2.2.2.2.2.2.2.2.1 z.2.2.2.2.2.2.2.2.2.1) (fun zk48 => .x))) (.seq .x (.seq (.join ⟨[(220, [(0, .own 0), (1, .val 0), (3, .val 0), (4, .cmp 0), (18, .val 0), (20, .val 0), (24, .val 0)]), (1, [(0, .own 0)])], [.row 3 0]⟩ (fun z => z2b φ (zh φ d) z.1 z.2.1 z.2.2.1 z.2.2.2.1 z.2.2.2.2.1 z.2.2.2.2.2.1 z.2.2.2.2.2.2.1) (.seq .x .x)) (.seq (.join ⟨[(220, [(0, .own 0), (3, .val 0), (4, .cmp 0), (18, .val 0), (24, .val 0)]), (1, [(0, .own 0)])], [.row 3 0]⟩ (fun z => z2e φ (zh φ d) z.1 z.2.1 z.2.2.1 z.2.2.2.1 z.2.2.2.2.1) (.seq .x .x)) .x)))))))))))
def z2t (P : Program) (φ d : Nat) : Env TV := ⟨P, lk [], lk [(188, z3t φ), (186, z0u φ d)], lk [], lk []⟩
theorem zac (φ d : Nat) (l a) : (z0u φ (d + 1)).F l a = fnM TV (z2t Tryz.prog φ d) φ Tryz.f186 3 0 [.val 0, .val 0, .val 0, .cmp 0] (z0q φ d) l a := by kernel_rfl
theorem za9 (φ d : Nat) : fnMO TV (z2t Tryz.prog φ d) φ Tryz.f186 3 0 (z0q φ d) := by
 unfold fnMO
 show obl _ _ _ _ _ _ _
 unfold z0q
 repeat' (first | exact trivial | (refine ⟨?_, ?_⟩) | (intro _) | kernel_rfl)
theorem z5e [Dr] (φ : Nat) : ∀ d, zal TV Tryz.prog 186 (z0u φ d)
 | 0 => fun l a l2 sv h => absurd (show (none : Option (List (TT 0))) = some l2 from h) (fun q => by cases q)
 | d + 1 => z86 (N := z2t Tryz.prog φ d) (zl trivial ⟨(zbl φ), (z5e φ d), trivial⟩ trivial trivial) (z0q φ d) Tryz.func186 (by kernel_rfl) (zac φ d) (za9 φ d)
def z1b (φ : Nat) : H TV (List (TT 0)) := (.seq .x (.seq .x (.seq (.body (.loop ⟨[(63, [(0, .own 0), (1, .val 0), (2, .cmp 0), (6, .val 0), (7, .val 0), (8, .val 0)]), (1, [(0, .own 0)])], [.row 3 0]⟩ (fun n z => z30 φ n z.1 z.2.1 z.2.2.1 z.2.2.2.1 z.2.2.2.2.1 z.2.2.2.2.2.1) (fun zk10 => .x))) (.seq .x (.body (.loop ⟨[(63, [(0, .own 0), (1, .val 0), (2, .cmp 0), (6, .val 0)]), (1, [(0, .own 0)])], [.row 3 0]⟩ (fun n z => z34 φ n z.1 z.2.1 z.2.2.1 z.2.2.2.1) (fun zk17 => (.seq .x (.body (.seq .x (.seq (.body (.loop ⟨[(63, [(0, .own 0), (1, .val 0), (2, .cmp 0), (6, .val 0), (7, .val 0), (8, .val 0)]), (1, [(0, .own 0)])], [.row 3 0]⟩ (fun n z => z31 φ (fun a0 a1 a2 a3 => zk17 (a0, a1, a2, a3, ())) n z.1 z.2.1 z.2.2.1 z.2.2.2.1 z.2.2.2.2.1 z.2.2.2.2.2.1) (fun zk24 => .x))) .x)))))))))))
def z3p (P : Program) (φ : Nat) : Env TV := ⟨P, lk [], lk [(185, z0x φ), (186, z0u φ φ)], lk [], lk []⟩
theorem zbh (φ : Nat) (l a) : (z3s φ).F l a = fnM TV (z3p Tryz.prog φ) φ Tryz.f179 3 0 [.val 0, .cmp 0] (z1b φ) l a := by kernel_rfl
theorem zbi (φ : Nat) : fnMO TV (z3p Tryz.prog φ) φ Tryz.f179 3 0 (z1b φ) := by
 unfold fnMO
 show obl _ _ _ _ _ _ _
 unfold z1b
 repeat' (first | exact trivial | (refine ⟨?_, ?_⟩) | (intro _) | kernel_rfl)
theorem zbj [Dr] (φ : Nat) : zal TV Tryz.prog 179 (z3s φ) := z86 (N := z3p Tryz.prog φ) (zl trivial ⟨(z82 φ), (z5e φ φ), trivial⟩ trivial trivial) (z1b φ) Tryz.func179 (by kernel_rfl) (zbh φ) (zbi φ)
def z0z (φ : Nat) : H TV (List (TT 0)) := .x
def z3f (P : Program) (φ : Nat) : Env TV := ⟨P, lk [], lk [(179, z3s φ)], lk [], lk []⟩
theorem zah (φ : Nat) (l a) : (z38 φ).F l a = fnM TV (z3f Tryz.prog φ) φ Tryz.f161 3 0 [.cmp 0] (z0z φ) l a := by kernel_rfl
theorem zbb (φ : Nat) : fnMO TV (z3f Tryz.prog φ) φ Tryz.f161 3 0 (z0z φ) := by
 unfold fnMO
 show obl _ _ _ _ _ _ _
 unfold z0z
 repeat' (first | exact trivial | (refine ⟨?_, ?_⟩) | (intro _) | kernel_rfl)
theorem zao [Dr] (φ : Nat) : zal TV Tryz.prog 161 (z38 φ) := z86 (N := z3f Tryz.prog φ) (zl trivial ⟨(zbj φ), trivial⟩ trivial trivial) (z0z φ) Tryz.func161 (by kernel_rfl) (zah φ) (zbb φ)
def z5t (φ : Nat) : H TV (RTup TT [.val 1]) := .x
def z8a (P : Program) (φ : Nat) : Env TV := ⟨P, lk [], lk [], lk [], lk []⟩
theorem zin (φ : Nat) (a) : (z8c φ).F a = fnX TV (z8a Tryz.prog φ) φ Tryz.f163 [39, 7] [.val 1] (z5t φ) a := by kernel_rfl
theorem zis (φ : Nat) : fnO TV (z8a Tryz.prog φ) φ Tryz.f163 [.val 1] (z5t φ) := by
 unfold fnO
 show obl _ _ _ _ _ _ _
 unfold z5t
 repeat' (first | exact trivial | (refine ⟨?_, ?_⟩) | (intro _) | kernel_rfl)
theorem zil [Dr] (φ : Nat) : z21 TV Tryz.prog 163 (z8c φ) :=
 z36 (N := z8a Tryz.prog φ) (zl trivial trivial trivial trivial) (z5t φ) Tryz.func163 (by kernel_rfl) (zin φ) (zis φ)
def z8t (φ : Nat) : H TV (RTup TT [.val 0]) := .x
def zcm (P : Program) (φ : Nat) : Env TV := ⟨P, lk [], lk [], lk [], lk []⟩
theorem znd (φ : Nat) (a) : (zca φ).F a = fnX TV (zcm Tryz.prog φ) φ Tryz.f164 [7, 7] [.val 0] (z8t φ) a := by kernel_rfl
theorem znn (φ : Nat) : fnO TV (zcm Tryz.prog φ) φ Tryz.f164 [.val 0] (z8t φ) := by
 unfold fnO
 show obl _ _ _ _ _ _ _
 unfold z8t
 repeat' (first | exact trivial | (refine ⟨?_, ?_⟩) | (intro _) | kernel_rfl)
theorem zni [Dr] (φ : Nat) : z21 TV Tryz.prog 164 (zca φ) :=
 z36 (N := zcm Tryz.prog φ) (zl trivial trivial trivial trivial) (z8t φ) Tryz.func164 (by kernel_rfl) (znd φ) (znn φ)
def z6n (φ : Nat) : H TV (RTup TT [.val 43]) := (.seq .x (.seq .x (.seq .x (.seq .x (.seq .x (.seq .x (.seq (.seq .x (.body (.loop ⟨[(137, [(2, .ptr 0 0), (3, .ptr 1 0), (6, .own 2), (7, .own 3), (8, .own 4), (29, .own 5), (30, .val 0), (31, .val 0)])], [.box 51 [.val 39], .box 22 [.val 10], .row 3 0, .map 0 1 0, .row 200 42, .row 3 0]⟩ (fun n z => z5h φ n z.1 z.2.1 z.2.2.1 z.2.2.2.1 z.2.2.2.2.1 z.2.2.2.2.2.1 z.2.2.2.2.2.2.1 z.2.2.2.2.2.2.2.1) (fun zk15 => (.seq .x (.seq .x (.seq (.body (.seq .x (.body (.seq .x (.seq .x (.seq .x (.seq .x (.seq (.seq .x (.body (.loop ⟨[(137, [(2, .ptr 0 0), (3, .ptr 1 0), (6, .own 2), (7, .own 3), (8, .own 4), (10, .val 0), (11, .ptr 5 0), (12, .val 0), (29, .own 6), (30, .val 0), (31, .val 0), (43, .own 2), (44, .val 0), (45, .val 0)])], [.box 51 [.val 39], .box 22 [.val 10], .row 3 0, .map 0 1 0, .row 200 42, .box 57 [.val 7], .row 3 0]⟩ (fun n z => z41 φ (fun a0 a1 a2 a3 a4 a5 a6 a7 => zk15 (a0, a1, a2, a3, a4, a5, a6, a7, ())) n z.1 z.2.1 z.2.2.1 z.2.2.2.1 z.2.2.2.2.1 z.2.2.2.2.2.1 z.2.2.2.2.2.2.1 z.2.2.2.2.2.2.2.1 z.2.2.2.2.2.2.2.2.1 z.2.2.2.2.2.2.2.2.2.1 z.2.2.2.2.2.2.2.2.2.2.1 z.2.2.2.2.2.2.2.2.2.2.2.1 z.2.2.2.2.2.2.2.2.2.2.2.2.1) (fun zk30 => .x)))) .x)))))))) .x))))))) .x)))))))
def z9q (P : Program) (φ : Nat) : Env TV := ⟨P, lk [(49, z37 φ), (160, zds φ), (163, z8c φ), (164, zca φ), (40, z2z φ), (139, z4x φ), (39, za5 φ)], lk [(161, z38 φ)], lk [(162, z7u φ)], lk []⟩
theorem zkf (φ : Nat) (a) : (z98 φ).F a = fnX TV (z9q Tryz.prog φ) φ Tryz.f136 [39, 10] [.val 43] (z6n φ) a := by kernel_rfl
theorem zkt (φ : Nat) : fnO TV (z9q Tryz.prog φ) φ Tryz.f136 [.val 43] (z6n φ) := by
 unfold fnO
 show obl _ _ _ _ _ _ _
 unfold z6n
 repeat' (first | exact trivial | (refine ⟨?_, ?_⟩) | (intro _) | kernel_rfl)
theorem zkg [Dr] (φ : Nat) : z21 TV Tryz.prog 136 (z98 φ) :=
 z36 (N := z9q Tryz.prog φ) (zl ⟨z5z φ, zoq φ, zil φ, zni φ, z4u φ, z94 φ, zdj φ, trivial⟩ ⟨(zao φ), trivial⟩ ⟨zhm φ, trivial⟩ trivial) (z6n φ) Tryz.func136 (by kernel_rfl) (zkf φ) (zkt φ)
def z06 (φ : Nat) : H TV (List (TT 44)) := (.seq .x (.body (.loop ⟨[(53, [(0, .own 0), (1, .val 0), (2, .val 0), (3, .cmp 44), (8, .val 0)]), (1, [(0, .own 0)])], [.row 165 44]⟩ (fun n z => z0n φ n z.1 z.2.1 z.2.2.1 z.2.2.2.1 z.2.2.2.2.1) (fun zk10 => (.seq .x (.seq (.body (.seq .x (.body (.loop ⟨[(53, [(0, .own 0), (1, .val 0), (2, .val 0), (3, .cmp 44), (8, .val 0), (9, .val 0)]), (1, [(0, .own 0)])], [.row 165 44]⟩ (fun n z => z0l φ (fun a0 a1 a2 a3 a4 => zk10 (a0, a1, a2, a3, a4, ())) n z.1 z.2.1 z.2.2.1 z.2.2.2.1 z.2.2.2.2.1 z.2.2.2.2.2.1) (fun zk17 => .x))))) .x))))))
def z19 (P : Program) (φ : Nat) : Env TV := ⟨P, lk [], lk [], lk [], lk []⟩
theorem z81 (φ : Nat) (l a) : (z12 φ).F l a = fnM TV (z19 Tryz.prog φ) φ Tryz.f180 165 44 [.val 0, .val 0, .cmp 44] (z06 φ) l a := by kernel_rfl
theorem z83 (φ : Nat) : fnMO TV (z19 Tryz.prog φ) φ Tryz.f180 165 44 (z06 φ) := by
 unfold fnMO
 show obl _ _ _ _ _ _ _
 unfold z06
 repeat' (first | exact trivial | (refine ⟨?_, ?_⟩) | (intro _) | kernel_rfl)
theorem z7c [Dr] (φ : Nat) : zal TV Tryz.prog 180 (z12 φ) := z86 (N := z19 Tryz.prog φ) (zl trivial trivial trivial trivial) (z06 φ) Tryz.func180 (by kernel_rfl) (z81 φ) (z83 φ)
def z0i (φ : Nat) : H TV (List (TT 44)) := (.seq .x (.body (.loop ⟨[(38, [(0, .own 0), (1, .val 0), (2, .val 0), (3, .val 0), (10, .val 0)]), (1, [(0, .own 0)])], [.row 165 44]⟩ (fun n z => z1o φ n z.1 z.2.1 z.2.2.1 z.2.2.2.1 z.2.2.2.2.1) (fun zk11 => .x))))
def z2n (P : Program) (φ : Nat) : Env TV := ⟨P, lk [], lk [], lk [], lk []⟩
theorem z9b (φ : Nat) (l a) : (z2k φ).F l a = fnM TV (z2n Tryz.prog φ) φ Tryz.f189 165 44 [.val 0, .val 0, .val 0, .cmp 44] (z0i φ) l a := by kernel_rfl
theorem z9w (φ : Nat) : fnMO TV (z2n Tryz.prog φ) φ Tryz.f189 165 44 (z0i φ) := by
 unfold fnMO
 show obl _ _ _ _ _ _ _
 unfold z0i
 repeat' (first | exact trivial | (refine ⟨?_, ?_⟩) | (intro _) | kernel_rfl)
theorem z9x [Dr] (φ : Nat) : zal TV Tryz.prog 189 (z2k φ) := z86 (N := z2n Tryz.prog φ) (zl trivial trivial trivial trivial) (z0i φ) Tryz.func189 (by kernel_rfl) (z9b φ) (z9w φ)
def z1g (φ : Nat) : H TV (List (TT 44)) := (.seq .x (.seq .x (.seq (.body (.loop ⟨[(58, [(0, .own 0), (2, .val 0), (4, .cmp 44), (10, .val 0), (11, .val 0)]), (1, [(0, .own 0)])], [.row 165 44]⟩ (fun n z => z0t φ n z.1 z.2.1 z.2.2.1 z.2.2.2.1 z.2.2.2.2.1) (fun zk11 => .x))) .x)))
def z3l (P : Program) (φ : Nat) : Env TV := ⟨P, lk [], lk [(189, z2k φ)], lk [], lk []⟩
theorem zbm (φ : Nat) (l a) : (z3q φ).F l a = fnM TV (z3l Tryz.prog φ) φ Tryz.f187 165 44 [.val 0, .val 0, .val 0, .cmp 44] (z1g φ) l a := by kernel_rfl
theorem zbg (φ : Nat) : fnMO TV (z3l Tryz.prog φ) φ Tryz.f187 165 44 (z1g φ) := by
 unfold fnMO
 show obl _ _ _ _ _ _ _
 unfold z1g
 repeat' (first | exact trivial | (refine ⟨?_, ?_⟩) | (intro _) | kernel_rfl)
theorem zbe [Dr] (φ : Nat) : zal TV Tryz.prog 187 (z3q φ) := z86 (N := z3l Tryz.prog φ) (zl trivial ⟨(z9x φ), trivial⟩ trivial trivial) (z1g φ) Tryz.func187 (by kernel_rfl) (zbm φ) (zbg φ)
def z0r (φ d : Nat) : H TV (List (TT 44)) := (.seq (.seq .x (.cond (.seq .x (.seq .x (.seq (.body (.loop ⟨[(220, [(0, .own 0), (1, .val 0), (4, .cmp 44), (10, .val 0), (11, .val 0)]), (1, [(0, .own 0)])], [.row 165 44]⟩ (fun n z => z0a φ n z.1 z.2.1 z.2.2.1 z.2.2.2.1 z.2.2.2.2.1) (fun zk11 => .x))) (.seq (.seq .x (.body (.loop ⟨[(220, [(0, .own 0), (10, .val 0), (13, .val 0)]), (1, [(0, .own 0)])], [.row 165 44]⟩ (fun n z => z1y φ n z.1 z.2.1 z.2.2.1) (fun zk16 => .x)))) .x)))) .x)) (.seq (.seq .x (.cond (.seq .x (.seq .x (.seq (.body (.loop ⟨[(220, [(0, .own 0), (2, .val 0), (4, .cmp 44), (14, .val 0), (15, .val 0)]), (1, [(0, .own 0)])], [.row 165 44]⟩ (fun n z => z0b φ n z.1 z.2.1 z.2.2.1 z.2.2.2.1 z.2.2.2.2.1) (fun zk22 => .x))) (.seq (.seq .x (.body (.loop ⟨[(220, [(0, .own 0), (14, .val 0), (17, .val 0)]), (1, [(0, .own 0)])], [.row 165 44]⟩ (fun n z => z2a φ n z.1 z.2.1 z.2.2.1) (fun zk27 => .x)))) .x)))) .x)) (.seq .x (.seq .x (.seq .x (.seq (.join ⟨[(220, [(0, .own 0), (1, .val 0), (2, .val 0), (3, .val 0), (4, .cmp 44), (18, .val 0), (19, .val 0), (20, .val 0), (21, .val 0)]), (1, [(0, .own 0)])], [.row 165 44]⟩ (fun z => z29 φ (zi φ d) z.1 z.2.1 z.2.2.1 z.2.2.2.1 z.2.2.2.2.1 z.2.2.2.2.2.1 z.2.2.2.2.2.2.1 z.2.2.2.2.2.2.2.1 z.2.2.2.2.2.2.2.2.1) (.seq .x .x)) (.seq .x (.seq (.body (.loop ⟨[(220, [(0, .own 0), (1, .val 0), (2, .val 0), (3, .val 0), (4, .cmp 44), (18, .val 0), (19, .val 0), (20, .val 0), (21, .val 0), (22, .val 0)]), (1, [(0, .own 0)])], [.row 165 44]⟩ (fun n z => z0c φ (zi φ d) n z.1 z.2.1 z.2.2.1 z.2.2.2.1 z.2.2.2.2.1 z.2.2.2.2.2.1 z.2.2.2.2.2.2.1 z.2.2.2.2.2.2.2.1 z.2.2.2.2.2.2.2.2.1 z.2.2.2.2.2.2.2.2.2.1) (fun zk48 => .x))) (.seq .x (.seq (.join ⟨[(220, [(0, .own 0), (1, .val 0), (3, .val 0), (4, .cmp 44), (18, .val 0), (20, .val 0), (24, .val 0)]), (1, [(0, .own 0)])], [.row 165 44]⟩ (fun z => z20 φ (zi φ d) z.1 z.2.1 z.2.2.1 z.2.2.2.1 z.2.2.2.2.1 z.2.2.2.2.2.1 z.2.2.2.2.2.2.1) (.seq .x .x)) (.seq (.join ⟨[(220, [(0, .own 0), (3, .val 0), (4, .cmp 44), (18, .val 0), (24, .val 0)]), (1, [(0, .own 0)])], [.row 165 44]⟩ (fun z => z1x φ (zi φ d) z.1 z.2.1 z.2.2.1 z.2.2.2.1 z.2.2.2.2.1) (.seq .x .x)) .x)))))))))))
def z2y (P : Program) (φ d : Nat) : Env TV := ⟨P, lk [], lk [(187, z3q φ), (181, z0s φ d)], lk [], lk []⟩
theorem za8 (φ d : Nat) (l a) : (z0s φ (d + 1)).F l a = fnM TV (z2y Tryz.prog φ d) φ Tryz.f181 165 44 [.val 0, .val 0, .val 0, .cmp 44] (z0r φ d) l a := by kernel_rfl
theorem za7 (φ d : Nat) : fnMO TV (z2y Tryz.prog φ d) φ Tryz.f181 165 44 (z0r φ d) := by
 unfold fnMO
 show obl _ _ _ _ _ _ _
 unfold z0r
 repeat' (first | exact trivial | (refine ⟨?_, ?_⟩) | (intro _) | kernel_rfl)
theorem z5c [Dr] (φ : Nat) : ∀ d, zal TV Tryz.prog 181 (z0s φ d)
 | 0 => fun l a l2 sv h => absurd (show (none : Option (List (TT 44))) = some l2 from h) (fun q => by cases q)
 | d + 1 => z86 (N := z2y Tryz.prog φ d) (zl trivial ⟨(zbe φ), (z5c φ d), trivial⟩ trivial trivial) (z0r φ d) Tryz.func181 (by kernel_rfl) (za8 φ d) (za7 φ d)
def z1d (φ : Nat) : H TV (List (TT 44)) := (.seq .x (.seq .x (.seq (.body (.loop ⟨[(63, [(0, .own 0), (1, .val 0), (2, .cmp 44), (6, .val 0), (7, .val 0), (8, .val 0)]), (1, [(0, .own 0)])], [.row 165 44]⟩ (fun n z => z35 φ n z.1 z.2.1 z.2.2.1 z.2.2.2.1 z.2.2.2.2.1 z.2.2.2.2.2.1) (fun zk10 => .x))) (.seq .x (.body (.loop ⟨[(63, [(0, .own 0), (1, .val 0), (2, .cmp 44), (6, .val 0)]), (1, [(0, .own 0)])], [.row 165 44]⟩ (fun n z => z2s φ n z.1 z.2.1 z.2.2.1 z.2.2.2.1) (fun zk17 => (.seq .x (.body (.seq .x (.seq (.body (.loop ⟨[(63, [(0, .own 0), (1, .val 0), (2, .cmp 44), (6, .val 0), (7, .val 0), (8, .val 0)]), (1, [(0, .own 0)])], [.row 165 44]⟩ (fun n z => z2r φ (fun a0 a1 a2 a3 => zk17 (a0, a1, a2, a3, ())) n z.1 z.2.1 z.2.2.1 z.2.2.2.1 z.2.2.2.2.1 z.2.2.2.2.2.1) (fun zk24 => .x))) .x)))))))))))
def z3x (P : Program) (φ : Nat) : Env TV := ⟨P, lk [], lk [(180, z12 φ), (181, z0s φ φ)], lk [], lk []⟩
theorem zbo (φ : Nat) (l a) : (z3r φ).F l a = fnM TV (z3x Tryz.prog φ) φ Tryz.f165 165 44 [.val 0, .cmp 44] (z1d φ) l a := by kernel_rfl
theorem zbf (φ : Nat) : fnMO TV (z3x Tryz.prog φ) φ Tryz.f165 165 44 (z1d φ) := by
 unfold fnMO
 show obl _ _ _ _ _ _ _
 unfold z1d
 repeat' (first | exact trivial | (refine ⟨?_, ?_⟩) | (intro _) | kernel_rfl)
theorem zbn [Dr] (φ : Nat) : zal TV Tryz.prog 165 (z3r φ) := z86 (N := z3x Tryz.prog φ) (zl trivial ⟨(z7c φ), (z5c φ φ), trivial⟩ trivial trivial) (z1d φ) Tryz.func165 (by kernel_rfl) (zbo φ) (zbf φ)
def z13 (φ : Nat) : H TV (List (TT 44)) := .x
def z3c (P : Program) (φ : Nat) : Env TV := ⟨P, lk [], lk [(165, z3r φ)], lk [], lk []⟩
theorem zb0 (φ : Nat) (l a) : (z3e φ).F l a = fnM TV (z3c Tryz.prog φ) φ Tryz.f137 165 44 [.cmp 44] (z13 φ) l a := by kernel_rfl
theorem zak (φ : Nat) : fnMO TV (z3c Tryz.prog φ) φ Tryz.f137 165 44 (z13 φ) := by
 unfold fnMO
 show obl _ _ _ _ _ _ _
 unfold z13
 repeat' (first | exact trivial | (refine ⟨?_, ?_⟩) | (intro _) | kernel_rfl)
theorem zat [Dr] (φ : Nat) : zal TV Tryz.prog 137 (z3e φ) := z86 (N := z3c Tryz.prog φ) (zl trivial ⟨(zbn φ), trivial⟩ trivial trivial) (z13 φ) Tryz.func137 (by kernel_rfl) (zb0 φ) (zak φ)
def z5d (φ : Nat) : H TV (RTup TT [.val 0]) := .x
def z7o (P : Program) (φ : Nat) : Env TV := ⟨P, lk [(40, z2z φ), (139, z4x φ), (39, za5 φ)], lk [], lk [], lk []⟩
theorem zi0 (φ : Nat) (a) : (z7r φ).F a = fnX TV (z7o Tryz.prog φ) φ Tryz.f138 [44, 44] [.val 0] (z5d φ) a := by kernel_rfl
theorem zhh (φ : Nat) : fnO TV (z7o Tryz.prog φ) φ Tryz.f138 [.val 0] (z5d φ) := by
 unfold fnO
 show obl _ _ _ _ _ _ _
 unfold z5d
 repeat' (first | exact trivial | (refine ⟨?_, ?_⟩) | (intro _) | kernel_rfl)
theorem zhi [Dr] (φ : Nat) : z21 TV Tryz.prog 138 (z7r φ) :=
 z36 (N := z7o Tryz.prog φ) (zl ⟨z4u φ, z94 φ, zdj φ, trivial⟩ trivial trivial trivial) (z5d φ) Tryz.func138 (by kernel_rfl) (zi0 φ) (zhh φ)
theorem zf9 (φ : Nat) (k9 : ((List z6) -> (List (Nat -> Int)) -> Int -> Int -> (List z7) -> Option ((List z7) × Unit))) (x18 : (List z6)) (x19 : (List (Nat -> Int))) (x20 : Int) (x21 : Int) (x22 : (List z7)) (x23 : (Nat -> Int)) : z8d (z5b φ k9 x18 x19 x20 x21 x22 x23) (z6p φ k9 x18 x19 x20 x21 x22 x23) := by
 unfold z5b z6p
 repeat' (first | exact z8d.one | exact z8d.nil | refine z8d.cons ?_ ?_ | refine z8d.ck ?_ | exact z8d.same (n := 2) rfl | exact z8d.same (n := 3) rfl | exact z8d.same (n := 4) rfl | exact z8d.same (n := 6) rfl | refine z8d.bind fun _ => ?_)
def z6h (φ : Nat) : H TV (RTup TT [.val 45]) := (.seq .x (.seq .x (.seq (.seq .x (.body (.loop ⟨[(67, [(1, .val 10), (5, .own 0), (12, .val 43), (13, .val 0), (14, .val 0)])], [.row 165 44]⟩ (fun n z => z8h φ n z.1 z.2.1 z.2.2.1 z.2.2.2.1 z.2.2.2.2.1) (fun zk9 => (.seq .x (.seq .x (.seq (.body (.seq .x (.seq (.join ⟨[(67, [(1, .val 10), (5, .own 0), (8, .ptr 1 0), (9, .ptr 2 0), (12, .val 43), (13, .val 0), (14, .val 0)])], [.row 165 44, .box 57 [.val 7], .box 57 [.val 7]]⟩ (fun z => z5f φ (fun a0 a1 a2 a3 a4 => zk9 (a0, a1, a2, a3, a4, ())) z.1 z.2.1 z.2.2.1 z.2.2.2.1 z.2.2.2.2.1 z.2.2.2.2.2.1 z.2.2.2.2.2.2.1) (.alt ⟨[(67, [(1, .val 10), (5, .own 0), (7, .ptr 1 0), (12, .val 43), (13, .val 0), (14, .val 0)])], [.row 165 44, .box 200 [.val 42]]⟩ (fun z => z5b φ (fun a0 a1 a2 a3 a4 => zk9 (a0, a1, a2, a3, a4, ())) z.1 z.2.1 z.2.2.1 z.2.2.2.1 z.2.2.2.2.1 z.2.2.2.2.2.1) (fun z => z6p φ (fun a0 a1 a2 a3 a4 => zk9 (a0, a1, a2, a3, a4, ())) z.1 z.2.1 z.2.2.1 z.2.2.2.1 z.2.2.2.2.1 z.2.2.2.2.2.1))) .x))) .x))))))) .x)))
def z9f (P : Program) (φ : Nat) : Env TV := ⟨P, lk [(136, z98 φ), (138, z7r φ)], lk [(137, z3e φ)], lk [], lk []⟩
theorem zjy (φ : Nat) (a) : (z9n φ).F a = fnX TV (z9f Tryz.prog φ) φ Tryz.f98 [39, 10] [.val 45] (z6h φ) a := by kernel_rfl
theorem zkp (φ : Nat) : fnO TV (z9f Tryz.prog φ) φ Tryz.f98 [.val 45] (z6h φ) := by
 unfold fnO
 show obl _ _ _ _ _ _ _
 unfold z6h
 repeat' (first | exact trivial | (refine ⟨?_, ?_⟩) | (intro _) | kernel_rfl | exact zf9 ..)
theorem zkk [Dr] (φ : Nat) : z21 TV Tryz.prog 98 (z9n φ) :=
 z36 (N := z9f Tryz.prog φ) (zl ⟨zkg φ, zhi φ, trivial⟩ ⟨(zat φ), trivial⟩ trivial trivial) (z6h φ) Tryz.func98 (by kernel_rfl) (zjy φ) (zkp φ)
def z6j (φ : Nat) : H TV (RTup TT [.val 47]) := (.seq .x (.seq .x (.seq (.seq .x (.body (.loop ⟨[(72, [(2, .val 0), (7, .own 0), (28, .val 45), (29, .val 0), (30, .val 0)])], [.row 127 46]⟩ (fun n z => z5a φ n z.1 z.2.1 z.2.2.1 z.2.2.2.1 z.2.2.2.2.1) (fun zk10 => .x)))) .x)))
def z9a (P : Program) (φ : Nat) : Env TV := ⟨P, lk [(98, z9n φ)], lk [], lk [], lk []⟩
theorem zjv (φ : Nat) (a) : (z9u φ).F a = fnX TV (z9a Tryz.prog φ) φ Tryz.f62 [39, 10, 0] [.val 47] (z6j φ) a := by kernel_rfl
theorem zjx (φ : Nat) : fnO TV (z9a Tryz.prog φ) φ Tryz.f62 [.val 47] (z6j φ) := by
 unfold fnO
 show obl _ _ _ _ _ _ _
 unfold z6j
 repeat' (first | exact trivial | (refine ⟨?_, ?_⟩) | (intro _) | kernel_rfl)
theorem zkv [Dr] (φ : Nat) : z21 TV Tryz.prog 62 (z9u φ) :=
 z36 (N := z9a Tryz.prog φ) (zl ⟨zkk φ, trivial⟩ trivial trivial trivial) (z6j φ) Tryz.func62 (by kernel_rfl) (zjv φ) (zjx φ)
def zad (φ : Nat) : H TV (RTup TT [.val 0, .val 0]) := (.seq .x (.seq .x (.seq .x (.seq .x (.seq (.body (.loop ⟨[(42, [(3, .val 0), (11, .val 47), (12, .val 0)])], []⟩ (fun n z => zb8 φ n z.1 z.2.1 z.2.2.1) (fun zk10 => .x))) .x)))))
def zd9 (P : Program) (φ : Nat) : Env TV := ⟨P, lk [(61, z9p φ), (62, z9u φ)], lk [], lk [], lk []⟩
theorem zp6 (φ : Nat) (a) : (zdn φ).F a = fnX TV (zd9 Tryz.prog φ) φ Tryz.f32 [39, 10, 0, 0] [.val 0, .val 0] (zad φ) a := by kernel_rfl
theorem zpw (φ : Nat) : fnO TV (zd9 Tryz.prog φ) φ Tryz.f32 [.val 0, .val 0] (zad φ) := by
 unfold fnO
 show obl _ _ _ _ _ _ _
 unfold zad
 repeat' (first | exact trivial | (refine ⟨?_, ?_⟩) | (intro _) | kernel_rfl)
theorem zoh [Dr] (φ : Nat) : z21 TV Tryz.prog 32 (zdn φ) :=
 z36 (N := zd9 Tryz.prog φ) (zl ⟨zju φ, zkv φ, trivial⟩ trivial trivial trivial) (zad φ) Tryz.func32 (by kernel_rfl) (zp6 φ) (zpw φ)
def z8q (φ : Nat) : H TV (RTup TT [.val 0, .val 0]) := (.seq .x (.seq .x (.seq .x (.seq .x (.seq (.seq .x (.body (.loop ⟨[(116, [(1, .val 10), (3, .ptr 0 0), (5, .ptr 1 0), (9, .ptr 2 0), (35, .val 5), (36, .val 0), (37, .val 0)])], [.box 51 [.val 39], .box 57 [.val 7], .box 114 [.own 3], .map 9 1 0]⟩ (fun n z => z6e φ n z.1 z.2.1 z.2.2.1 z.2.2.2.1 z.2.2.2.2.1 z.2.2.2.2.2.1 z.2.2.2.2.2.2.1) (fun zk13 => .x)))) (.seq .x (.seq (.seq .x (.body (.loop ⟨[(116, [(1, .val 10), (3, .ptr 0 0), (5, .ptr 1 0), (9, .ptr 2 0), (12, .own 3), (48, .val 10), (49, .val 0), (50, .val 0)])], [.box 51 [.val 39], .box 57 [.val 7], .box 114 [.own 4], .row 57 7, .map 9 1 0]⟩ (fun n z => z9o φ n z.1 z.2.1 z.2.2.1 z.2.2.2.1 z.2.2.2.2.1 z.2.2.2.2.2.1 z.2.2.2.2.2.2.1 z.2.2.2.2.2.2.2.1) (fun zk23 => (.seq .x (.seq .x (.seq (.body (.seq .x (.seq (.ins 4 50 (.seq .x (.seq (.ins 2 78 (.seq .x (.seq (.seq .x (.body (.loop ⟨[(19, [(0, .val 5), (1, .func 51 [.ptr 0 0]), (7, .val 0), (8, .val 0)]), (9, []), (116, [(1, .val 10), (3, .ptr 1 0), (5, .ptr 2 0), (9, .ptr 0 0), (12, .own 3), (14, .ptr 4 0), (48, .val 10), (49, .val 0), (50, .val 0)])], [.box 114 [.own 5], .box 51 [.val 39], .box 57 [.val 7], .row 57 7, .box 57 [.val 7], .map 9 1 0]⟩ (fun n z => z9i φ (fun a0 a1 a2 a3 a4 a5 a6 a7 => zk23 (a0, a1, a2, a3, a4, a5, a6, a7, ())) n z.1 z.2.1 z.2.2.1 z.2.2.2.1 z.2.2.2.2.1 z.2.2.2.2.2.1 z.2.2.2.2.2.2.1 z.2.2.2.2.2.2.2.1 z.2.2.2.2.2.2.2.2.1 z.2.2.2.2.2.2.2.2.2.1 z.2.2.2.2.2.2.2.2.2.2.1 z.2.2.2.2.2.2.2.2.2.2.2.1) (fun zk36 => .x)))) .x)) .x) .x)) .x) .x))) .x))))))) (.seq (.frz [(9, some 0), (3, none), (5, none), (9, none)] .x) .x))))))))
def zcq (P : Program) (φ : Nat) : Env TV := ⟨P, lk [(49, z37 φ), (30, zdv φ), (47, z8n φ), (53, z8x φ), (32, zdn φ)], lk [(52, z2x φ)], lk [(51, z9y φ)], lk []⟩
theorem znk (φ : Nat) (a) : (zc5 φ).F a = fnX TV (zcq Tryz.prog φ) φ Tryz.f22 [39, 10, 7] [.val 0, .val 0] (z8q φ) a := by kernel_rfl
theorem zng (φ : Nat) : fnO TV (zcq Tryz.prog φ) φ Tryz.f22 [.val 0, .val 0] (z8q φ) := by
 unfold fnO
 show obl _ _ _ _ _ _ _
 unfold z8q
 repeat' (first | exact trivial | (refine ⟨?_, ?_⟩) | (intro _) | kernel_rfl)
theorem zne [Dr] (φ : Nat) : z21 TV Tryz.prog 22 (zc5 φ) :=
 z36 (N := zcq Tryz.prog φ) (zl ⟨z5z φ, zm3 φ, zd5 φ, zgj φ, zoh φ, trivial⟩ ⟨(z7w φ), trivial⟩ ⟨zkn φ, trivial⟩ trivial) (z8q φ) Tryz.func22 (by kernel_rfl) (znk φ) (zng φ)
def zbs (φ : Nat) : H TV (RTup TT [.val 1]) := .x
def zeu (P : Program) (φ : Nat) : Env TV := ⟨P, lk [(26, zbz φ), (25, z9r φ), (16, z5v φ), (33, zax φ), (15, z67 φ), (13, z7v φ), (12, z8e φ), (24, zcu φ), (19, z9g φ), (18, z9k φ), (34, zfk φ), (22, zc5 φ)], lk [], lk [], lk []⟩
theorem zsf (φ : Nat) (a) : (zec φ).F a = fnX TV (zeu Tryz.prog φ) φ Tryz.f10 [] [.val 1] (zbs φ) a := by kernel_rfl
theorem zrn (φ : Nat) : fnO TV (zeu Tryz.prog φ) φ Tryz.f10 [.val 1] (zbs φ) := by
 unfold fnO
 show obl _ _ _ _ _ _ _
 unfold zbs
 repeat' (first | exact trivial | (refine ⟨?_, ?_⟩) | (intro _) | kernel_rfl)
theorem zr9 (φ : Nat) : z21 TV Tryz.prog 10 (zec φ) :=
 z36 (N := zeu Tryz.prog φ) (zl ⟨zjq φ, zke φ, zcz φ, zls φ, zg6 φ, zeq φ, zif φ, zn9 φ, zkw φ, zkj φ, zsc φ, zne φ, trivial⟩ trivial trivial trivial) (zbs φ) Tryz.func10 (by kernel_rfl) (zsf φ) (zrn φ)
def zd6 (φ : Nat) : H TV (RTup TT [.val 1]) := (.seq .x (.seq .x (.seq (.seq .x (.body (.loop ⟨[(21, [(0, .val 10), (3, .val 0)])], []⟩ (fun n z => z72 φ n z.1 z.2.1) (fun zk4 => .x)))) .x)))
def zh0 (P : Program) (φ : Nat) : Env TV := ⟨P, lk [], lk [], lk [], lk []⟩
theorem ztk (φ : Nat) (a) : (zgr φ).F a = fnX TV (zh0 Tryz.prog φ) φ Tryz.f11 [10] [.val 1] (zd6 φ) a := by kernel_rfl
theorem zss (φ : Nat) : fnO TV (zh0 Tryz.prog φ) φ Tryz.f11 [.val 1] (zd6 φ) := by
 unfold fnO
 show obl _ _ _ _ _ _ _
 unfold zd6
 repeat' (first | exact trivial | (refine ⟨?_, ?_⟩) | (intro _) | kernel_rfl)
theorem ztt [Dr] (φ : Nat) : z21 TV Tryz.prog 11 (zgr φ) :=
 z36 (N := zh0 Tryz.prog φ) (zl trivial trivial trivial trivial) (zd6 φ) Tryz.func11 (by kernel_rfl) (ztk φ) (zss φ)
end Px
end
section
set_option linter.unusedVariables false
set_option linter.unusedSimpArgs false
set_option maxHeartbeats 4000000
set_option maxRecDepth 100000
namespace Px
open Go Go.RowKit Go.Proofs
def z40 (φ : Nat) : H TV (RTup TT [.val 1]) := (.seq .x (.seq .x (.seq .x (.seq .x (.seq .x (.seq (.seq .x (.body (.loop ⟨[(153, [(0, .val 10), (2, .val 0), (3, .val 0), (5, .ptr 0 0), (9, .val 14), (10, .val 0)])], [.box 24 [.val 2]]⟩ (fun n z => z01 φ n z.1 z.2.1 z.2.2.1 z.2.2.2.1 z.2.2.2.2.1 z.2.2.2.2.2.1) (fun zk14 => .x)))) (.seq .x (.seq .x (.seq (.seq .x (.body (.loop ⟨[(153, [(2, .val 0), (5, .ptr 0 0), (9, .val 14), (11, .val 5), (12, .val 1), (13, .val 0)])], [.box 24 [.val 2]]⟩ (fun n z => z00 φ n z.1 z.2.1 z.2.2.1 z.2.2.2.1 z.2.2.2.2.1 z.2.2.2.2.2.1) (fun zk22 => .x)))) .x)))))))))
def z5m (P : Program) (φ : Nat) : Env TV := ⟨P, lk [(10, zec φ), (11, zgr φ), (16, z5v φ), (13, z7v φ)], lk [], lk [], lk []⟩
theorem zfh (φ : Nat) (a) : (z47 φ).F a = fnX TV (z5m Tryz.prog φ) φ Tryz.f6 [10, 2, 0, 0] [.val 1] (z40 φ) a := by kernel_rfl
theorem zf4 (φ : Nat) : fnO TV (z5m Tryz.prog φ) φ Tryz.f6 [.val 1] (z40 φ) := by
 unfold fnO
 show obl _ _ _ _ _ _ _
 unfold z40
 repeat' (first | exact trivial | (refine ⟨?_, ?_⟩) | (intro _) | kernel_rfl)
theorem zen (φ : Nat) : z21 TV Tryz.prog 6 (z47 φ) :=
 z36 (N := z5m Tryz.prog φ) (zl ⟨zr9 φ, ztt φ, zcz φ, zeq φ, trivial⟩ trivial trivial trivial) (z40 φ) Tryz.func6 (by kernel_rfl) (zfh φ) (zf4 φ)
end Px
end
section
namespace Px
open Go
set_option linter.unusedVariables false
set_option linter.unusedSimpArgs false
structure Swo {α : Type} (lt : α -> α -> Bool) : Prop where
 asym : ∀ a b, lt a b = true -> lt b a = false
 ntr : ∀ a b c, lt a b = false -> lt b c = false -> lt a c = false
def Srt {α : Type} (lt : α -> α -> Bool) (l : List α) : Prop := l.Pairwise fun a b => lt b a = false
def eqv2 {α : Type} (lt : α -> α -> Bool) (a b : α) : Bool := !lt a b && !lt b a
def Stb {α : Type} (lt : α -> α -> Bool) (l r : List α) : Prop := r.Perm l /\ ∀ a, r.filter (eqv2 lt a) = l.filter (eqv2 lt a)
section
variable {α : Type} {lt : α -> α -> Bool}
theorem Swo.irr (h : Swo lt) (a : α) : lt a a = false := by
 cases e : lt a a with
 | false => rfl
 | true => exact (h.asym a a e).symm.trans e |>.symm
theorem zl6 {a b : α} : eqv2 lt a b = true ↔ lt a b = false /\ lt b a = false := by simp [eqv2]
theorem Stb.refl (l : List α) : Stb lt l l := ⟨.refl _, fun _ => rfl⟩
theorem Stb.trans {a b c : List α} (h : Stb lt a b) (h' : Stb lt b c) : Stb lt a c := ⟨h'.1.trans h.1, fun x => (h'.2 x).trans (h.2 x)⟩
theorem Stb.app {a b c d : List α} (h : Stb lt a b) (h' : Stb lt c d) : Stb lt (a ++ c) (b ++ d) := ⟨h.1.append h'.1, fun x => by simp only [List.filter_append, h.2 x, h'.2 x]⟩
theorem Stb.mem {l r : List α} (h : Stb lt l r) {x : α} : x ∈ r ↔ x ∈ l := h.1.mem_iff
theorem Stb.len {l r : List α} (h : Stb lt l r) : r.length = l.length := h.1.length_eq
theorem zs2 (a : α) {X : List α} (h : ∀ x ∈ X, eqv2 lt a x = false) : X.filter (eqv2 lt a) = [] := by
 rw [List.filter_eq_nil_iff]; intro x hx; simp [h x hx]
theorem Stb.swap (hs : Swo lt) {X Y : List α} (h : ∀ x ∈ X, ∀ y ∈ Y, lt y x = true) : Stb lt (X ++ Y) (Y ++ X) := by
 refine ⟨List.perm_append_comm, fun a => ?_⟩
 simp only [List.filter_append]
 by_cases hx : ∃ x ∈ X, eqv2 lt a x = true
 ·obtain ⟨x, hx, ex⟩ := hx
  have : Y.filter (eqv2 lt a) = [] := zs2 a fun y hy => by
   cases e : eqv2 lt a y with
   | false => rfl
   | true =>
    have h1 := zl6.1 e
    have h2 := zl6.1 ex
    have := hs.ntr y a x h1.2 h2.1
    rw [h x hx y hy] at this; cases this
  rw [this]; simp
 ·have : X.filter (eqv2 lt a) = [] := zs2 a fun x hx' => by
   cases e : eqv2 lt a x with
   | false => rfl
   | true => exact absurd ⟨x, hx', e⟩ hx
  rw [this]; simp
theorem Srt.app {a b : List α} (h : Srt lt a) (h' : Srt lt b) (hc : ∀ x ∈ a, ∀ y ∈ b, lt y x = false) : Srt lt (a ++ b) := List.pairwise_append.2 ⟨h, h', hc⟩
theorem Srt.parts {a b : List α} (h : Srt lt (a ++ b)) : Srt lt a /\ Srt lt b /\ ∀ x ∈ a, ∀ y ∈ b, lt y x = false := List.pairwise_append.1 h
theorem Srt.unique (hs : Swo lt) : ∀ {r r' : List α}, Srt lt r -> Srt lt r' -> Stb lt r r' -> r = r'
 | [], r', _, _, h => by
  have := h.len; simp at this; exact this.symm
 | x :: r, r', hr, hr', h => by
  cases r' with
  | nil => have := h.len; simp at this
  | cons y r' =>
   have hr1 := List.pairwise_cons.1 hr
   have hr2 := List.pairwise_cons.1 hr'
   have h1 : lt y x = false := by
    rcases List.mem_cons.1 (h.mem.1 (List.mem_cons_self (a := y))) with e | e
    ·rw [e]; exact hs.irr _
    ·exact hr1.1 y e
   have h2 : lt x y = false := by
    rcases List.mem_cons.1 (h.mem.2 (List.mem_cons_self (a := x))) with e | e
    ·rw [e]; exact hs.irr _
    ·exact hr2.1 x e
   have e1 : eqv2 lt x x = true := zl6.2 ⟨hs.irr _, hs.irr _⟩
   have e2 : eqv2 lt x y = true := zl6.2 ⟨h2, h1⟩
   have hf := h.2 x
   rw [List.filter_cons_of_pos e1, List.filter_cons_of_pos e2] at hf
   have hxy : y = x := (List.cons.inj hf).1
   subst hxy
   congr 1
   refine Srt.unique hs hr1.2 hr2.2 ⟨(List.perm_cons _).1 h.1, fun a => ?_⟩
   have := h.2 a
   simp only [List.filter_cons] at this
   split at this
   ·exact (List.cons.inj this).2
   ·exact this
theorem zgq (hs : Swo lt) {A B C E R1 R2 : List α} (h1 : Srt lt (A ++ B)) (h2 : Srt lt (C ++ E)) (hA : ∀ x ∈ B, ∀ y ∈ C, lt y x = true) (hB : ∀ x ∈ A, ∀ y ∈ E, lt y x = false)
  (s1 : Srt lt R1) (t1 : Stb lt (A ++ C) R1) (s2 : Srt lt R2) (t2 : Stb lt (B ++ E) R2) : Srt lt (R1 ++ R2) /\ Stb lt ((A ++ B) ++ (C ++ E)) (R1 ++ R2) := by
 refine ⟨s1.app s2 fun u hu v hv => ?_, ?_⟩
 ·have hu := List.mem_append.1 (t1.mem.1 hu)
  have hv := List.mem_append.1 (t2.mem.1 hv)
  rcases hu with hu | hu <;> rcases hv with hv | hv
  ·exact h1.parts.2.2 u hu v hv
  ·exact hB u hu v hv
  ·exact hs.asym _ _ (hA v hv u hu)
  ·exact h2.parts.2.2 u hu v hv
 ·have : Stb lt ((A ++ B) ++ (C ++ E)) ((A ++ C) ++ (B ++ E)) := by
   have := ((Stb.refl (lt := lt) A).app (Stb.swap hs hA)).app (Stb.refl E)
   simpa [List.append_assoc] using this
  exact this.trans (t1.app t2)
theorem zj3 (hs : Swo lt) {y c x b : α} (h1 : lt c y = false) (h2 : lt c b = true) (h3 : lt x b = false) : lt y x = true := by
 cases e : lt y x with
 | true => rfl
 | false =>
  have := hs.ntr _ _ _ (hs.ntr _ _ _ h1 e) h3
  rw [h2] at this; cases this
theorem zt7 (hs : Swo lt) {y e x a : α} (h1 : lt y e = false) (h2 : lt e a = false) (h3 : lt a x = false) : lt y x = false := hs.ntr _ _ _ (hs.ntr _ _ _ h1 h2) h3
theorem zwp (hs : Swo lt) {A B : List α} {x : α} (h : ∀ y ∈ B, lt x y = true) : Stb lt (A ++ B ++ [x]) (A ++ [x] ++ B) := by
 have := (Stb.refl (lt := lt) A).app (Stb.swap hs (X := B) (Y := [x]) fun z hz y hy => by simp at hy; subst hy; exact h z hz)
 simpa [List.append_assoc] using this
theorem zt0 {ρ : Type} (L : Nat -> Int -> Int -> Option ρ) (k : Int -> Option ρ) (pred : Nat -> Bool) (R : Nat) (s0 : Nat)
  (step : ∀ n s r : Nat, s0 <= s -> s < r -> r <= R -> L (n + 1) s r = if pred ((s + r) / 2) = true then L n (((s + r) / 2 + 1 : Nat)) r else L n s ((s + r) / 2 : Nat)) (done : ∀ n s : Nat, L (n + 1) s s = k s) :
  ∀ n s r : Nat, s0 <= s -> s <= r -> r <= R -> r - s < n -> ∃ c : Nat, s <= c /\ c <= r /\ (c = s \/ pred (c - 1) = true) /\ (c = r \/ pred c = false) /\ L n s r = k c := by
 intro n
 induction n with
 | zero => intro s r _ _ _ h; omega
 | succ n ih =>
  intro s r h0 h hR hn
  by_cases e : s = r
  ·subst e; exact ⟨s, Nat.le_refl _, Nat.le_refl _, .inl rfl, .inl rfl, done n s⟩
  ·rw [step n s r h0 (by omega) hR]
   cases hp : pred ((s + r) / 2) with
   | true =>
    rw [if_pos rfl]
    obtain ⟨c, h1, h2, h3, h4, h5⟩ := ih ((s + r) / 2 + 1) r (by omega) (by omega) hR (by omega)
    refine ⟨c, by omega, h2, ?_, h4, h5⟩
    rcases h3 with h3 | h3
    ·right; rw [h3]; simpa using hp
    ·exact .inr h3
   | false =>
    rw [if_neg (by simp)]
    obtain ⟨c, h1, h2, h3, h4, h5⟩ := ih s ((s + r) / 2) h0 (by omega) (by omega) (by omega)
    refine ⟨c, h1, by omega, h3, ?_, h5⟩
    rcases h4 with h4 | h4
    ·right; rw [h4]; exact hp
    ·exact .inr h4
end
section arr
variable {α : Type} [Inhabited α]
theorem ze5 {A B : List α} {x : α} {i : Int} (h : i = A.length) : gt (A ++ x :: B) i = x := by
 subst h; rw [z8z _ _ _ (Int.le_refl _)]; simp [gt]
omit [Inhabited α] in
theorem zjs {A B : List α} {x y : α} {i : Int} (h : i = A.length) : z0h (A ++ x :: B) i y = A ++ y :: B := by
 subst h; simp [z0h]
theorem zy6 {n : Int} (h0 : 0 <= n) (h : n <= 4611686018427387904) : W ((U (W n)).fdiv 2) = n / 2 := by
 rw [W_id (x := n) (by omega) (by omega), U_id h0 (by omega), Int.fdiv_eq_ediv_of_nonneg _ (by omega), W_id (by omega) (by omega)]
end arr
def Cmp {α : Type} (D : α -> Prop) (y : α -> α -> Option Int) (lt : α -> α -> Bool) : Prop := ∀ a b, D a -> D b -> ∃ z, y a b = some z /\ decide (z < 0) = lt a b
theorem zb3 {α : Type} (l : List α) : l = [] \/ ∃ S w, l = S ++ [w] := by
 rcases List.eq_nil_or_concat l with h | ⟨S, w, h⟩
 ·exact .inl h
 ·exact .inr ⟨S, w, by rw [h, List.concat_eq_append]⟩
inductive Runs {α : Type} (lt : α -> α -> Bool) (bs : Nat) : List α -> Prop
 | last {l : List α} (h : l.length <= bs) (hs : Srt lt l) : Runs lt bs l
 | cons {b r : List α} (h : b.length = bs) (hs : Srt lt b) (hr : Runs lt bs r) : Runs lt bs (b ++ r)
theorem Runs.small {α : Type} {lt : α -> α -> Bool} {bs : Nat} {l : List α} (h : Runs lt bs l) (hl : l.length <= bs) : Srt lt l := by
 cases h with
 | last _ hs => exact hs
 | cons h hs hr =>
  rename_i b r
  have : r = [] := List.eq_nil_of_length_eq_zero (by simp at hl; omega)
  rw [this, List.append_nil]; exact hs
theorem Runs.big {α : Type} {lt : α -> α -> Bool} {bs : Nat} {l : List α} (h : Runs lt bs l) (hl : bs < l.length) : ∃ b r, l = b ++ r /\ b.length = bs /\ Srt lt b /\ Runs lt bs r /\ r ≠ [] := by
 cases h with
 | last h _ => omega
 | cons h hs hr =>
  rename_i b r
  exact ⟨b, r, rfl, h, hs, hr, by intro e; subst e; simp at hl; omega⟩
end Px
end
section
namespace Px
open Go
set_option linter.unusedVariables false
set_option linter.unusedSimpArgs false
set_option maxHeartbeats 1000000
section
variable {α : Type} [Inhabited α]
def zhk (φ : Nat) (k10 : (Int -> Int -> (α -> α -> Option Int) -> Int -> (List α) -> Option (List α))) : Nat -> Int -> Int -> (α -> α -> Option Int) -> Int -> Int -> (List α) -> Option (List α)
 | 0, _, _, _, _, _, _ => none
 | n17 + 1, x11, x12, x13, x14, x15, x16 => (ck (((decide ((x11 : Int) < x15)) = true) -> (0 : Int) <= x15 /\ x15 < (x16.length : Int)) (ck (((decide ((x11 : Int) < x15)) = true) -> (0 : Int) <= (W (x15 - 1)) /\ (W (x15 - 1)) < (x16.length : Int)) ((z1q (0 : Int) ((decide ((x11 : Int) < x15)) = true) (x13 (gt x16 x15) (gt x16 (W (x15 - 1))))).bind fun y18 => (if ((decide ((x11 : Int) < x15)) && (decide ((y18 : Int) < 0))) = true then (ck ((0 : Int) <= (W (x15 - 1)) /\ (W (x15 - 1)) < (x16.length : Int)) (ck ((0 : Int) <= x15 /\ x15 < (x16.length : Int)) (ck ((0 : Int) <= x15 /\ x15 < (x16.length : Int)) (ck ((0 : Int) <= (W (x15 - 1)) /\ (W (x15 - 1)) < (((z0h x16 x15 (gt x16 (W (x15 - 1))))).length : Int)) ((zhk φ k10 n17) x11 x12 x13 x14 (W (x15 - 1)) ((z0h ((z0h x16 x15 (gt x16 (W (x15 - 1))))) (W (x15 - 1)) (gt x16 x15)))))))) else (k10 x11 x12 x13 (W (x14 + 1)) x16)))))
def zdw (φ : Nat) : Nat -> Int -> Int -> (α -> α -> Option Int) -> Int -> (List α) -> Option (List α)
 | 0, _, _, _, _, _ => none
 | n10 + 1, x5, x6, x7, x8, x9 => (if (decide ((x8 : Int) < x6)) = true then (zhk φ (zdw φ n10) φ x5 x6 x7 x8 x8 x9) else (some x9))
def gins (φ : Nat) (x1 : (List α)) (x2 : Int) (x3 : Int) (x4 : (α -> α -> Option Int)) : Option (List α) := (zdw φ φ x2 x3 x4 (W (x2 + 1)) x1)
def zes (φ : Nat) : Nat -> Int -> Int -> Int -> Int -> (List α) -> Option (List α)
 | 0, _, _, _, _, _ => none
 | n11 + 1, x6, x7, x8, x9, x10 => (if (decide ((x9 : Int) < x8)) = true then (ck ((0 : Int) <= (W (x7 + x9)) /\ (W (x7 + x9)) < (x10.length : Int)) (ck ((0 : Int) <= (W (x6 + x9)) /\ (W (x6 + x9)) < (x10.length : Int)) (ck ((0 : Int) <= (W (x6 + x9)) /\ (W (x6 + x9)) < (x10.length : Int)) (ck ((0 : Int) <= (W (x7 + x9)) /\ (W (x7 + x9)) < (((z0h x10 (W (x6 + x9)) (gt x10 (W (x7 + x9))))).length : Int)) ((zes φ n11) x6 x7 x8 (W (x9 + 1)) ((z0h ((z0h x10 (W (x6 + x9)) (gt x10 (W (x7 + x9))))) (W (x7 + x9)) (gt x10 (W (x6 + x9)))))))))) else (some x10))
def zxg (φ : Nat) (x1 : (List α)) (x2 : Int) (x3 : Int) (x4 : Int) (x5 : (α -> α -> Option Int)) : Option (List α) := (zes φ φ x2 x3 x4 0 x1)
def zhn (φ : Nat) : Nat -> Int -> (α -> α -> Option Int) -> Int -> Int -> (List α) -> Option (List α)
 | 0, _, _, _, _, _ => none
 | n11 + 1, x6, x7, x8, x9, x10 => (if ((x8 : Int) != x9) = true then (if (decide ((x9 : Int) < x8)) = true then ((zxg φ x10 (W (x6 - x8)) x6 x9 x7).bind fun y12 => ((zhn φ n11) x6 x7 (W (x8 - x9)) x9 y12)) else ((zxg φ x10 (W (x6 - x8)) ((W ((W (x6 + x9)) - x8))) x8 x7).bind fun y13 => ((zhn φ n11) x6 x7 x8 (W (x9 - x8)) y13))) else ((zxg φ x10 (W (x6 - x8)) x6 x8 x7).bind fun y14 => (some y14)))
def grot (φ : Nat) (x1 : (List α)) (x2 : Int) (x3 : Int) (x4 : Int) (x5 : (α -> α -> Option Int)) : Option (List α) := (zhn φ φ x3 x5 (W (x3 - x2)) (W (x4 - x3)) x1)
def zfv (φ : Nat) : Nat -> Int -> Int -> (List α) -> Option (List α)
 | 0, _, _, _ => none
 | n16 + 1, x13, x14, x15 => (if (decide ((x14 : Int) < (W (x13 - 1)))) = true then (ck ((0 : Int) <= (W (x14 + 1)) /\ (W (x14 + 1)) < (x15.length : Int)) (ck ((0 : Int) <= x14 /\ x14 < (x15.length : Int)) (ck ((0 : Int) <= x14 /\ x14 < (x15.length : Int)) (ck ((0 : Int) <= (W (x14 + 1)) /\ (W (x14 + 1)) < (((z0h x15 x14 (gt x15 (W (x14 + 1))))).length : Int)) ((zfv φ n16) x13 (W (x14 + 1)) ((z0h ((z0h x15 x14 (gt x15 (W (x14 + 1))))) (W (x14 + 1)) (gt x15 x14)))))))) else (some x15))
def zae (φ : Nat) : Nat -> Int -> (α -> α -> Option Int) -> Int -> Int -> (List α) -> Option (List α)
 | 0, _, _, _, _, _ => none
 | n11 + 1, x6, x7, x8, x9, x10 => (if (decide ((x8 : Int) < x9)) = true then (if 0 <= (1 : Int) then (ck ((0 : Int) <= (W ((((U ((W (x8 + x9)))) : Int).fdiv (2 ^ (min (1 : Int).toNat 64))))) /\ (W ((((U ((W (x8 + x9)))) : Int).fdiv (2 ^ (min (1 : Int).toNat 64))))) < (x10.length : Int)) (ck ((0 : Int) <= x6 /\ x6 < (x10.length : Int)) ((x7 (((gt x10 ((W ((((U ((W (x8 + x9)))) : Int).fdiv (2 ^ (min (1 : Int).toNat 64))))))))) (gt x10 x6)).bind fun y12 => (if (decide ((y12 : Int) < 0)) = true then ((zae φ n11) x6 x7 ((W ((W ((((U ((W (x8 + x9)))) : Int).fdiv (2 ^ (min (1 : Int).toNat 64))))) + 1))) x9 x10) else ((zae φ n11) x6 x7 x8 ((W ((((U ((W (x8 + x9)))) : Int).fdiv (2 ^ (min (1 : Int).toNat 64)))))) x10))))) else none) else (zfv φ φ x8 x6 x10))
def zg0 (φ : Nat) : Nat -> Int -> Int -> (List α) -> Option (List α)
 | 0, _, _, _ => none
 | n27 + 1, x24, x25, x26 => (if (decide ((x24 : Int) < x25)) = true then (ck ((0 : Int) <= (W (x25 - 1)) /\ (W (x25 - 1)) < (x26.length : Int)) (ck ((0 : Int) <= x25 /\ x25 < (x26.length : Int)) (ck ((0 : Int) <= x25 /\ x25 < (x26.length : Int)) (ck ((0 : Int) <= (W (x25 - 1)) /\ (W (x25 - 1)) < (((z0h x26 x25 (gt x26 (W (x25 - 1))))).length : Int)) ((zg0 φ n27) x24 (W (x25 - 1)) ((z0h ((z0h x26 x25 (gt x26 (W (x25 - 1))))) (W (x25 - 1)) (gt x26 x25)))))))) else (some x26))
def zab (φ : Nat) : Nat -> Int -> (α -> α -> Option Int) -> Int -> Int -> (List α) -> Option (List α)
 | 0, _, _, _, _, _ => none
 | n22 + 1, x17, x18, x19, x20, x21 => (if (decide ((x19 : Int) < x20)) = true then (if 0 <= (1 : Int) then (ck ((0 : Int) <= x17 /\ x17 < (x21.length : Int)) (ck ((0 : Int) <= (W ((((U ((W (x19 + x20)))) : Int).fdiv (2 ^ (min (1 : Int).toNat 64))))) /\ (W ((((U ((W (x19 + x20)))) : Int).fdiv (2 ^ (min (1 : Int).toNat 64))))) < (x21.length : Int)) ((x18 (gt x21 x17) (((gt x21 ((W ((((U ((W (x19 + x20)))) : Int).fdiv (2 ^ (min (1 : Int).toNat 64)))))))))).bind fun y23 => (if (!(decide ((y23 : Int) < 0))) = true then ((zab φ n22) x17 x18 ((W ((W ((((U ((W (x19 + x20)))) : Int).fdiv (2 ^ (min (1 : Int).toNat 64))))) + 1))) x20 x21) else ((zab φ n22) x17 x18 x19 ((W ((((U ((W (x19 + x20)))) : Int).fdiv (2 ^ (min (1 : Int).toNat 64)))))) x21))))) else none) else (zg0 φ φ x19 x17 x21))
def zi6 (φ : Nat) (k0 : ((List α) -> Int -> Int -> Int -> (α -> α -> Option Int) -> Option (List α))) (x58 : Int) (x59 : (α -> α -> Option Int)) (x60 : Int) (x61 : Int) (x62 : (List α)) : Option (List α) := (if ((decide ((x60 : Int) < x61)) && (decide ((x61 : Int) < x58))) = true then ((k0 x62 x60 x61 x58 x59).bind fun y64 => (some y64)) else (some x62))
def zdc (φ : Nat) (k0 : ((List α) -> Int -> Int -> Int -> (α -> α -> Option Int) -> Option (List α))) (x50 : Int) (x51 : Int) (x52 : (α -> α -> Option Int)) (x53 : Int) (x54 : Int) (x55 : Int) (x56 : (List α)) : Option (List α) := (if ((decide ((x50 : Int) < x54)) && (decide ((x54 : Int) < x53))) = true then ((k0 x56 x50 x54 x53 x52).bind fun y65 => (zi6 φ k0 x51 x52 x53 x55 y65)) else (zi6 φ k0 x51 x52 x53 x55 x56))
def za4 (φ : Nat) (k0 : ((List α) -> Int -> Int -> Int -> (α -> α -> Option Int) -> Option (List α))) : Nat -> Int -> Int -> Int -> (α -> α -> Option Int) -> Int -> Int -> Int -> Int -> Int -> (List α) -> Option (List α)
 | 0, _, _, _, _, _, _, _, _, _, _ => none
 | n48 + 1, x38, x39, x40, x41, x42, x43, x44, x45, x46, x47 => (if (decide ((x44 : Int) < x45)) = true then (if 0 <= (1 : Int) then (ck ((0 : Int) <= (W (x46 - (W ((((U ((W (x44 + x45)))) : Int).fdiv (2 ^ (min (1 : Int).toNat 64))))))) /\ (W (x46 - (W ((((U ((W (x44 + x45)))) : Int).fdiv (2 ^ (min (1 : Int).toNat 64))))))) < (x47.length : Int)) (ck ((0 : Int) <= (W ((((U ((W (x44 + x45)))) : Int).fdiv (2 ^ (min (1 : Int).toNat 64))))) /\ (W ((((U ((W (x44 + x45)))) : Int).fdiv (2 ^ (min (1 : Int).toNat 64))))) < (x47.length : Int)) ((x41 (((gt x47 ((W (x46 - (W ((((U ((W (x44 + x45)))) : Int).fdiv (2 ^ (min (1 : Int).toNat 64))))))))))) (((gt x47 ((W ((((U ((W (x44 + x45)))) : Int).fdiv (2 ^ (min (1 : Int).toNat 64)))))))))).bind fun y49 => (if (!(decide ((y49 : Int) < 0))) = true then ((za4 φ k0 n48) x38 x39 x40 x41 x42 x43 ((W ((W ((((U ((W (x44 + x45)))) : Int).fdiv (2 ^ (min (1 : Int).toNat 64))))) + 1))) x45 x46 x47) else ((za4 φ k0 n48) x38 x39 x40 x41 x42 x43 x44 ((W ((((U ((W (x44 + x45)))) : Int).fdiv (2 ^ (min (1 : Int).toNat 64)))))) x46 x47))))) else none) else (if ((decide ((x44 : Int) < x39)) && (decide ((x39 : Int) < (W (x43 - x44))))) = true then ((grot φ x47 x44 x39 (W (x43 - x44)) x41).bind fun y66 => (zdc φ k0 x38 x40 x41 x42 x44 (W (x43 - x44)) y66)) else (zdc φ k0 x38 x40 x41 x42 x44 (W (x43 - x44)) x47)))
def zg2 (φ : Nat) (k0 : ((List α) -> Int -> Int -> Int -> (α -> α -> Option Int) -> Option (List α))) (x28 : Int) (x29 : Int) (x30 : Int) (x31 : (α -> α -> Option Int)) (x32 : Int) (x33 : Int) (x34 : Int) (x35 : Int) (x36 : (List α)) : Option (List α) := (za4 φ k0 φ x28 x29 x30 x31 x32 x33 x34 x35 (W (x33 - 1)) x36)
def gsym (φ : Nat) : Nat -> (List α) -> Int -> Int -> Int -> (α -> α -> Option Int) -> Option (List α)
 | 0, _, _, _, _, _ => none
 | d + 1, x1, x2, x3, x4, x5 => (if (((W (x3 - x2)) : Int) == 1) = true then (zae φ φ x2 x5 x3 x4 x1) else (if (((W (x4 - x3)) : Int) == 1) = true then (zab φ φ x3 x5 x2 x3 x1) else (if 0 <= (1 : Int) then (if (decide (((W ((((U ((W (x2 + x4)))) : Int).fdiv (2 ^ (min (1 : Int).toNat 64))))) : Int) < x3)) = true then (zg2 φ (gsym φ d) x2 x3 x4 x5 ((W ((((U ((W (x2 + x4)))) : Int).fdiv (2 ^ (min (1 : Int).toNat 64)))))) ((W ((W ((((U ((W (x2 + x4)))) : Int).fdiv (2 ^ (min (1 : Int).toNat 64))))) + x3))) ((W ((W ((W ((((U ((W (x2 + x4)))) : Int).fdiv (2 ^ (min (1 : Int).toNat 64))))) + x3)) - x4))) ((W ((((U ((W (x2 + x4)))) : Int).fdiv (2 ^ (min (1 : Int).toNat 64)))))) x1) else (zg2 φ (gsym φ d) x2 x3 x4 x5 ((W ((((U ((W (x2 + x4)))) : Int).fdiv (2 ^ (min (1 : Int).toNat 64)))))) ((W ((W ((((U ((W (x2 + x4)))) : Int).fdiv (2 ^ (min (1 : Int).toNat 64))))) + x3))) x2 x3 x1)) else none)))
def zhp (φ : Nat) (k17 : (Int -> (α -> α -> Option Int) -> Int -> (List α) -> Option (List α))) : Nat -> Int -> (α -> α -> Option Int) -> Int -> Int -> Int -> (List α) -> Option (List α)
 | 0, _, _, _, _, _, _ => none
 | n24 + 1, x18, x19, x20, x21, x22, x23 => (if (decide ((x22 : Int) <= x18)) = true then ((gsym φ φ x23 x21 (W (x21 + x20)) x22 x19).bind fun y25 => ((zhp φ k17 n24) x18 x19 x20 x22 ((W (x22 + (W (2 * x20))))) y25)) else (if (decide (((W (x21 + x20)) : Int) < x18)) = true then ((gsym φ φ x23 x21 (W (x21 + x20)) x18 x19).bind fun y26 => (k17 x18 x19 (W (x20 * 2)) y26)) else (k17 x18 x19 (W (x20 * 2)) x23)))
def z90 (φ : Nat) : Nat -> Int -> (α -> α -> Option Int) -> Int -> (List α) -> Option (List α)
 | 0, _, _, _, _ => none
 | n17 + 1, x13, x14, x15, x16 => (if (decide ((x15 : Int) < x13)) = true then (zhp φ (z90 φ n17) φ x13 x14 x15 0 (W (2 * x15)) x16) else (some x16))
def zfo (φ : Nat) : Nat -> Int -> (α -> α -> Option Int) -> Int -> Int -> Int -> (List α) -> Option (List α)
 | 0, _, _, _, _, _, _ => none
 | n10 + 1, x4, x5, x6, x7, x8, x9 => (if (decide ((x8 : Int) <= x4)) = true then ((gins φ x9 x7 x8 x5).bind fun y11 => ((zfo φ n10) x4 x5 x6 x8 (W (x8 + x6)) y11)) else ((gins φ x9 x7 x4 x5).bind fun y12 => (z90 φ φ x4 x5 x6 y12)))
def ya9 (φ : Nat) (x1 : (List α)) (x2 : Int) (x3 : (α -> α -> Option Int)) : Option (List α) := (zfo φ φ x2 x3 20 0 20 x1)
def y6d (φ : Nat) (x1 : (List α)) (x2 : (α -> α -> Option Int)) : Option (List α) := ((ya9 φ x1 (x1.length : Int) x2).bind fun y3 => (some y3))
theorem ybi {β : Type} {z : β} {p : Prop} [Decidable p] {x : Option β} (h : p) : z1q z p x = x := if_pos h
variable {D : α -> Prop} {lt : α -> α -> Bool} {y : α -> α -> Option Int}
theorem y8a (hy : Cmp D y lt) (φ : Nat) (k : Int -> Int -> (α -> α -> Option Int) -> Int -> List α -> Option (List α)) (b i0 : Int) (P : List α) (x : α) (hx : D x) : ∀ (n : Nat) (S1 S2 : List α), (∀ z ∈ S1, D z) -> P.length + S1.length + S2.length <= 1000000 -> S1.length < n ->
  ∃ A B, S1 = A ++ B /\ (∀ z ∈ B, lt x z = true) /\ (A = [] \/ ∃ A' z, A = A' ++ [z] /\ lt x z = false) /\
   zhk φ k n (P.length : Int) b y i0 ((P.length : Int) + S1.length) (P ++ S1 ++ x :: S2) = k (P.length : Int) b y (W (i0 + 1)) (P ++ A ++ x :: (B ++ S2)) := by
 intro n
 induction n with
 | zero => intro S1 S2 _ _ h; omega
 | succ n ih =>
  intro S1 S2 hD hl hn
  rcases List.eq_nil_or_concat S1 with rfl | ⟨S, z, rfl⟩
  ·refine ⟨[], [], rfl, by simp, .inl rfl, ?_⟩
   have h0 : decide ((P.length : Int) < (P.length : Int) + (([] : List α).length : Int)) = false := by simp
   rw [zhk, h0]
   simp [ck, z1q]
  ·simp only [List.concat_eq_append] at hD hl hn ⊢
   simp only [List.length_append, List.length_cons, List.length_nil] at hl hn
   have e1 : P ++ (S ++ [z]) ++ x :: S2 = (P ++ S ++ [z]) ++ x :: S2 := by simp
   have e2 : P ++ (S ++ [z]) ++ x :: S2 = (P ++ S) ++ z :: (x :: S2) := by simp
   have g1 : gt (P ++ (S ++ [z]) ++ x :: S2) ((P.length : Int) + ((S ++ [z]).length : Int)) = x := by
    rw [e1]; exact ze5 (by simp <;> omega)
   have hw : W ((P.length : Int) + ((S ++ [z]).length : Int) - 1) = (P.length : Int) + S.length := by
    rw [W_id (by simp; omega) (by simp; omega)]; simp; omega
   have g2 : gt (P ++ (S ++ [z]) ++ x :: S2) ((P.length : Int) + (S.length : Int)) = z := by
    rw [e2]; exact ze5 (by simp)
   have h0 : decide ((P.length : Int) < (P.length : Int) + ((S ++ [z]).length : Int)) = true := by simp; omega
   have hlen : ((P ++ (S ++ [z]) ++ x :: S2).length : Int) = P.length + S.length + 1 + 1 + S2.length := by simp; omega
   obtain ⟨w, hw1, hw2⟩ := hy x z hx (hD z (by simp))
   have s1 : z0h (P ++ (S ++ [z]) ++ x :: S2) ((P.length : Int) + ((S ++ [z]).length : Int)) z = (P ++ S) ++ z :: (z :: S2) := by
    rw [e1, zjs (by simp <;> omega)]; simp
   have s2 : z0h ((P ++ S) ++ z :: (z :: S2)) ((P.length : Int) + (S.length : Int)) x = P ++ S ++ x :: (z :: S2) := zjs (by simp)
   rw [zhk, hw, h0, g1, g2, hw1, hlen]
   rw [z09 (fun _ => ⟨by omega, by simp; omega⟩), z09 (fun _ => ⟨by omega, by omega⟩), ybi rfl]
   simp only [Option.bind_some, hw2, Bool.true_and]
   cases hlt : lt x z with
   | true =>
    rw [if_pos rfl, z09 ⟨by omega, by omega⟩, z09 ⟨by omega, by simp; omega⟩, z09 ⟨by omega, by simp; omega⟩, s1]
    rw [z09 ⟨by omega, by simp; omega⟩, s2]
    obtain ⟨A, B, q1, q2, q3, q4⟩ := ih S (z :: S2) (fun u hu => hD u (by simp [hu])) (by simp; omega) (by omega)
    refine ⟨A, B ++ [z], by rw [q1]; simp, ?_, q3, ?_⟩
    ·intro u hu
     rcases List.mem_append.1 hu with h | h
     ·exact q2 u h
     ·simp at h; rw [h]; exact hlt
    ·rw [q4]; simp
   | false =>
    rw [if_neg (by simp)]
    exact ⟨S ++ [z], [], by simp, by simp, .inr ⟨S, z, rfl, hlt⟩, by simp⟩
theorem y2w (hs : Swo lt) (hy : Cmp D y lt) (φ : Nat) (P Q : List α) : ∀ (n : Nat) (S R : List α), S ≠ [] -> Srt lt S -> (∀ z ∈ S, D z) -> (∀ z ∈ R, D z) -> P.length + S.length + R.length + Q.length <= 1000000 -> P.length + S.length + R.length < φ -> R.length < n ->
  ∃ S', Srt lt S' /\ Stb lt (S ++ R) S' /\ zdw φ n (P.length : Int) ((P.length : Int) + S.length + R.length) y ((P.length : Int) + S.length) (P ++ S ++ R ++ Q) = some (P ++ S' ++ Q) := by
 intro n
 induction n with
 | zero => intro S R _ _ _ _ _ _ h; omega
 | succ n ih =>
  intro S R hne hS hD hD' hl hφ hn
  cases R with
  | nil =>
   refine ⟨S, hS, by simpa using Stb.refl S, ?_⟩
   rw [zdw, if_neg (by simp)]
   simp
  | cons x R =>
   simp only [List.length_cons] at hl hφ hn
   rw [zdw, if_pos (by simp; omega)]
   obtain ⟨A, B, q1, q2, q3, q4⟩ := y8a hy φ (zdw φ n) ((P.length : Int) + S.length + (x :: R).length) ((P.length : Int) + S.length) P x (hD' x (by simp)) φ S (R ++ Q) hD (by simp; omega) (by omega)
   rw [show P ++ S ++ x :: R ++ Q = P ++ S ++ x :: (R ++ Q) by simp, q4]
   have hA : ∀ u ∈ A, lt x u = false := by
    rcases q3 with rfl | ⟨A', z, rfl, hz⟩
    ·simp
    ·intro u hu
     rcases List.mem_append.1 hu with h | h
     ·subst q1
      have := (hS.parts.1).parts.2.2 u h z (by simp)
      exact hs.ntr _ _ _ hz this
     ·simp at h; rw [h]; exact hz
   have hS2 : Srt lt (A ++ x :: B) := by
    subst q1
    refine hS.parts.1.app (List.pairwise_cons.2 ⟨fun u hu => hs.asym _ _ (q2 u hu), hS.parts.2.1⟩) fun u hu v hv => ?_
    rcases List.mem_cons.1 hv with h | h
    ·subst h; exact hA u hu
    ·exact hS.parts.2.2 u hu v h
   obtain ⟨S', p1, p2, p3⟩ := ih (A ++ x :: B) R (by simp) hS2 (fun z hz => by
    subst q1
    simp only [List.mem_append, List.mem_cons] at hz
    rcases hz with h | h | h
    ·exact hD z (by simp [h])
    ·subst h; exact hD' _ (by simp)
    ·exact hD z (by simp [h])) (fun z hz => hD' z (by simp [hz])) (by subst q1; simp at hl ⊢; omega) (by subst q1; simp at hφ ⊢; omega) (by omega)
   refine ⟨S', p1, ?_, ?_⟩
   ·have h1 : Stb lt (S ++ [x]) (A ++ [x] ++ B) := by subst q1; exact zwp hs q2
    have := h1.app (Stb.refl R)
    refine Stb.trans ?_ (Stb.trans this ?_)
    ·simpa using Stb.refl (lt := lt) (S ++ x :: R)
    ·simpa using p2
   ·rw [<- p3]
    have e1 : W ((P.length : Int) + S.length + 1) = (P.length : Int) + S.length + 1 := W_id (by omega) (by omega)
    have hSl : S.length = A.length + B.length := by rw [q1]; simp
    have e2 : (P.length : Int) + S.length + 1 = P.length + (A ++ x :: B).length := by simp; omega
    have e3 : (P.length : Int) + S.length + (x :: R).length = P.length + (A ++ x :: B).length + R.length := by simp; omega
    have e4 : P ++ A ++ x :: (B ++ (R ++ Q)) = P ++ (A ++ x :: B) ++ R ++ Q := by simp
    rw [e1, e2, e3, e4]
theorem zz2 (hs : Swo lt) (hy : Cmp D y lt) (φ : Nat) (P X Q : List α) (hD : ∀ z ∈ X, D z) (hl : P.length + X.length + Q.length <= 1000000) (hφ : P.length + X.length < φ) :
  ∃ X', Srt lt X' /\ Stb lt X X' /\ gins φ (P ++ X ++ Q) (P.length : Int) ((P.length : Int) + X.length) y = some (P ++ X' ++ Q) := by
 unfold gins
 rw [W_id (x := (P.length : Int) + 1) (by omega) (by omega)]
 cases X with
 | nil =>
  refine ⟨[], List.Pairwise.nil, Stb.refl _, ?_⟩
  obtain ⟨n, rfl⟩ : ∃ n, φ = n + 1 := ⟨φ - 1, by omega⟩
  rw [zdw, if_neg (by simp; omega)]
 | cons x R =>
  simp only [List.length_cons] at hl hφ
  obtain ⟨S', p1, p2, p3⟩ := y2w hs hy φ P Q φ [x] R (by simp) (List.pairwise_singleton _ _) (fun z hz => hD z (by simp at hz; simp [hz])) (fun z hz => hD z (by simp [hz])) (by simp; omega) (by simp; omega) (by omega)
  refine ⟨S', p1, by simpa using p2, ?_⟩
  rw [<- p3]
  simp only [List.append_assoc, List.cons_append, List.length_cons, List.length_nil, List.nil_append]
  congr 1
  simp; omega
theorem y9j (φ : Nat) (P Z Q : List α) (c : Nat) : ∀ (n : Nat) (X1 X2 Y1 Y2 : List α), X1.length = Y1.length -> X2.length = Y2.length -> c = X1.length + X2.length -> P.length + c + Z.length + c + Q.length <= 1000000 -> X2.length < n ->
  zes φ n (P.length : Int) ((P.length : Int) + c + Z.length) (c : Int) (X1.length : Int) (P ++ Y1 ++ X2 ++ Z ++ X1 ++ Y2 ++ Q) = some (P ++ Y1 ++ Y2 ++ Z ++ X1 ++ X2 ++ Q) := by
 intro n
 induction n with
 | zero => intro X1 X2 Y1 Y2 _ _ _ _ h; omega
 | succ n ih =>
  intro X1 X2 Y1 Y2 h1 h2 hc hl hn
  cases X2 with
  | nil =>
   have : Y2 = [] := List.eq_nil_of_length_eq_zero (by simpa using h2.symm)
   subst this
   simp only [List.length_nil, Nat.add_zero] at hc
   rw [zes, if_neg (by simp; omega)]
  | cons x X2 =>
   cases Y2 with
   | nil => simp at h2
   | cons w Y2 =>
    simp only [List.length_cons, Nat.add_right_cancel_iff] at h2 hc hn
    have w1 : W ((P.length : Int) + c + Z.length + X1.length) = (P.length : Int) + c + Z.length + X1.length := W_id (by omega) (by omega)
    have w2 : W ((P.length : Int) + X1.length) = (P.length : Int) + X1.length := W_id (by omega) (by omega)
    have w3 : W ((X1.length : Int) + 1) = (X1.length : Int) + 1 := W_id (by omega) (by omega)
    have e1 : P ++ Y1 ++ x :: X2 ++ Z ++ X1 ++ w :: Y2 ++ Q = (P ++ Y1) ++ x :: (X2 ++ Z ++ X1 ++ w :: Y2 ++ Q) := by simp
    have e2 : P ++ Y1 ++ x :: X2 ++ Z ++ X1 ++ w :: Y2 ++ Q = (P ++ Y1 ++ x :: X2 ++ Z ++ X1) ++ w :: (Y2 ++ Q) := by simp
    have g1 : gt (P ++ Y1 ++ x :: X2 ++ Z ++ X1 ++ w :: Y2 ++ Q) ((P.length : Int) + X1.length) = x := by rw [e1]; exact ze5 (by simp; omega)
    have g2 : gt (P ++ Y1 ++ x :: X2 ++ Z ++ X1 ++ w :: Y2 ++ Q) ((P.length : Int) + c + Z.length + X1.length) = w := by rw [e2]; exact ze5 (by simp; omega)
    have s1 : z0h (P ++ Y1 ++ x :: X2 ++ Z ++ X1 ++ w :: Y2 ++ Q) ((P.length : Int) + X1.length) w = (P ++ Y1) ++ w :: (X2 ++ Z ++ X1 ++ w :: Y2 ++ Q) := by rw [e1]; exact zjs (by simp; omega)
    have e3 : (P ++ Y1) ++ w :: (X2 ++ Z ++ X1 ++ w :: Y2 ++ Q) = (P ++ Y1 ++ w :: X2 ++ Z ++ X1) ++ w :: (Y2 ++ Q) := by simp
    have s2 : z0h ((P ++ Y1 ++ w :: X2 ++ Z ++ X1) ++ w :: (Y2 ++ Q)) ((P.length : Int) + c + Z.length + X1.length) x = (P ++ Y1 ++ w :: X2 ++ Z ++ X1) ++ x :: (Y2 ++ Q) := zjs (by simp; omega)
    have e4 : (P ++ Y1 ++ w :: X2 ++ Z ++ X1) ++ x :: (Y2 ++ Q) = P ++ (Y1 ++ [w]) ++ X2 ++ Z ++ (X1 ++ [x]) ++ Y2 ++ Q := by simp
    have hlen : ((P ++ Y1 ++ x :: X2 ++ Z ++ X1 ++ w :: Y2 ++ Q).length : Int) = P.length + c + Z.length + c + Q.length := by simp; omega
    have hlen2 : (((P ++ Y1 ++ w :: X2 ++ Z ++ X1) ++ w :: (Y2 ++ Q)).length : Int) = P.length + c + Z.length + c + Q.length := by simp; omega
    rw [zes, if_pos (by simp; omega), w1, w2, w3, g1, g2, s1, e3, s2, e4, hlen, hlen2]
    rw [z09 ⟨by omega, by omega⟩, z09 ⟨by omega, by omega⟩, z09 ⟨by omega, by omega⟩, z09 ⟨by omega, by omega⟩]
    have := ih (X1 ++ [x]) X2 (Y1 ++ [w]) Y2 (by simp [h1]) h2 (by simp; omega) hl (by omega)
    have e5 : (((X1 ++ [x]).length : Nat) : Int) = (X1.length : Int) + 1 := by simp
    rw [e5] at this
    rw [this]
    simp
theorem zpb (φ : Nat) (P X Z Y Q : List α) (y : α -> α -> Option Int) (h : X.length = Y.length) (hl : P.length + X.length + Z.length + X.length + Q.length <= 1000000) (hφ : X.length < φ) :
  zxg φ (P ++ X ++ Z ++ Y ++ Q) (P.length : Int) ((P.length : Int) + X.length + Z.length) (X.length : Int) y = some (P ++ Y ++ Z ++ X ++ Q) := by
 have := y9j φ P Z Q X.length φ [] X [] Y rfl h (by simp) hl hφ
 simpa [zxg] using this
theorem ybk (φ : Nat) (y : α -> α -> Option Int) : ∀ (n : Nat) (P X Y Q : List α), X ≠ [] -> Y ≠ [] -> P.length + X.length + Y.length + Q.length <= 1000000 -> X.length + Y.length <= n -> X.length + Y.length < φ ->
  zhn φ n ((P.length : Int) + X.length) y (X.length : Int) (Y.length : Int) (P ++ X ++ Y ++ Q) = some (P ++ Y ++ X ++ Q) := by
 intro n
 induction n with
 | zero => intro P X Y Q hX hY _ h; have := List.length_pos_iff.2 hX; omega
 | succ n ih =>
  intro P X Y Q hX hY hl hn hφ
  have hX0 := List.length_pos_iff.2 hX
  have hY0 := List.length_pos_iff.2 hY
  have w1 : W ((P.length : Int) + X.length - X.length) = (P.length : Int) := by rw [W_id (by omega) (by omega)]; omega
  rw [zhn, w1]
  by_cases he : X.length = Y.length
  ·rw [if_neg (by simp [he])]
   have := zpb φ P X [] Y Q y he (by simp; omega) (by omega)
   simp only [List.append_nil, List.length_nil, Int.ofNat_zero, Int.add_zero] at this
   rw [this]; rfl
  ·rw [if_pos (by simp; omega)]
   by_cases hlt : Y.length < X.length
   ·rw [if_pos (by simp; omega)]
    obtain ⟨X1, X2, rfl, h1⟩ : ∃ X1 X2, X = X1 ++ X2 /\ X1.length = Y.length := ⟨X.take Y.length, X.drop Y.length, (List.take_append_drop _ _).symm, by simp; omega⟩
    simp only [List.length_append] at hl hn hφ hlt hX0 he
    have e1 : P ++ (X1 ++ X2) ++ Y ++ Q = P ++ X1 ++ X2 ++ Y ++ Q := by simp
    have e2 : (P.length : Int) + ((X1 ++ X2).length : Nat) = (P.length : Int) + X1.length + X2.length := by simp; omega
    rw [e1, e2, <- h1, zpb φ P X1 X2 Y Q y h1 (by omega) (by omega)]
    simp only [Option.bind_some]
    have w2 : W (((X1 ++ X2).length : Int) - X1.length) = (X2.length : Int) := by simp; rw [W_id (by omega) (by omega)]; omega
    rw [w2]
    have := ih (P ++ Y) X2 X1 Q (by intro e; subst e; simp at hlt; omega) (by intro e; subst e; simp at h1; omega) (by simp; omega) (by omega) (by omega)
    have e3 : (((P ++ Y).length : Nat) : Int) + X2.length = (P.length : Int) + X1.length + X2.length := by simp; omega
    rw [e3] at this
    rw [this]
    simp
   ·rw [if_neg (by simp; omega)]
    obtain ⟨Y1, Y2, rfl, h1⟩ : ∃ Y1 Y2, Y = Y1 ++ Y2 /\ Y2.length = X.length := ⟨Y.take (Y.length - X.length), Y.drop (Y.length - X.length), (List.take_append_drop _ _).symm, by simp; omega⟩
    simp only [List.length_append] at hl hn hφ hlt hY0 he
    have e1 : P ++ X ++ (Y1 ++ Y2) ++ Q = P ++ X ++ Y1 ++ Y2 ++ Q := by simp
    have w3 : W ((P.length : Int) + X.length + ((Y1 ++ Y2).length : Nat)) = (P.length : Int) + X.length + Y1.length + Y2.length := by simp; rw [W_id (by omega) (by omega)]; omega
    have w4 : W ((P.length : Int) + X.length + Y1.length + Y2.length - X.length) = (P.length : Int) + X.length + Y1.length := by rw [W_id (by omega) (by omega)]; omega
    have w5 : W (((Y1 ++ Y2).length : Int) - X.length) = (Y1.length : Int) := by simp; rw [W_id (by omega) (by omega)]; omega
    rw [e1, w3, w4, w5, zpb φ P X Y1 Y2 Q y h1.symm (by omega) (by omega)]
    simp only [Option.bind_some]
    have := ih P Y2 Y1 (X ++ Q) (by intro e; subst e; simp at h1; omega) (by intro e; subst e; simp at h1 hlt he; omega) (by simp; omega) (by omega) (by omega)
    rw [h1] at this
    have e2 : P ++ Y2 ++ Y1 ++ X ++ Q = P ++ Y2 ++ Y1 ++ (X ++ Q) := by simp
    rw [e2, this]
    simp
theorem y8e (φ : Nat) (P X Y Q : List α) (y : α -> α -> Option Int) (hX : X ≠ []) (hY : Y ≠ []) (hl : P.length + X.length + Y.length + Q.length <= 1000000) (hφ : X.length + Y.length < φ) :
  grot φ (P ++ X ++ Y ++ Q) (P.length : Int) ((P.length : Int) + X.length) ((P.length : Int) + X.length + Y.length) y = some (P ++ Y ++ X ++ Q) := by
 have := ybk φ y φ P X Y Q hX hY hl (by omega) hφ
 rw [<- this]
 unfold grot
 have w1 : W ((P.length : Int) + X.length - P.length) = (X.length : Int) := by rw [W_id (by omega) (by omega)]; omega
 have w2 : W ((P.length : Int) + X.length + Y.length - ((P.length : Int) + X.length)) = (Y.length : Int) := by rw [W_id (by omega) (by omega)]; omega
 rw [w1, w2]
end
end Px
end
section
namespace Px
open Go
set_option linter.unusedVariables false
set_option linter.unusedSimpArgs false
set_option maxHeartbeats 4000000
section
variable {α : Type} [Inhabited α]
variable {D : α -> Prop} {lt : α -> α -> Bool} {y : α -> α -> Option Int}
theorem p21 : (2 : Int) ^ (min (1 : Int).toNat 64) = 2 := by decide
theorem y3w (φ : Nat) (x : α) : ∀ (n : Nat) (P C E : List α), P.length + C.length + E.length <= 999999 -> C.length < n ->
  zfv φ n ((P.length : Int) + C.length + 1) (P.length : Int) (P ++ x :: (C ++ E)) = some (P ++ C ++ x :: E) := by
 intro n
 induction n with
 | zero => intro P C E _ h; omega
 | succ n ih =>
  intro P C E hl hn
  have w0 : W ((P.length : Int) + C.length + 1 - 1) = (P.length : Int) + C.length := by rw [W_id (by omega) (by omega)]; omega
  rw [zfv, w0]
  cases C with
  | nil => rw [if_neg (by simp)]; simp
  | cons w C =>
   simp only [List.length_cons] at hl hn
   have w1 : W ((P.length : Int) + 1) = (P.length : Int) + 1 := W_id (by omega) (by omega)
   have e1 : P ++ x :: (w :: C ++ E) = (P ++ [x]) ++ w :: (C ++ E) := by simp
   have g1 : gt (P ++ x :: (w :: C ++ E)) (P.length : Int) = x := ze5 rfl
   have g2 : gt (P ++ x :: (w :: C ++ E)) ((P.length : Int) + 1) = w := by rw [e1]; exact ze5 (by simp)
   have s1 : z0h (P ++ x :: (w :: C ++ E)) (P.length : Int) w = P ++ w :: (w :: C ++ E) := zjs rfl
   have e2 : P ++ w :: (w :: C ++ E) = (P ++ [w]) ++ w :: (C ++ E) := by simp
   have s2 : z0h ((P ++ [w]) ++ w :: (C ++ E)) ((P.length : Int) + 1) x = (P ++ [w]) ++ x :: (C ++ E) := zjs (by simp)
   have hlen : ((P ++ x :: (w :: C ++ E)).length : Int) = P.length + C.length + E.length + 2 := by simp; omega
   have hlen2 : (((P ++ [w]) ++ w :: (C ++ E)).length : Int) = P.length + C.length + E.length + 2 := by simp; omega
   rw [if_pos (by simp; omega), w1, g1, g2, s1, e2, s2, hlen, hlen2, z09 ⟨by omega, by omega⟩, z09 ⟨by omega, by omega⟩, z09 ⟨by omega, by omega⟩, z09 ⟨by omega, by omega⟩]
   have := ih (P ++ [w]) C E (by simp; omega) (by omega)
   have e3 : (((P ++ [w]).length : Nat) : Int) = (P.length : Int) + 1 := by simp
   have e4 : (P.length : Int) + ((w :: C).length : Nat) + 1 = (P.length : Int) + 1 + C.length + 1 := by simp; omega
   rw [e3] at this
   rw [e4, this]
   simp
theorem zwj (φ : Nat) (x : α) (P : List α) : ∀ (n : Nat) (C E : List α), P.length + C.length + E.length <= 999999 -> C.length < n ->
  zg0 φ n (P.length : Int) ((P.length : Int) + C.length) (P ++ C ++ x :: E) = some (P ++ x :: (C ++ E)) := by
 intro n
 induction n with
 | zero => intro C E _ h; omega
 | succ n ih =>
  intro C E hl hn
  rw [zg0]
  rcases zb3 C with rfl | ⟨S, z, rfl⟩
  ·rw [if_neg (by simp)]; simp
  ·simp only [List.length_append, List.length_cons, List.length_nil] at hl hn
   have w1 : W ((P.length : Int) + ((S ++ [z]).length : Nat) - 1) = (P.length : Int) + S.length := by
    rw [W_id (by simp; omega) (by simp; omega)]; simp; omega
   have e1 : P ++ (S ++ [z]) ++ x :: E = (P ++ S ++ [z]) ++ x :: E := by simp
   have e2 : P ++ (S ++ [z]) ++ x :: E = (P ++ S) ++ z :: (x :: E) := by simp
   have g1 : gt (P ++ (S ++ [z]) ++ x :: E) ((P.length : Int) + ((S ++ [z]).length : Nat)) = x := by rw [e1]; exact ze5 (by simp <;> omega)
   have g2 : gt (P ++ (S ++ [z]) ++ x :: E) ((P.length : Int) + S.length) = z := by rw [e2]; exact ze5 (by simp)
   have s1 : z0h (P ++ (S ++ [z]) ++ x :: E) ((P.length : Int) + ((S ++ [z]).length : Nat)) z = (P ++ S) ++ z :: (z :: E) := by rw [e1, zjs (by simp <;> omega)]; simp
   have s2 : z0h ((P ++ S) ++ z :: (z :: E)) ((P.length : Int) + S.length) x = P ++ S ++ x :: (z :: E) := zjs (by simp)
   have hlen : ((P ++ (S ++ [z]) ++ x :: E).length : Int) = P.length + S.length + E.length + 2 := by simp; omega
   have hlen2 : (((P ++ S) ++ z :: (z :: E)).length : Int) = P.length + S.length + E.length + 2 := by simp; omega
   rw [if_pos (by simp; omega), w1, g1, g2, s1, s2, hlen, hlen2, z09 ⟨by omega, by omega⟩, z09 ⟨by simp; omega, by simp; omega⟩, z09 ⟨by simp; omega, by simp; omega⟩, z09 ⟨by omega, by omega⟩]
   rw [ih S (z :: E) (by simp; omega) (by omega)]
   simp
theorem ztu (hs : Swo lt) (hy : Cmp D y lt) (φ : Nat) (P L Q : List α) (x : α) (hx : D x) (hD : ∀ z ∈ L, D z) (hS : Srt lt L) (hl : P.length + L.length + Q.length <= 999998) (hφ : P.length + L.length + 2 < φ) :
  ∃ R, Srt lt R /\ Stb lt (x :: L) R /\ zae φ φ (P.length : Int) y ((P.length : Int) + 1) ((P.length : Int) + 1 + L.length) (P ++ x :: (L ++ Q)) = some (P ++ R ++ Q) := by
 have gx : gt (P ++ x :: (L ++ Q)) (P.length : Int) = x := ze5 rfl
 have hlen : ((P ++ x :: (L ++ Q)).length : Int) = P.length + L.length + Q.length + 1 := by simp; omega
 have gL : ∀ i : Nat, P.length + 1 <= i -> i < P.length + 1 + L.length -> gt (P ++ x :: (L ++ Q)) (i : Int) = gt L ((i - (P.length + 1) : Nat) : Int) := by
  intro i h1 h2
  have e : P ++ x :: (L ++ Q) = (P ++ [x]) ++ (L ++ Q) := by simp
  rw [e, z8z _ _ _ (by simp; omega), zdm _ _ _ (by simp; omega) (by simp; omega)]
  congr 1; simp; omega
 obtain ⟨c, h1, h2, h3, h4, h5⟩ := zt0 (fun n s r => zae φ n (P.length : Int) y s r (P ++ x :: (L ++ Q)))
  (fun s => zfv φ φ s (P.length : Int) (P ++ x :: (L ++ Q))) (fun h => lt (gt (P ++ x :: (L ++ Q)) (h : Int)) x) (P.length + 1 + L.length) (P.length + 1)
  (by
   intro n s r h0 hlt hR
   have hm : (W ((U (W ((s : Int) + r))).fdiv 2)) = (((s + r) / 2 : Nat) : Int) := by rw [zy6 (by omega) (by omega)]; omega
   have hm1 : W ((((s + r) / 2 : Nat) : Int) + 1) = (((s + r) / 2 + 1 : Nat) : Int) := by rw [W_id (by omega) (by omega)]; simp
   obtain ⟨w, hw1, hw2⟩ := hy (gt (P ++ x :: (L ++ Q)) (((s + r) / 2 : Nat) : Int)) x (by
    rw [gL _ (by omega) (by omega)]; exact hD _ (zmu (by omega) (by omega))) hx
   show zae φ (n + 1) _ _ _ _ _ = _
   rw [zae, if_pos (by simp; omega), if_pos (by decide), p21, hm, hm1, hlen, gx, z09 ⟨by omega, by omega⟩, z09 ⟨by omega, by omega⟩, hw1]
   simp only [Option.bind_some, hw2])
  (by
   intro n s
   show zae φ (n + 1) _ _ _ _ _ = _
   rw [zae, if_neg (by simp)]) φ (P.length + 1) (P.length + 1 + L.length) (Nat.le_refl _) (by omega) (Nat.le_refl _) (by omega)
 obtain ⟨C, E, rfl, hC⟩ : ∃ C E, L = C ++ E /\ C.length = c - (P.length + 1) := ⟨L.take (c - (P.length + 1)), L.drop (c - (P.length + 1)), (List.take_append_drop _ _).symm, by simp; omega⟩
 simp only [List.length_append] at hl hφ h2 gL
 have hCx : ∀ z ∈ C, lt z x = true := by
  intro z hz
  rcases zb3 C with rfl | ⟨S, w, rfl⟩
  ·cases hz
  ·simp only [List.length_append, List.length_cons, List.length_nil] at hC hz hS gL h2
   have hp : lt w x = true := by
    rcases h3 with h3 | h3
    ·omega
    ·rw [gL _ (by omega) (by omega)] at h3
     have e : S ++ [w] ++ E = S ++ w :: E := by simp
     rw [e, ze5 (by omega)] at h3
     exact h3
   rcases List.mem_append.1 hz with h | h
   ·exact zj3 hs (hS.parts.1.parts.2.2 z h w (by simp)) hp (hs.irr x)
   ·simp at h; rw [h]; exact hp
 have hEx : ∀ z ∈ E, lt z x = false := by
  intro z hz
  cases E with
  | nil => cases hz
  | cons w E =>
   simp only [List.length_cons] at h2 gL h4
   have hp : lt w x = false := by
    rcases h4 with h4 | h4
    ·simp at h4; omega
    ·rw [gL _ (by omega) (by omega), ze5 (by omega)] at h4
     exact h4
   rcases List.mem_cons.1 hz with h | h
   ·rw [h]; exact hp
   ·exact hs.ntr _ _ _ ((List.pairwise_cons.1 hS.parts.2.1).1 z h) hp
 have hm := zgq hs (A := []) (B := [x]) (C := C) (E := E) (R1 := C) (R2 := x :: E) (List.pairwise_singleton _ _) hS (by simpa using hCx) (by simp) hS.parts.1 (by simpa using Stb.refl C) (List.pairwise_cons.2 ⟨hEx, hS.parts.2.1⟩) (by simpa using Stb.refl (x :: E))
 refine ⟨C ++ x :: E, hm.1, by simpa using hm.2, ?_⟩
 have e5 : ((P.length : Int) + 1 + ((C ++ E).length : Nat)) = ((P.length + 1 + (C ++ E).length : Nat) : Int) := by simp
 have e6 : ((P.length : Int) + 1) = ((P.length + 1 : Nat) : Int) := by simp
 rw [e5, e6]
 refine h5.trans ?_
 show zfv φ φ _ _ _ = _
 have e7 : (c : Int) = (P.length : Int) + C.length + 1 := by omega
 have e8 : P ++ x :: (C ++ E ++ Q) = P ++ x :: (C ++ (E ++ Q)) := by simp
 rw [e7, e8, y3w φ x φ P C (E ++ Q) (by simp; omega) (by omega)]
 simp
theorem zw5 (hs : Swo lt) (hy : Cmp D y lt) (φ : Nat) (P L Q : List α) (x : α) (hx : D x) (hD : ∀ z ∈ L, D z) (hS : Srt lt L) (hl : P.length + L.length + Q.length <= 999998) (hφ : P.length + L.length + 2 < φ) :
  ∃ R, Srt lt R /\ Stb lt (L ++ [x]) R /\ zab φ φ ((P.length : Int) + L.length) y (P.length : Int) ((P.length : Int) + L.length) (P ++ L ++ x :: Q) = some (P ++ R ++ Q) := by
 have gx : gt (P ++ L ++ x :: Q) ((P.length : Int) + L.length) = x := ze5 (by simp)
 have hlen : ((P ++ L ++ x :: Q).length : Int) = P.length + L.length + Q.length + 1 := by simp; omega
 have gL : ∀ i : Nat, P.length <= i -> i < P.length + L.length -> gt (P ++ L ++ x :: Q) (i : Int) = gt L ((i - P.length : Nat) : Int) := by
  intro i h1 h2
  rw [List.append_assoc, z8z _ _ _ (by omega), zdm _ _ _ (by omega) (by omega)]
  congr 1; omega
 obtain ⟨c, h1, h2, h3, h4, h5⟩ := zt0 (fun n s r => zab φ n ((P.length : Int) + L.length) y s r (P ++ L ++ x :: Q))
  (fun s => zg0 φ φ s ((P.length : Int) + L.length) (P ++ L ++ x :: Q)) (fun h => !lt x (gt (P ++ L ++ x :: Q) (h : Int))) (P.length + L.length) P.length
  (by
   intro n s r h0 hlt hR
   have hm : (W ((U (W ((s : Int) + r))).fdiv 2)) = (((s + r) / 2 : Nat) : Int) := by rw [zy6 (by omega) (by omega)]; omega
   have hm1 : W ((((s + r) / 2 : Nat) : Int) + 1) = (((s + r) / 2 + 1 : Nat) : Int) := by rw [W_id (by omega) (by omega)]; simp
   obtain ⟨w, hw1, hw2⟩ := hy x (gt (P ++ L ++ x :: Q) (((s + r) / 2 : Nat) : Int)) hx (by
    rw [gL _ (by omega) (by omega)]; exact hD _ (zmu (by omega) (by omega)))
   show zab φ (n + 1) _ _ _ _ _ = _
   rw [zab, if_pos (by simp; omega), if_pos (by decide), p21, hm, hm1, hlen, gx, z09 ⟨by omega, by omega⟩, z09 ⟨by omega, by omega⟩, hw1]
   simp only [Option.bind_some, hw2])
  (by
   intro n s
   show zab φ (n + 1) _ _ _ _ _ = _
   rw [zab, if_neg (by simp)]) φ P.length (P.length + L.length) (Nat.le_refl _) (by omega) (Nat.le_refl _) (by omega)
 obtain ⟨A, B, rfl, hC⟩ : ∃ A B, L = A ++ B /\ A.length = c - P.length := ⟨L.take (c - P.length), L.drop (c - P.length), (List.take_append_drop _ _).symm, by simp; omega⟩
 simp only [List.length_append] at hl hφ h2 gL
 have hA : ∀ z ∈ A, lt x z = false := by
  intro z hz
  rcases zb3 A with rfl | ⟨S, w, rfl⟩
  ·cases hz
  ·simp only [List.length_append, List.length_cons, List.length_nil] at hC hz hS gL h2
   have hp : lt x w = false := by
    rcases h3 with h3 | h3
    ·omega
    ·rw [gL _ (by omega) (by omega)] at h3
     have e : S ++ [w] ++ B = S ++ w :: B := by simp
     rw [e, ze5 (by omega)] at h3
     simpa using h3
   rcases List.mem_append.1 hz with h | h
   ·exact hs.ntr _ _ _ hp (hS.parts.1.parts.2.2 z h w (by simp))
   ·simp at h; rw [h]; exact hp
 have hB : ∀ z ∈ B, lt x z = true := by
  intro z hz
  cases B with
  | nil => cases hz
  | cons w B =>
   simp only [List.length_cons] at h2 gL h4
   have hp : lt x w = true := by
    rcases h4 with h4 | h4
    ·simp at h4; omega
    ·rw [gL _ (by omega) (by omega), ze5 (by omega)] at h4
     simpa using h4
   rcases List.mem_cons.1 hz with h | h
   ·rw [h]; exact hp
   ·exact zj3 hs (hs.irr x) hp ((List.pairwise_cons.1 hS.parts.2.1).1 z h)
 have hm := zgq hs (A := A) (B := B) (C := [x]) (E := []) (R1 := A ++ [x]) (R2 := B) hS (by rw [List.append_nil]; exact List.pairwise_singleton _ x) (by simpa using hB) (by simp)
  (hS.parts.1.app (List.pairwise_singleton _ _) (by simpa using hA)) (Stb.refl _) hS.parts.2.1 (by simpa using Stb.refl B)
 refine ⟨A ++ [x] ++ B, hm.1, by simpa using hm.2, ?_⟩
 have e5 : ((P.length : Int) + ((A ++ B).length : Nat)) = ((P.length + (A ++ B).length : Nat) : Int) := by simp
 rw [e5] at h5 ⊢
 refine h5.trans ?_
 show zg0 φ φ _ _ _ = _
 have e7 : (c : Int) = (((P ++ A).length : Nat) : Int) := by simp; omega
 have e8 : P ++ (A ++ B) ++ x :: Q = (P ++ A) ++ B ++ x :: Q := by simp
 have e9 : ((P.length + (A ++ B).length : Nat) : Int) = (((P ++ A).length : Nat) : Int) + B.length := by simp; omega
 rw [e7, e8, e9, zwj φ x (P ++ A) φ B Q (by simp; omega) (by omega)]
 simp
def zx7 (φ : Nat) (k0 : List α -> Int -> Int -> Int -> (α -> α -> Option Int) -> Option (List α)) (a m b : Int) (y : α -> α -> Option Int) (mid n s : Int) (l : List α) : Option (List α) :=
 (if ((decide ((s : Int) < m)) && (decide ((m : Int) < (W (n - s))))) = true then ((grot φ l s m (W (n - s)) y).bind fun y66 => (zdc φ k0 a b y mid s (W (n - s)) y66)) else (zdc φ k0 a b y mid s (W (n - s)) l))
theorem y8q (hs : Swo lt) (hy : Cmp D y lt) (φ : Nat) (k0 : List α -> Int -> Int -> Int -> (α -> α -> Option Int) -> Option (List α)) (P L1 L2 Q : List α) (hD1 : ∀ z ∈ L1, D z) (hD2 : ∀ z ∈ L2, D z) (hS1 : Srt lt L1) (hS2 : Srt lt L2)
  (a m b mid s0 r0 : Nat) (ha : a = P.length) (hm : m = a + L1.length) (hb : b = m + L2.length) (hmid : mid = (a + b) / 2) (hl : b + Q.length <= 999998) (hφ : b < φ)
  (h1 : 1 <= L1.length) (h2 : 1 <= L2.length) (hs0 : (mid < m /\ s0 = mid + m - b /\ r0 = mid) \/ (m <= mid /\ s0 = a /\ r0 = m)) :
  ∃ A B C E, L1 = A ++ B /\ L2 = C ++ E /\ mid + m - (a + A.length) = m + C.length /\ (∀ x ∈ B, ∀ y ∈ C, lt y x = true) /\ (∀ x ∈ A, ∀ y ∈ E, lt y x = false) /\
   za4 φ k0 φ (a : Int) (m : Int) (b : Int) y (mid : Int) ((mid + m : Nat) : Int) (s0 : Int) (r0 : Int) ((mid + m - 1 : Nat) : Int) (P ++ L1 ++ L2 ++ Q) = zx7 φ k0 (a : Int) (m : Int) (b : Int) y (mid : Int) ((mid + m : Nat) : Int) ((a + A.length : Nat) : Int) (P ++ L1 ++ L2 ++ Q) := by
 have g1 : ∀ i : Nat, a <= i -> i < m -> gt (P ++ L1 ++ L2 ++ Q) (i : Int) = gt L1 ((i - a : Nat) : Int) := by
  intro i q1 q2
  have e : P ++ L1 ++ L2 ++ Q = P ++ (L1 ++ (L2 ++ Q)) := by simp
  rw [e, z8z _ _ _ (by omega), zdm _ _ _ (by omega) (by omega)]
  congr 1; omega
 have g2 : ∀ i : Nat, m <= i -> i < b -> gt (P ++ L1 ++ L2 ++ Q) (i : Int) = gt L2 ((i - m : Nat) : Int) := by
  intro i q1 q2
  have e : P ++ L1 ++ L2 ++ Q = (P ++ L1) ++ (L2 ++ Q) := by simp
  rw [e, z8z _ _ _ (by simp; omega), zdm _ _ _ (by simp; omega) (by simp; omega)]
  congr 1; simp; omega
 have hlen : ((P ++ L1 ++ L2 ++ Q).length : Int) = b + Q.length := by simp; omega
 have hW : W ((U (W ((a : Int) + b))).fdiv 2) = (mid : Int) := by rw [zy6 (by omega) (by omega)]; omega
 have hn : W ((mid : Int) + m) = ((mid + m : Nat) : Int) := by rw [W_id (by omega) (by omega)]; simp
 have hp : W (((mid + m : Nat) : Int) - 1) = ((mid + m - 1 : Nat) : Int) := by rw [W_id (by omega) (by omega)]; omega
 have hmb : mid <= b := by omega
 have ham : a <= mid := by omega
 obtain ⟨c, h3, h4, h5, h6, h7⟩ := zt0 (fun n s r => za4 φ k0 n (a : Int) (m : Int) (b : Int) y (mid : Int) ((mid + m : Nat) : Int) s r ((mid + m - 1 : Nat) : Int) (P ++ L1 ++ L2 ++ Q)) (fun s => zx7 φ k0 (a : Int) (m : Int) (b : Int) y (mid : Int) ((mid + m : Nat) : Int) s (P ++ L1 ++ L2 ++ Q))
  (fun c => !lt (gt (P ++ L1 ++ L2 ++ Q) ((mid + m - 1 - c : Nat) : Int)) (gt (P ++ L1 ++ L2 ++ Q) (c : Int))) r0 s0
  (by
   intro n s r q0 hlt hR
   have hm' : (W ((U (W ((s : Int) + r))).fdiv 2)) = (((s + r) / 2 : Nat) : Int) := by rw [zy6 (by omega) (by omega)]; omega
   have hm1 : W ((((s + r) / 2 : Nat) : Int) + 1) = (((s + r) / 2 + 1 : Nat) : Int) := by rw [W_id (by omega) (by omega)]; simp
   have hpc : W (((mid + m - 1 : Nat) : Int) - (((s + r) / 2 : Nat) : Int)) = ((mid + m - 1 - (s + r) / 2 : Nat) : Int) := by rw [W_id (by omega) (by omega)]; omega
   obtain ⟨w, hw1, hw2⟩ := hy (gt (P ++ L1 ++ L2 ++ Q) ((mid + m - 1 - (s + r) / 2 : Nat) : Int)) (gt (P ++ L1 ++ L2 ++ Q) (((s + r) / 2 : Nat) : Int))
    (by rw [g2 _ (by omega) (by omega)]; exact hD2 _ (zmu (by omega) (by omega))) (by rw [g1 _ (by omega) (by omega)]; exact hD1 _ (zmu (by omega) (by omega)))
   show za4 φ k0 (n + 1) _ _ _ _ _ _ _ _ _ _ = _
   rw [za4, if_pos (by simp; omega), if_pos (by decide), p21, hm', hm1, hpc, hlen, z09 ⟨by omega, by omega⟩, z09 ⟨by omega, by omega⟩, hw1]
   simp only [Option.bind_some, hw2])
  (by
   intro n s
   show za4 φ k0 (n + 1) _ _ _ _ _ _ _ _ _ _ = _
   rw [za4, if_neg (by simp)]
   rfl) φ s0 r0 (Nat.le_refl _) (by omega) (Nat.le_refl _) (by omega)
 obtain ⟨A, B, rfl, hA⟩ : ∃ A B, L1 = A ++ B /\ A.length = c - a := ⟨L1.take (c - a), L1.drop (c - a), (List.take_append_drop _ _).symm, by simp; omega⟩
 obtain ⟨C, E, rfl, hC⟩ : ∃ C E, L2 = C ++ E /\ C.length = mid - c := ⟨L2.take (mid - c), L2.drop (mid - c), (List.take_append_drop _ _).symm, by simp; omega⟩
 simp only [List.length_append] at hm hb g1 g2
 refine ⟨A, B, C, E, rfl, rfl, by omega, ?_, ?_, ?_⟩
 ·intro x hx z hz
  rcases zb3 C with rfl | ⟨S, w, rfl⟩
  ·cases hz
  ·cases B with
   | nil => cases hx
   | cons x0 B =>
    simp only [List.length_append, List.length_cons, List.length_nil] at hC hm hb g1 g2 hA
    have hp : lt w x0 = true := by
     rcases h6 with h6 | h6
     ·omega
     ·rw [g1 c (by omega) (by omega), g2 (mid + m - 1 - c) (by omega) (by omega)] at h6
      have e : S ++ [w] ++ E = S ++ w :: E := by simp
      rw [e, ze5 (by omega), ze5 (by omega)] at h6
      simpa using h6
    have hz1 : lt w z = false := by
     rcases List.mem_append.1 hz with h | h
     ·exact hS2.parts.1.parts.2.2 z h w (by simp)
     ·simp at h; rw [h]; exact hs.irr _
    have hx1 : lt x x0 = false := by
     rcases List.mem_cons.1 hx with h | h
     ·rw [h]; exact hs.irr _
     ·exact (List.pairwise_cons.1 hS1.parts.2.1).1 x h
    exact zj3 hs hz1 hp hx1
 ·intro x hx z hz
  rcases zb3 A with rfl | ⟨S, w, rfl⟩
  ·cases hx
  ·cases E with
   | nil => cases hz
   | cons e0 E =>
    simp only [List.length_append, List.length_cons, List.length_nil] at hC hm hb g1 g2 hA
    have hp : lt e0 w = false := by
     rcases h5 with h5 | h5
     ·omega
     ·have e1 : mid + m - 1 - (c - 1) = mid + m - c := by omega
      rw [e1, g1 (c - 1) (by omega) (by omega), g2 (mid + m - c) (by omega) (by omega)] at h5
      have e : S ++ [w] ++ B = S ++ w :: B := by simp
      rw [e, ze5 (by omega), ze5 (by omega)] at h5
      simpa using h5
    have hz1 : lt z e0 = false := by
     rcases List.mem_cons.1 hz with h | h
     ·rw [h]; exact hs.irr _
     ·exact (List.pairwise_cons.1 hS2.parts.2.1).1 z h
    have hx1 : lt w x = false := by
     rcases List.mem_append.1 hx with h | h
     ·exact hS1.parts.1.parts.2.2 x h w (by simp)
     ·simp at h; rw [h]; exact hs.irr _
    exact zt7 hs hz1 hp hx1
 ·refine h7.trans ?_
  have e : (c : Int) = ((a + A.length : Nat) : Int) := by omega
  show zx7 φ k0 _ _ _ _ _ _ _ _ = _
  rw [e]
theorem zsh (hs : Swo lt) (hy : Cmp D y lt) (φ : Nat) : ∀ (d : Nat) (P L1 L2 Q : List α), (∀ z ∈ L1, D z) -> (∀ z ∈ L2, D z) -> Srt lt L1 -> Srt lt L2 -> L1 ≠ [] -> L2 ≠ [] ->
  P.length + L1.length + L2.length + Q.length <= 999998 -> P.length + L1.length + L2.length + 3 < φ -> L1.length + L2.length <= d ->
  ∃ R, Srt lt R /\ Stb lt (L1 ++ L2) R /\ gsym φ d (P ++ L1 ++ L2 ++ Q) (P.length : Int) ((P.length : Int) + L1.length) ((P.length : Int) + L1.length + L2.length) y = some (P ++ R ++ Q) := by
 intro d
 induction d with
 | zero => intro P L1 L2 Q _ _ _ _ h1 _ _ _ h; have := List.length_pos_iff.2 h1; omega
 | succ d ih =>
  intro P L1 L2 Q hD1 hD2 hS1 hS2 hn1 hn2 hl hφ hd
  have hp1 := List.length_pos_iff.2 hn1
  have hp2 := List.length_pos_iff.2 hn2
  rw [gsym]
  have w1 : W ((P.length : Int) + L1.length - P.length) = (L1.length : Int) := by rw [W_id (by omega) (by omega)]; omega
  have w2 : W ((P.length : Int) + L1.length + L2.length - ((P.length : Int) + L1.length)) = (L2.length : Int) := by rw [W_id (by omega) (by omega)]; omega
  rw [w1, w2]
  by_cases q1 : L1.length = 1
  ·rw [if_pos (by simp [q1])]
   match L1, q1 with
   | [x], _ =>
    obtain ⟨R, r1, r2, r3⟩ := ztu hs hy φ P L2 Q x (hD1 x (by simp)) hD2 hS2 (by simp at hl; omega) (by simp at hφ; omega)
    refine ⟨R, r1, r2, ?_⟩
    rw [<- r3]
    simp
  ·rw [if_neg (by simp; omega)]
   by_cases q2 : L2.length = 1
   ·rw [if_pos (by simp [q2])]
    match L2, q2 with
    | [x], _ =>
     obtain ⟨R, r1, r2, r3⟩ := zw5 hs hy φ P L1 Q x (hD2 x (by simp)) hD1 hS1 (by simp at hl; omega) (by simp at hφ; omega)
     refine ⟨R, r1, r2, ?_⟩
     rw [<- r3]
     simp
   ·rw [if_neg (by simp; omega)]
    obtain ⟨a, ha⟩ : ∃ a, a = P.length := ⟨_, rfl⟩
    obtain ⟨m, hm⟩ : ∃ m, m = a + L1.length := ⟨_, rfl⟩
    obtain ⟨b, hb⟩ : ∃ b, b = m + L2.length := ⟨_, rfl⟩
    obtain ⟨mid, hmid⟩ : ∃ mid, mid = (a + b) / 2 := ⟨_, rfl⟩
    have ea : (P.length : Int) = (a : Int) := by omega
    have em : (P.length : Int) + L1.length = (m : Int) := by omega
    have eb : (P.length : Int) + L1.length + L2.length = (b : Int) := by omega
    rw [eb, em, ea]
    have hW : W ((U (W ((a : Int) + b))).fdiv 2) = (mid : Int) := by rw [zy6 (by omega) (by omega)]; omega
    have hn : W ((mid : Int) + m) = ((mid + m : Nat) : Int) := by rw [W_id (by omega) (by omega)]; simp
    rw [if_pos (show (0 : Int) <= 1 by decide), p21, hW, hn]
    have key : ∃ s0 r0 : Nat, ((mid < m /\ s0 = mid + m - b /\ r0 = mid) \/ (m <= mid /\ s0 = a /\ r0 = m)) /\
      (if decide ((mid : Int) < m) = true then zg2 φ (gsym φ d) (a : Int) (m : Int) (b : Int) y (mid : Int) ((mid + m : Nat) : Int) (W (((mid + m : Nat) : Int) - b)) (mid : Int) (P ++ L1 ++ L2 ++ Q)
       else zg2 φ (gsym φ d) (a : Int) (m : Int) (b : Int) y (mid : Int) ((mid + m : Nat) : Int) (a : Int) (m : Int) (P ++ L1 ++ L2 ++ Q)) =
      zg2 φ (gsym φ d) (a : Int) (m : Int) (b : Int) y (mid : Int) ((mid + m : Nat) : Int) (s0 : Int) (r0 : Int) (P ++ L1 ++ L2 ++ Q) := by
     by_cases q : mid < m
     ·refine ⟨mid + m - b, mid, .inl ⟨q, rfl, rfl⟩, ?_⟩
      have : W (((mid + m : Nat) : Int) - b) = ((mid + m - b : Nat) : Int) := by rw [W_id (by omega) (by omega)]; omega
      rw [if_pos (by simp; omega), this]
     ·refine ⟨a, m, .inr ⟨by omega, rfl, rfl⟩, ?_⟩
      rw [if_neg (by simp; omega)]
    obtain ⟨s0, r0, hk, e⟩ := key
    rw [e]
    unfold zg2
    have hp : W (((mid + m : Nat) : Int) - 1) = ((mid + m - 1 : Nat) : Int) := by rw [W_id (by omega) (by omega)]; omega
    rw [hp]
    obtain ⟨A, B, C, E, rfl, rfl, hc, hA, hB, hL⟩ := y8q hs hy φ (gsym φ d) P L1 L2 Q hD1 hD2 hS1 hS2 a m b mid s0 r0 ha hm hb hmid (by omega) (by omega) (by omega) (by omega) hk
    rw [hL]
    simp only [List.length_append] at hm hb hl hφ hp1 hp2 q1 q2
    have hcm : mid = a + A.length + C.length := by omega
    have hend : W (((mid + m : Nat) : Int) - ((a + A.length : Nat) : Int)) = ((m + C.length : Nat) : Int) := by rw [W_id (by omega) (by omega)]; omega
    have step1 : zx7 φ (gsym φ d) (a : Int) (m : Int) (b : Int) y (mid : Int) ((mid + m : Nat) : Int) ((a + A.length : Nat) : Int) (P ++ (A ++ B) ++ (C ++ E) ++ Q) =
      zdc φ (gsym φ d) (a : Int) (b : Int) y (mid : Int) ((a + A.length : Nat) : Int) ((m + C.length : Nat) : Int) (P ++ A ++ C ++ B ++ E ++ Q) := by
     unfold zx7
     rw [hend]
     by_cases hBC : B = [] \/ C = []
     ·rw [if_neg (by
       rcases hBC with rfl | rfl
       ·simp at hm ⊢; omega
       ·simp)]
      rcases hBC with rfl | rfl <;> simp
     ·obtain ⟨hB0, hC0⟩ := not_or.1 hBC
      have b0 := List.length_pos_iff.2 hB0
      have c0 := List.length_pos_iff.2 hC0
      rw [if_pos (by simp; omega)]
      have := y8e φ (P ++ A) B C (E ++ Q) y hB0 hC0 (by simp; omega) (by omega)
      have e1 : P ++ (A ++ B) ++ (C ++ E) ++ Q = P ++ A ++ B ++ C ++ (E ++ Q) := by simp
      have e2 : ((a + A.length : Nat) : Int) = ((P ++ A).length : Nat) := by simp; omega
      have e3 : (m : Int) = ((P ++ A).length : Nat) + (B.length : Int) := by simp; omega
      have e4 : ((m + C.length : Nat) : Int) = ((P ++ A).length : Nat) + (B.length : Int) + C.length := by simp; omega
      rw [e1]
      conv => lhs; arg 1; rw [e4, e2, e3]
      rw [this]
      simp only [Option.bind_some]
      congr 1
      simp
    rw [step1]
    have step2 : ∃ R1, Srt lt R1 /\ Stb lt (A ++ C) R1 /\ zdc φ (gsym φ d) (a : Int) (b : Int) y (mid : Int) ((a + A.length : Nat) : Int) ((m + C.length : Nat) : Int) (P ++ A ++ C ++ B ++ E ++ Q) =
      zi6 φ (gsym φ d) (b : Int) y (mid : Int) ((m + C.length : Nat) : Int) (P ++ R1 ++ B ++ E ++ Q) := by
     unfold zdc
     by_cases hAC : A = [] \/ C = []
     ·refine ⟨A ++ C, ?_, Stb.refl _, ?_⟩
      ·rcases hAC with rfl | rfl
       ·simpa using hS2.parts.1
       ·simpa using hS1.parts.1
      ·rw [if_neg (by
        rcases hAC with rfl | rfl
        ·simp
        ·simp at hcm ⊢; omega)]
       simp
     ·obtain ⟨hA0, hC0⟩ := not_or.1 hAC
      have a0 := List.length_pos_iff.2 hA0
      have c0 := List.length_pos_iff.2 hC0
      obtain ⟨R1, r1, r2, r3⟩ := ih P A C (B ++ E ++ Q) (fun z hz => hD1 z (by simp [hz])) (fun z hz => hD2 z (by simp [hz])) hS1.parts.1 hS2.parts.1 hA0 hC0 (by simp; omega) (by omega) (by omega)
      refine ⟨R1, r1, r2, ?_⟩
      rw [if_pos (by simp; omega)]
      have e1 : P ++ A ++ C ++ B ++ E ++ Q = P ++ A ++ C ++ (B ++ E ++ Q) := by simp
      have e2 : ((a + A.length : Nat) : Int) = (P.length : Int) + A.length := by simp; omega
      have e3 : (mid : Int) = (P.length : Int) + A.length + C.length := by omega
      rw [e1]
      conv => lhs; arg 1; rw [e3, e2, <- ea]
      rw [r3]
      simp
    obtain ⟨R1, r1, r2, e2⟩ := step2
    rw [e2]
    have hR1 : R1.length = A.length + C.length := by rw [r2.len]; simp
    have step3 : ∃ R2, Srt lt R2 /\ Stb lt (B ++ E) R2 /\ zi6 φ (gsym φ d) (b : Int) y (mid : Int) ((m + C.length : Nat) : Int) (P ++ R1 ++ B ++ E ++ Q) = some (P ++ (R1 ++ R2) ++ Q) := by
     unfold zi6
     by_cases hBE : B = [] \/ E = []
     ·refine ⟨B ++ E, ?_, Stb.refl _, ?_⟩
      ·rcases hBE with rfl | rfl
       ·simpa using hS2.parts.2.1
       ·simpa using hS1.parts.2.1
      ·rw [if_neg (by
        rcases hBE with rfl | rfl
        ·simp at hm ⊢; omega
        ·simp at hb ⊢; omega)]
       simp
     ·obtain ⟨hB0, hE0⟩ := not_or.1 hBE
      have b0 := List.length_pos_iff.2 hB0
      have c0 := List.length_pos_iff.2 hE0
      obtain ⟨R2, p1, p2, p3⟩ := ih (P ++ R1) B E Q (fun z hz => hD1 z (by simp [hz])) (fun z hz => hD2 z (by simp [hz])) hS1.parts.2.1 hS2.parts.2.1 hB0 hE0 (by simp; omega) (by simp; omega) (by omega)
      refine ⟨R2, p1, p2, ?_⟩
      rw [if_pos (by simp; omega)]
      have e1 : (mid : Int) = ((P ++ R1).length : Nat) := by simp; omega
      have e3 : ((m + C.length : Nat) : Int) = ((P ++ R1).length : Nat) + (B.length : Int) := by simp; omega
      have e4 : (b : Int) = ((P ++ R1).length : Nat) + (B.length : Int) + E.length := by simp; omega
      conv => lhs; arg 1; rw [e4, e3, e1]
      rw [p3]
      simp
    obtain ⟨R2, p1, p2, e3⟩ := step3
    rw [e3]
    have hm' := zgq hs hS1 hS2 hA hB r1 r2 p1 p2
    exact ⟨R1 ++ R2, hm'.1, hm'.2, rfl⟩
theorem zwu (hs : Swo lt) (hy : Cmp D y lt) (φ N : Nat) (hN : N <= 900000) (hφ : N < φ) :
  ∀ (n : Nat) (X Y : List α), (∀ z ∈ Y, D z) -> X.length + Y.length = N -> Y.length < n ->
  ∃ Y1 Y2 Y1', Y = Y1 ++ Y2 /\ Runs lt 20 (Y1' ++ []) /\ Y2.length < 20 /\ Stb lt Y1 Y1' /\ (∀ T, Runs lt 20 T -> Runs lt 20 (Y1' ++ T)) /\
   zfo φ n (N : Int) y 20 (X.length : Int) ((X.length : Int) + 20) (X ++ Y) = ((gins φ (X ++ Y1' ++ Y2) ((X.length : Int) + Y1.length) (N : Int) y).bind fun y12 => z90 φ φ (N : Int) y 20 y12) := by
 intro n
 induction n with
 | zero => intro X Y _ _ h; omega
 | succ n ih =>
  intro X Y hD hl hn
  rw [zfo]
  by_cases h : Y.length < 20
  ·refine ⟨[], Y, [], rfl, .last (by simp) List.Pairwise.nil, h, Stb.refl _, fun T hT => hT, ?_⟩
   rw [if_neg (by simp; omega)]
   simp
  ·obtain ⟨B, Z, rfl, hB⟩ : ∃ B Z, Y = B ++ Z /\ B.length = 20 := ⟨Y.take 20, Y.drop 20, (List.take_append_drop _ _).symm, by simp; omega⟩
   simp only [List.length_append] at hl hn h
   rw [if_pos (by simp; omega)]
   obtain ⟨B', b1, b2, b3⟩ := zz2 hs hy φ X B Z (fun z hz => hD z (by simp [hz])) (by omega) (by omega)
   rw [hB] at b3
   have e1 : X ++ (B ++ Z) = X ++ B ++ Z := by simp
   have e2 : ((20 : Nat) : Int) = 20 := rfl
   rw [e2] at b3
   rw [e1, b3]
   simp only [Option.bind_some]
   have hB' : B'.length = 20 := by rw [b2.len, hB]
   have w1 : W ((X.length : Int) + 20 + 20) = (X.length : Int) + 20 + 20 := W_id (by omega) (by omega)
   have e3 : (X.length : Int) + 20 = ((X ++ B').length : Nat) := by simp [hB']
   rw [w1]
   obtain ⟨Y1, Y2, Y1', q1, q2, q3, q4, q5, q6⟩ := ih (X ++ B') Z (fun z hz => hD z (by simp [hz])) (by simp; omega) (by omega)
   rw [<- e3] at q6
   refine ⟨B ++ Y1, Y2, B' ++ Y1', by rw [q1]; simp, ?_, q3, b2.app q4, fun T hT => ?_, ?_⟩
   ·rw [List.append_assoc]; exact .cons hB' b1 q2
   ·rw [List.append_assoc]; exact .cons hB' b1 (q5 T hT)
   ·rw [q6]
    have e4 : (X.length : Int) + 20 + Y1.length = (X.length : Int) + ((B ++ Y1).length : Nat) := by simp; omega
    rw [e4]
    simp
theorem ybn (hs : Swo lt) (hy : Cmp D y lt) (φ N bs : Nat) (k : Int -> (α -> α -> Option Int) -> Int -> List α -> Option (List α)) (hN : N <= 900000) (hφ : 2 * N + 3 < φ) (hb0 : 0 < bs) (hb : bs <= 900000) :
  ∀ (n : Nat) (X Y : List α), (∀ z ∈ Y, D z) -> Runs lt bs Y -> X.length + Y.length = N -> Y.length < n ->
  ∃ Y', Runs lt (bs * 2) Y' /\ Stb lt Y Y' /\ zhp φ k n (N : Int) y (bs : Int) (X.length : Int) ((X.length : Int) + 2 * bs) (X ++ Y) = k (N : Int) y ((bs * 2 : Nat) : Int) (X ++ Y') := by
 intro n
 induction n with
 | zero => intro X Y _ _ _ h; omega
 | succ n ih =>
  intro X Y hD hR hl hn
  have w1 : W ((X.length : Int) + bs) = (X.length : Int) + bs := W_id (by omega) (by omega)
  have w2 : W ((bs : Int) * 2) = ((bs * 2 : Nat) : Int) := by rw [W_id (by omega) (by omega)]; simp
  have w3 : W (2 * (bs : Int)) = 2 * (bs : Int) := W_id (by omega) (by omega)
  have w4 : W ((X.length : Int) + 2 * bs + 2 * bs) = (X.length : Int) + 2 * bs + 2 * bs := W_id (by omega) (by omega)
  rw [zhp, w1, w3, w4]
  by_cases h : 2 * bs <= Y.length
  ·rw [if_pos (by simp; omega)]
   obtain ⟨B1, r, rfl, h1, s1, hr, hne⟩ := hR.big (by omega)
   simp only [List.length_append] at hl hn h
   obtain ⟨B2, Z, rfl, h2, s2, hZ⟩ : ∃ B2 Z, r = B2 ++ Z /\ B2.length = bs /\ Srt lt B2 /\ Runs lt bs Z := by
    by_cases q : r.length = bs
    ·exact ⟨r, [], by simp, q, hr.small (by omega), .last (by simp) List.Pairwise.nil⟩
    ·obtain ⟨b, r', e, q1, q2, q3, _⟩ := hr.big (by omega)
     exact ⟨b, r', e, q1, q2, q3⟩
   simp only [List.length_append] at hl hn h
   obtain ⟨R, r1, r2, r3⟩ := zsh hs hy φ φ X B1 B2 Z (fun z hz => hD z (by simp [hz])) (fun z hz => hD z (by simp [hz])) s1 s2 (by intro e; subst e; simp at h1; omega) (by intro e; subst e; simp at h2; omega) (by omega) (by omega) (by omega)
   have hRl : R.length = 2 * bs := by rw [r2.len]; simp; omega
   have e1 : X ++ (B1 ++ (B2 ++ Z)) = X ++ B1 ++ B2 ++ Z := by simp
   have e2 : (X.length : Int) + bs = (X.length : Int) + B1.length := by omega
   have e3 : (X.length : Int) + 2 * bs = (X.length : Int) + B1.length + B2.length := by omega
   have e4 : (X.length : Int) + 2 * bs = ((X ++ R).length : Nat) := by simp; omega
   obtain ⟨Y', p1, p2, p3⟩ := ih (X ++ R) Z (fun z hz => hD z (by simp [hz])) hZ (by simp; omega) (by omega)
   refine ⟨R ++ Y', .cons (by omega) r1 p1, ?_, ?_⟩
   ·have := r2.app p2
    simpa using this
   ·rw [e1]
    conv => lhs; arg 1; rw [e2, e3]
    rw [r3]
    simp only [Option.bind_some]
    rw [e4, p3]
    simp
  ·rw [if_neg (by simp; omega)]
   rw [w2]
   by_cases q : bs < Y.length
   ·rw [if_pos (by simp; omega)]
    obtain ⟨B1, B2, rfl, h1, s1, hr, hne⟩ := hR.big q
    simp only [List.length_append] at hl hn h
    obtain ⟨R, r1, r2, r3⟩ := zsh hs hy φ φ X B1 B2 [] (fun z hz => hD z (by simp [hz])) (fun z hz => hD z (by simp [hz])) s1 (hr.small (by omega)) (by intro e; subst e; simp at h1; omega) hne (by simp; omega) (by omega) (by omega)
    have e1 : X ++ (B1 ++ B2) = X ++ B1 ++ B2 ++ [] := by simp
    have e2 : (X.length : Int) + bs = (X.length : Int) + B1.length := by omega
    have e3 : (N : Int) = (X.length : Int) + B1.length + B2.length := by omega
    refine ⟨R, .last (by rw [r2.len]; simp; omega) r1, r2, ?_⟩
    rw [e1, e2, e3, r3]
    simp
   ·rw [if_neg (by simp; omega)]
    exact ⟨Y, .last (by omega) (hR.small (by omega)), Stb.refl _, rfl⟩
theorem y7s (hs : Swo lt) (hy : Cmp D y lt) (φ N : Nat) (hN : N <= 400000) (hφ : 2 * N + 3 < φ) :
  ∀ (n bs : Nat) (Y : List α), (∀ z ∈ Y, D z) -> Runs lt bs Y -> Y.length = N -> 0 < bs -> bs <= 900000 -> N - bs < n ->
  ∃ Y', Srt lt Y' /\ Stb lt Y Y' /\ z90 φ n (N : Int) y (bs : Int) Y = some Y' := by
 intro n
 induction n with
 | zero => intro bs Y _ _ _ _ _ h; omega
 | succ n ih =>
  intro bs Y hD hR hl hb0 hb hn
  rw [z90]
  by_cases h : bs < N
  ·rw [if_pos (by simp; omega), W_id (x := 2 * (bs : Int)) (by omega) (by omega)]
   obtain ⟨Y', p1, p2, p3⟩ := ybn hs hy φ N bs (z90 φ n) (by omega) hφ hb0 hb φ [] Y hD hR (by simpa using hl) (by omega)
   obtain ⟨Y'', q1, q2, q3⟩ := ih (bs * 2) Y' (fun z hz => hD z (p2.mem.1 hz)) p1 (by rw [p2.len, hl]) (by omega) (by omega) (by omega)
   refine ⟨Y'', q1, p2.trans q2, ?_⟩
   rw [<- q3]
   simpa using p3
  ·rw [if_neg (by simp; omega)]
   exact ⟨Y, hR.small (by omega), Stb.refl _, rfl⟩
theorem y3s (hs : Swo lt) (hy : Cmp D y lt) (φ : Nat) (v : List α) (hD : ∀ z ∈ v, D z) (hN : v.length <= 400000) (hφ : 2 * v.length + 3 < φ) :
  ∃ r, Srt lt r /\ Stb lt v r /\ y6d φ v y = some r := by
 unfold y6d ya9
 obtain ⟨Y1, Y2, Y1', q1, q2, q3, q4, q5, q6⟩ := zwu hs hy φ v.length (by omega) (by omega) φ [] v hD (by simp) (by omega)
 have q6' : zfo φ φ (v.length : Int) y 20 0 20 v = ((gins φ (Y1' ++ Y2) (Y1.length : Int) (v.length : Int) y).bind fun y12 => z90 φ φ (v.length : Int) y 20 y12) := by simpa using q6
 rw [q6']
 have hl : v.length = Y1.length + Y2.length := by rw [q1]; simp
 have hl1 : Y1'.length = Y1.length := q4.len
 obtain ⟨Y2', p1, p2, p3⟩ := zz2 hs hy φ Y1' Y2 [] (fun z hz => hD z (by rw [q1]; simp [hz])) (by simp; omega) (by omega)
 simp only [List.append_nil] at p3
 have e1 : (Y1.length : Int) = Y1'.length := by omega
 have e2 : (v.length : Int) = (Y1'.length : Int) + Y2.length := by omega
 have p3' : gins φ (Y1' ++ Y2) (Y1.length : Int) (v.length : Int) y = some (Y1' ++ Y2') := by rw [e1, e2]; exact p3
 have hst : Stb lt v (Y1' ++ Y2') := by rw [q1]; exact q4.app p2
 obtain ⟨r, r1, r2, r3⟩ := y7s hs hy φ v.length hN hφ φ 20 (Y1' ++ Y2') (fun z hz => hD z (hst.mem.1 hz)) (q5 _ (.last (by rw [p2.len]; omega) p1)) hst.len (by omega) (by omega) (by omega)
 refine ⟨r, r1, hst.trans r2, ?_⟩
 rw [p3']
 simp only [Option.bind_some]
 have r3' : z90 φ φ (v.length : Int) y 20 (Y1' ++ Y2') = some r := r3
 rw [r3']
 rfl
end
end Px
end
section
namespace Px
open Go
set_option linter.unusedVariables false
set_option linter.unusedSimpArgs false
set_option maxRecDepth 100000
theorem zx5 {n b : Nat} (h : n <= 100000) (hb : b <= 1000) : fits n b := by
 unfold fits
 exact Nat.le_trans (Nat.mul_le_mul h hb) (by omega)
theorem y3x (φ : Nat) (v : List z6) (y : z6 -> z6 -> Option Int) : z2d φ v y = y6d φ v y := by kernel_rfl
def y7t (a b : Ref) : Bool := decide (a.railway < b.railway) || (decide (a.railway = b.railway) && decide (a.no < b.no))
def zwm (a b : z6) : Bool := decide (a.item.to < b.item.to) || (decide (a.item.to = b.item.to) && y7t a.ref b.ref)
theorem zxu {a b : Ref} : y7t a b = true ↔ a.railway < b.railway \/ (a.railway = b.railway /\ a.no < b.no) := by simp [y7t]
theorem zmd {a b : z6} : zwm a b = true ↔ a.item.to < b.item.to \/ (a.item.to = b.item.to /\ (a.ref.railway < b.ref.railway \/ (a.ref.railway = b.ref.railway /\ a.ref.no < b.ref.no))) := by
 simp [zwm, zxu]
theorem zvi {a b : z6} : zwm a b = false ↔ ¬ (a.item.to < b.item.to \/ (a.item.to = b.item.to /\ (a.ref.railway < b.ref.railway \/ (a.ref.railway = b.ref.railway /\ a.ref.no < b.ref.no)))) := by
 rw [<- zmd]; simp
theorem zqm : Swo zwm where
 asym := fun a b h => by rw [zvi]; rw [zmd] at h; omega
 ntr := fun a b c h1 h2 => by rw [zvi] at *; omega
theorem yb1 {α : Type} {lt : α -> α -> Bool} (h : Swo lt) : Sort.SWO lt where
 irrefl := fun a => h.irr a
 trans := fun a b c h1 h2 => by
  cases h3 : lt a c with
  | true => rfl
  | false =>
   have h4 := h.asym _ _ h2
   rw [h.ntr a c b h3 h4] at h1; cases h1
 ntrans := fun a b c h1 h2 => h.ntr a b c h1 h2
theorem y2k (φ : Nat) (h : 3 <= φ) (a b : z6) : z91 φ a b = some (or2 (cmpI a.ref.railway b.ref.railway) (cmpI a.ref.no b.ref.no), ()) := by
 unfold z91
 simp only [zj5, Option.bind_some]
 rw [y7p φ h]; rfl
theorem y5t (φ : Nat) (h : 3 <= φ) : Cmp (fun _ => True) (fun a b => (z4m φ a b).bind fun r => (some r.1)) zwm := by
 intro a b _ _
 refine ⟨or2 (cmpI a.item.to b.item.to) (or2 (cmpI a.ref.railway b.ref.railway) (cmpI a.ref.no b.ref.no)), ?_, ?_⟩
 ·simp only [z4m, zj5, y2k φ h, Option.bind_some]
  rw [y7p φ h]; rfl
 ·rw [Bool.eq_iff_iff, decide_eq_true_eq, zx2, zx2, zmj, zmj, zmj, zsj, zsj, zmd]
section
variable {α : Type} {lt : α -> α -> Bool}
theorem y6m (hs : Swo lt) {a x y : α} (h1 : eqv2 lt a x = true) (h2 : eqv2 lt a y = true) : lt y x = false := by
 simp only [eqv2, Bool.and_eq_true, Bool.not_eq_true'] at h1 h2
 exact hs.ntr y a x h2.2 h1.1
theorem zui (hs : Swo lt) (a x : α) : ∀ r : List α, (insL lt x r).filter (eqv2 lt a) = (x :: r).filter (eqv2 lt a)
 | [] => rfl
 | y :: r => by
  simp only [insL]
  cases h : lt y x with
  | false => rfl
  | true =>
   simp only [cond_true]
   rw [List.filter_cons, zui hs a x r]
   cases h1 : eqv2 lt a x <;> cases h2 : eqv2 lt a y <;> simp [List.filter_cons, h1, h2]
   rw [y6m hs h1 h2] at h; cases h
theorem zs7 (hs : Swo lt) : ∀ l : List α, Stb lt l (zgb lt l)
 | [] => Stb.refl _
 | x :: l => by
  refine ⟨z3y _ _, fun a => ?_⟩
  show (insL lt x (zgb lt l)).filter _ = _
  rw [zui hs, List.filter_cons, List.filter_cons, (zs7 hs l).2 a]
theorem zzb (hs : Swo lt) (l : List α) : Srt lt (zgb lt l) := z74 (yb1 hs) l
theorem zya (hs : Swo lt) {l r : List α} (h1 : Srt lt r) (h2 : Stb lt l r) : r = zgb lt l := by
 refine Srt.unique hs h1 (zzb hs l) ⟨(z3y _ _).trans h2.1.symm, fun a => ?_⟩
 rw [(zs7 hs l).2 a, h2.2 a]
end
def zri (at_ : Int) (r : z6) : Bool := ((r.item.kind : Int) == 9) && decide ((r.item.to : Int) <= at_)
def hist (l : List z6) (at_ : Int) : List z6 := zgb zwm (l.filter (zri at_))
theorem zla (l : List z6) (at_ : Int) : (hist l at_).length <= l.length := by
 unfold hist; rw [(z3y _ _).length_eq]; exact List.length_filter_le _ _
theorem zq8 {l : List z6} {at_ : Int} {r : z6} : r ∈ hist l at_ ↔ r ∈ l /\ zri at_ r = true := by
 unfold hist; rw [(z3y _ _).mem_iff, List.mem_filter]
abbrev Cmps := List (z1 × List (Int × Bool))
def ofP (p : Part) : z1 := ⟨p.kind, p.serial⟩
def zgw (w : Int) (M : Cmps) (p : Part) : Cmps :=
 if p.fitted = false then (match cget kl_9 M (ofP p) with
  | some s => cset kl_9 M (ofP p) (cdel kl_0 s w)
  | none => M)
 else (match cget kl_9 M (ofP p) with
  | some s => cset kl_9 M (ofP p) (cset kl_0 s w true)
  | none => cset kl_9 (cset kl_9 M (ofP p) (default : List (Int × Bool))) (ofP p) (cset kl_0 ([] : List (Int × Bool)) w true))
def zno (M : Cmps) (r : z6) : Cmps := r.item.parts.foldl (zgw r.item.wagon) M
def zlf (rs : List z6) : Cmps := rs.foldl zno []
theorem zt6 {α : Type} (p : α -> Bool) (l : List α) : ∀ acc : List α, l.foldl (fun s r => if p r = true then s ++ [r] else s) acc = acc ++ l.filter p := by
 induction l with
 | nil => intro acc; simp
 | cons a l ih =>
  intro acc
  rw [List.foldl_cons, ih, List.filter_cons]
  cases p a <;> simp
theorem zm1 (φ : Nat) (k14) (at1 i1 : Int) (r : z6) (rs : List z6) (hp : r.item.parts.length <= 1000) (n : Nat) (hn : r.item.parts.length < n) (M : Cmps) :
  zn φ k14 n at1 i1 r.item.parts (r.item.parts.length : Int) 0 M r rs = k14 at1 (W (i1 + 1)) (zno M r) rs := by
 refine (zhb (fun n i M => zn φ k14 n at1 i1 r.item.parts (r.item.parts.length : Int) i M r rs) (fun M => k14 at1 (W (i1 + 1)) M rs) r.item.parts (zgw r.item.wagon) (fun _ _ => True) ?_ ?_ n M trivial hn).1
 ·intro n i M hi _
  refine ⟨?_, trivial⟩
  rw [zn, if_pos (by simp; omega), z09 ⟨by omega, by omega⟩, W_id (x := (i : Int) + 1) (by omega) (by omega)]
  simp only [zd2, Option.bind_some]
  show _ = zn φ k14 n at1 i1 r.item.parts (r.item.parts.length : Int) ((i : Int) + 1) (zgw r.item.wagon M (gt r.item.parts (i : Int))) r rs
  unfold zgw ofP
  cases hf : (gt r.item.parts (i : Int)).fitted with
  | false =>
   simp only [Bool.not_false, if_true]
   cases hc : cget kl_9 M (⟨(gt r.item.parts (i : Int)).kind, (gt r.item.parts (i : Int)).serial⟩ : z1) with
   | none => simp [ck]
   | some s => simp [ck]
  | true =>
   simp only [Bool.not_true, Bool.false_eq_true, if_false]
   cases hc : cget kl_9 M (⟨(gt r.item.parts (i : Int)).kind, (gt r.item.parts (i : Int)).serial⟩ : z1) with
   | none => simp [ck]
   | some s => simp [ck]
 ·intro n M _
  rw [zn, if_neg (by simp)]
theorem zmn (φ : Nat) (hφ : 1000 < φ) (rs : List z6) (hl : rs.length <= 1000) (hp : ∀ r ∈ rs, r.item.parts.length <= 1000) (n : Nat) (hn : rs.length < n) :
  z07 φ n (rs.length : Int) 0 [] rs = some (zlf rs, ()) := by
 refine (zhb (fun n i M => z07 φ n (rs.length : Int) i M rs) (fun M => some (M, ())) rs zno (fun _ _ => True) ?_ ?_ n [] trivial hn).1
 ·intro n i M hi _
  refine ⟨?_, trivial⟩
  rw [z07, if_pos (by simp; omega), z09 ⟨by omega, by omega⟩]
  have hg := zmu (l := rs) (i := (i : Int)) (by omega) (by omega)
  rw [zm1 φ _ _ _ _ rs (hp _ hg) φ (by have := hp _ hg; omega), W_id (x := (i : Int) + 1) (by omega) (by omega)]
 ·intro n M _
  rw [z07, if_neg (by simp)]
theorem ztp (φ : Nat) (hφ : 10000 < φ) (l : List z6) (at_ : Int) (hl : l.length <= 1000) (hp : ∀ r ∈ l, r.item.parts.length <= 1000) : z3b φ l at_ = some (zlf (hist l at_), ()) := by
 unfold z3b
 refine (zhb (fun n i acc => z17 φ n at_ l (l.length : Int) i acc) (fun acc => (z2d φ acc (fun a b => (z4m φ a b).bind fun r => (some r.1))).bind fun y9 => (z07 φ φ (y9.length : Int) 0 (([] : (List (z1 × (List (Int × Bool)))))) y9)) l (fun s r => if zri at_ r = true then s ++ [r] else s) (fun i s => s.length <= i) ?_ ?_ φ [] (by simp) (by omega)).1.trans ?_
 ·intro n i acc hi ha
  refine ⟨?_, ?_⟩
  ·rw [z17, if_pos (by simp; omega), z09 ⟨by omega, by omega⟩, W_id (x := (i : Int) + 1) (by omega) (by omega)]
   show (if zri at_ (gt l (i : Int)) = true then _ else _) = _
   cases h : zri at_ (gt l (i : Int)) with
   | false => simp
   | true =>
    simp only [if_true]
    rw [z09 (zx5 (by simp; omega) (by omega))]
  ·show (if zri at_ (gt l (i : Int)) = true then _ else _ : List z6).length <= _
   split
   ·simp; omega
   ·omega
 ·intro n acc _
  rw [z17, if_neg (by simp)]
 ·rw [zt6, List.nil_append, y3x]
  have hfl : (l.filter (zri at_)).length <= 1000 := Nat.le_trans (List.length_filter_le _ _) hl
  obtain ⟨r, h1, h2, h3⟩ := y3s zqm (y5t φ (by omega)) φ (l.filter (zri at_)) (fun _ _ => trivial) (by omega) (by omega)
  have hr : r = hist l at_ := zya zqm h1 h2
  subst hr
  rw [h3, Option.bind_some]
  have hlen := zla l at_
  exact zmn φ (by omega) _ (by omega) (fun r hr => hp r (zq8.1 hr).1) φ (by omega)
end Px
end
section
namespace Px
open Go
set_option linter.unusedVariables false
set_option linter.unusedSimpArgs false
def zwn (s : List Int) (w : Int) : List Int := s.filter (fun x => decide (x < w)) ++ w :: s.filter (fun x => decide (w < x))
def zhe (s : List Int) (w : Int) : List Int := s.filter (fun x => x != w)
abbrev Inc (s : List Int) : Prop := s.Pairwise fun a b => a < b
theorem zyd {a b : List Int} (ha : Inc a) (hb : Inc b) (h : ∀ x, x ∈ a ↔ x ∈ b) : a = b := by
 have na : a.Nodup := ha.imp fun h => by omega
 have nb : b.Nodup := hb.imp fun h => by omega
 refine List.Perm.eq_of_pairwise (le := fun a b : Int => a <= b) (fun a b _ _ h1 h2 => by omega) (ha.imp fun h => by omega) (hb.imp fun h => by omega) ?_
 exact (List.perm_ext_iff_of_nodup na nb).2 h
theorem zrk {s : List Int} {w x : Int} : x ∈ zwn s w ↔ x = w \/ x ∈ s := by
 unfold zwn
 simp only [List.mem_append, List.mem_filter, List.mem_cons, decide_eq_true_eq]
 constructor
 ·rintro (h | h | h)
  ·exact .inr h.1
  ·exact .inl h
  ·exact .inr h.1
 ·rintro (h | h)
  ·exact .inr (.inl h)
  ·rcases Int.lt_trichotomy x w with q | q | q
   ·exact .inl ⟨h, q⟩
   ·exact .inr (.inl q)
   ·exact .inr (.inr ⟨h, q⟩)
theorem zxv {s : List Int} (h : Inc s) (w : Int) : Inc (zwn s w) := by
 unfold zwn Inc
 rw [List.pairwise_append]
 refine ⟨h.filter _, List.pairwise_cons.2 ⟨fun x hx => ?_, h.filter _⟩, fun a ha b hb => ?_⟩
 ·simpa using (List.mem_filter.1 hx).2
 ·have h1 : a < w := by simpa using (List.mem_filter.1 ha).2
  rcases List.mem_cons.1 hb with rfl | hb
  ·exact h1
  ·have h2 : w < b := by simpa using (List.mem_filter.1 hb).2
   omega
theorem zjk {s : List Int} {w x : Int} : x ∈ zhe s w ↔ x ∈ s /\ x ≠ w := by simp [zhe]
theorem zr2 {s : List Int} (h : Inc s) (w : Int) : Inc (zhe s w) := h.filter _
theorem yar {a b : Int} : ltI (kl_0 a) (kl_0 b) = true ↔ a < b := by
 show ltI [a] [b] = true ↔ _
 simp only [ltI]
 by_cases h : a < b
 ·simp [h]
 ·by_cases h2 : a = b
  ·simp [h2]
  ·simp [h, h2]
theorem zhu {s : List (Int × Bool)} (h : Srt' kl_0 s) : Inc (s.map (·.1)) := List.pairwise_map.2 (List.Pairwise.imp (fun {a b} q => yar.1 q) h)
theorem zsy {a b : Int} (h : kl_0 a = kl_0 b) : a = b := by
 have h : [a] = [b] := h
 cases h; rfl
theorem zxd {a b : z1} (h : kl_9 a = kl_9 b) : a = b := by
 obtain ⟨a1, a2⟩ := a
 obtain ⟨b1, b2⟩ := b
 have h : [a1, a2] = [b1, b2] := h
 cases h; rfl
theorem zus {s : List (Int × Bool)} (h : Srt' kl_0 s) (w : Int) (v : Bool) : (cset kl_0 s w v).map (·.1) = zwn (s.map (·.1)) w := by
 refine zyd (zhu (h.set w v)) (zxv (zhu h) w) fun x => ?_
 rw [zrk]
 simp only [List.mem_map]
 constructor
 ·rintro ⟨p, hp, rfl⟩
  rcases (z43 h).1 hp with rfl | ⟨hp, _⟩
  ·exact .inl rfl
  ·exact .inr ⟨p, hp, rfl⟩
 ·rintro (rfl | ⟨p, hp, rfl⟩)
  ·exact ⟨_, (z43 h).2 (.inl rfl), rfl⟩
  ·by_cases e : p.1 = w
   ·exact ⟨(w, v), (z43 h).2 (.inl rfl), e.symm⟩
   ·exact ⟨p, (z43 h).2 (.inr ⟨hp, fun q => e (zsy q).symm⟩), rfl⟩
theorem y2z {s : List (Int × Bool)} (h : Srt' kl_0 s) (w : Int) : (cdel kl_0 s w).map (·.1) = zhe (s.map (·.1)) w := by
 refine zyd (zhu (h.del w)) (zr2 (zhu h) w) fun x => ?_
 rw [zjk, z87 h.ndp]
 simp only [List.mem_map, List.mem_filter, Bool.not_eq_true', beq_eq_false_iff_ne]
 constructor
 ·rintro ⟨p, ⟨hp, hn⟩, rfl⟩
  exact ⟨⟨p, hp, rfl⟩, fun e => hn (by rw [e])⟩
 ·rintro ⟨⟨p, hp, rfl⟩, hn⟩
  exact ⟨p, ⟨hp, fun e => hn (zsy e).symm⟩, rfl⟩
instance : DecidableEq z1 := fun a b => decidable_of_iff (a.kind = b.kind /\ a.serial = b.serial) ⟨fun h => by cases a; cases b; cases h.1; cases h.2; rfl, fun h => by rw [h]; exact ⟨rfl, rfl⟩⟩
def OkS (s : List (Int × Bool)) : Prop := Srt' kl_0 s /\ ∀ q ∈ s, q.2 = true
theorem OkS.nil : OkS [] := ⟨List.Pairwise.nil, fun q hq => by cases hq⟩
theorem OkS.set {s : List (Int × Bool)} (h : OkS s) (w : Int) : OkS (cset kl_0 s w true) :=
 ⟨h.1.set w true, fun q hq => by
  rcases (z43 h.1).1 hq with rfl | ⟨hq, _⟩
  ·rfl
  ·exact h.2 q hq⟩
theorem OkS.del {s : List (Int × Bool)} (h : OkS s) (w : Int) : OkS (cdel kl_0 s w) :=
 ⟨h.1.del w, fun q hq => h.2 q ((zl0 s w).subset hq)⟩
theorem OkS.get {s : List (Int × Bool)} (h : OkS s) (w : Int) : (cget kl_0 s w).getD (default : Bool) = (s.map (·.1)).contains w := by
 cases hc : cget kl_0 s w with
 | none =>
  have hn := zmw.1 hc
  have : (s.map (·.1)).contains w = false := by
   rw [List.contains_eq_mem, decide_eq_false_iff_not]
   intro hm
   obtain ⟨p, hp, e⟩ := List.mem_map.1 hm
   exact hn p hp (by rw [e])
  rw [this]; rfl
 | some b =>
  obtain ⟨a, hm, e⟩ := z8r hc
  have hb : b = true := h.2 _ hm
  have : (s.map (·.1)).contains w = true := by
   rw [List.contains_eq_mem, decide_eq_true_eq]
   exact List.mem_map.2 ⟨_, hm, (zsy e).symm⟩
  rw [this, hb]; rfl
structure OkM (M : Cmps) : Prop where
 srt : Srt' kl_9 M
 vals : ∀ p ∈ M, OkS p.2
def wk (M : Cmps) (c : z1) : List (Int × Bool) := (cget kl_9 M c).getD (default : List (Int × Bool))
theorem OkM.nil : OkM [] := ⟨List.Pairwise.nil, fun q hq => by cases hq⟩
theorem OkM.set {M : Cmps} (h : OkM M) (c : z1) {s : List (Int × Bool)} (hs : OkS s) : OkM (cset kl_9 M c s) :=
 ⟨h.srt.set c s, fun q hq => by
  rcases (z43 h.srt).1 hq with rfl | ⟨hq, _⟩
  ·exact hs
  ·exact h.vals q hq⟩
theorem OkM.get {M : Cmps} (h : OkM M) {c : z1} {s : List (Int × Bool)} (hc : cget kl_9 M c = some s) : OkS s := by
 obtain ⟨a, hm, _⟩ := z8r hc
 exact h.vals _ hm
theorem OkM.wk {M : Cmps} (h : OkM M) (c : z1) : OkS (wk M c) := by
 unfold Px.wk
 cases hc : cget kl_9 M c with
 | none => exact OkS.nil
 | some s => exact h.get hc
theorem OkM.step {M : Cmps} (h : OkM M) (w : Int) (p : Part) : OkM (zgw w M p) := by
 unfold zgw
 split
 ·split
  ·rename_i s hc; exact h.set _ ((h.get hc).del w)
  ·exact h
 ·split
  ·rename_i s hc; exact h.set _ ((h.get hc).set w)
  ·exact (h.set _ OkS.nil).set _ (OkS.nil.set w)
theorem zvd {M : Cmps} (h : Srt' kl_9 M) (c d : z1) (s : List (Int × Bool)) : wk (cset kl_9 M c s) d = if d = c then s else wk M d := by
 unfold wk
 rw [zph h]
 by_cases e : d = c
 ·subst e; simp
 ·have : (kl_9 d == kl_9 c) = false := by rw [beq_eq_false_iff_ne]; exact fun q => e (zxd q)
  rw [this, if_neg e]; rfl
def zwc (c : z1) (w : Int) (s : List Int) (p : Part) : List Int := if ofP p = c then (if p.fitted = true then zwn s w else zhe s w) else s
theorem y9b {M : Cmps} (h : OkM M) (w : Int) (p : Part) (c : z1) : (wk (zgw w M p) c).map (·.1) = zwc c w ((wk M c).map (·.1)) p := by
 unfold zgw zwc
 cases hf : p.fitted with
 | false =>
  simp only [if_true]
  split
  ·rename_i s hc
   rw [zvd h.srt]
   by_cases e : c = ofP p
   ·rw [if_pos e, if_pos e.symm, if_neg (by simp), y2z (h.get hc).1]
    have : wk M c = s := by unfold wk; rw [e, hc]; rfl
    rw [this]
   ·rw [if_neg e, if_neg (fun q => e q.symm)]
  ·rename_i hc
   by_cases e : c = ofP p
   ·rw [if_pos e.symm, if_neg (by simp)]
    have : wk M c = [] := by unfold wk; rw [e, hc]; rfl
    rw [this]; rfl
   ·rw [if_neg (fun q => e q.symm)]
 | true =>
  simp only [Bool.true_eq_false, if_false]
  split
  ·rename_i s hc
   rw [zvd h.srt]
   by_cases e : c = ofP p
   ·rw [if_pos e, if_pos e.symm, if_pos trivial, zus (h.get hc).1]
    have : wk M c = s := by unfold wk; rw [e, hc]; rfl
    rw [this]
   ·rw [if_neg e, if_neg (fun q => e q.symm)]
  ·rename_i hc
   rw [zvd (h.srt.set _ _), zvd h.srt]
   by_cases e : c = ofP p
   ·rw [if_pos e, if_pos e.symm, if_pos trivial, zus OkS.nil.1]
    have : wk M c = [] := by unfold wk; rw [e, hc]; rfl
    rw [this]
   ·rw [if_neg e, if_neg e, if_neg (fun q => e q.symm)]
def posR (c : z1) (s : List Int) (r : z6) : List Int := r.item.parts.foldl (zwc c r.item.wagon) s
def posW (c : z1) (rs : List z6) : List Int := rs.foldl (posR c) []
theorem zoi (w : Int) (c : z1) : ∀ (ps : List Part) (M : Cmps), OkM M -> OkM (ps.foldl (zgw w) M) /\ (wk (ps.foldl (zgw w) M) c).map (·.1) = ps.foldl (zwc c w) ((wk M c).map (·.1))
 | [], M, h => ⟨h, rfl⟩
 | p :: ps, M, h => by
  have := zoi w c ps (zgw w M p) (h.step w p)
  rw [y9b h] at this
  exact this
theorem zt3 (c : z1) : ∀ (rs : List z6) (M : Cmps), OkM M -> OkM (rs.foldl zno M) /\ (wk (rs.foldl zno M) c).map (·.1) = rs.foldl (posR c) ((wk M c).map (·.1))
 | [], M, h => ⟨h, rfl⟩
 | r :: rs, M, h => by
  have h1 := zoi r.item.wagon c r.item.parts M h
  have := zt3 c rs (zno M r) h1.1
  show _ /\ _ = rs.foldl (posR c) (posR c _ r)
  rw [show posR c ((wk M c).map (·.1)) r = (wk (zno M r) c).map (·.1) from h1.2.symm]
  exact this
theorem zox (rs : List z6) : OkM (zlf rs) := (zt3 ⟨0, 0⟩ rs [] OkM.nil).1
theorem zlx (rs : List z6) (c : z1) : (wk (zlf rs) c).map (·.1) = posW c rs := (zt3 c rs [] OkM.nil).2
theorem zvo (c : z1) (rs : List z6) : Inc (posW c rs) := by
 rw [<- zlx]; exact zhu ((zox rs).wk c).1
theorem zzx {rs : List z6} {e : z1 × List (Int × Bool)} (h : e ∈ zlf rs) : e.2 = wk (zlf rs) e.1 := by
 unfold wk
 rw [zma (zox rs).srt.ndp (a := e.1) (v := e.2) h rfl]; rfl
theorem zrt (c : z1) (w : Int) : ∀ (ps : List Part) (s : List Int) (x : Int), x ∈ ps.foldl (zwc c w) s -> x = w \/ x ∈ s
 | [], s, x, h => .inr h
 | p :: ps, s, x, h => by
  rcases zrt c w ps _ x h with q | q
  ·exact .inl q
  ·unfold zwc at q
   split at q
   ·split at q
    ·exact zrk.1 q
    ·exact .inr (zjk.1 q).1
   ·exact .inr q
theorem zud (c : z1) : ∀ (rs : List z6) (s : List Int) (x : Int), x ∈ rs.foldl (posR c) s -> x ∈ s \/ ∃ r ∈ rs, x = r.item.wagon
 | [], s, x, h => .inl h
 | r :: rs, s, x, h => by
  rcases zud c rs _ x h with q | ⟨r', hr, q⟩
  ·rcases zrt c _ _ _ x q with q | q
   ·exact .inr ⟨r, by simp, q⟩
   ·exact .inl q
  ·exact .inr ⟨r', by simp [hr], q⟩
theorem znv {c : z1} {rs : List z6} {x : Int} (h : x ∈ posW c rs) : ∃ r ∈ rs, x = r.item.wagon := by
 rcases zud c rs [] x h with q | q
 ·cases q
 ·exact q
theorem zmz : ∀ {a : List Int} {b : List Int}, Inc a -> (∀ x ∈ a, x ∈ b) -> a.length <= b.length
 | [], b, _, _ => Nat.zero_le _
 | x :: a, b, ha, h => by
  have hx := h x (by simp)
  have h2 := List.pairwise_cons.1 ha
  have := zmz (a := a) (b := b.erase x) h2.2 fun y hy => (List.mem_erase_of_ne (fun e => by have := h2.1 y hy; omega)).2 (h y (by simp [hy]))
  rw [List.length_erase_of_mem hx] at this
  have := List.length_pos_of_mem hx
  simp only [List.length_cons]; omega
theorem zuv (c : z1) (rs : List z6) : (posW c rs).length <= rs.length := by
 have := zmz (zvo c rs) (b := rs.map fun r => r.item.wagon) fun x hx => by
  obtain ⟨r, hr, e⟩ := znv hx
  exact List.mem_map.2 ⟨r, hr, e.symm⟩
 simpa using this
end Px
end
section
namespace Px
open Go
set_option linter.unusedVariables false
set_option linter.unusedSimpArgs false
structure FewP (l : List z6) : Prop where
 len : l.length <= 100
 parts : ∀ r ∈ l, r.item.parts.length <= 40
 wagon : ∀ r ∈ l, -9223372036854775808 <= r.item.wagon /\ r.item.wagon < 9223372036854775808
theorem FewP.carriers {l : List z6} (h : FewP l) (φ : Nat) (hφ : 10000 < φ) (at_ : Int) : z3b φ l at_ = some (zlf (hist l at_), ()) :=
 ztp φ hφ l at_ (by have := h.len; omega) (fun r hr => by have := h.parts r hr; omega)
theorem zwd {l : List z6} (h : FewP l) {c : z1} {at_ x : Int} (hx : x ∈ posW c (hist l at_)) : -9223372036854775808 <= x /\ x < 9223372036854775808 := by
 obtain ⟨r, hr, rfl⟩ := znv hx
 exact h.wagon r (zq8.1 hr).1
theorem ya7 {s : List (Int × Bool)} (h : ∀ x ∈ s.map (·.1), -9223372036854775808 <= x /\ x < 9223372036854775808) (hl : s.length <= 100000) : soK kl_0 s = true := by
 unfold soK
 rw [Bool.and_eq_true]
 refine ⟨List.all_eq_true.2 fun p hp => ?_, Nat.ble_eq_true_of_le (by omega)⟩
 obtain ⟨h1, h2⟩ := h p.1 (List.mem_map.2 ⟨p, hp, rfl⟩)
 show inI [p.1] = true
 simp [inI, h1, h2]
def carL (c : z1) (ws : List Int) : List z3m := ws.map fun w => ⟨⟨c.kind, c.serial, true⟩, w, ((ws.length : Int) : Int) == 1⟩
theorem y1m {α β : Type} (f : α -> β) (l : List α) : ∀ acc : List β, l.foldl (fun s r => s ++ [f r]) acc = acc ++ l.map f := by
 induction l with
 | nil => intro acc; simp
 | cons a l ih => intro acc; rw [List.foldl_cons, ih]; simp
theorem zsw {l : List z6} (h : FewP l) (φ : Nat) (hφ : 10000 < φ) (k s at_ : Int) : z03 φ l k s at_ = some (carL ⟨k, s⟩ (posW ⟨k, s⟩ (hist l at_)), ()) := by
 unfold z03
 rw [h.carriers φ hφ, Option.bind_some]
 simp only
 have hk := zlx (hist l at_) ⟨k, s⟩
 unfold wk at hk
 generalize hS : (cget kl_9 (zlf (hist l at_)) (⟨k, s⟩ : z1)).getD (default : List (Int × Bool)) = S at hk ⊢
 have hlen : S.length <= 100 := by
  have h1 := congrArg List.length hk
  rw [List.length_map] at h1
  have := zuv ⟨k, s⟩ (hist l at_)
  have := zla l at_
  have := h.len
  omega
 rw [z09 (ya7 (fun x hx => zwd h (c := ⟨k, s⟩) (at_ := at_) (by rw [<- hk]; exact hx)) (by omega))]
 have hW : (List.map (fun p : Int × Bool => p.1) S) = posW ⟨k, s⟩ (hist l at_) := hk
 rw [hW]
 have hSl : S.length = (posW ⟨k, s⟩ (hist l at_)).length := by rw [<- hk, List.length_map]
 generalize posW ⟨k, s⟩ (hist l at_) = ws at *
 refine (zhb (fun n i acc => z1i φ n S (ws.length : Int) i acc ⟨k, s⟩ ws) (fun acc => some (acc, ())) ws (fun acc w => acc ++ [(⟨⟨k, s, true⟩, w, ((ws.length : Int) : Int) == 1⟩ : z3m)]) (fun i acc => acc.length = i) ?_ ?_ φ [] rfl (by omega)).1.trans ?_
 ·intro n i acc hi ha
  refine ⟨?_, by simp [ha]⟩
  rw [z1i, if_pos (by simp; omega), z09 ⟨by omega, by omega⟩, W_id (x := (i : Int) + 1) (by omega) (by omega)]
  simp only [zu, Option.bind_some]
  rw [z09 (zx5 (by simp; omega) (by omega)), hSl]
 ·intro n acc _
  rw [z1i, if_neg (by simp)]
 ·rw [y1m, List.nil_append]; rfl
theorem zom {κ ν : Type} {e : κ -> List Int} {m : List (κ × ν)} (h : Srt' e m) (k : κ) (v : ν) : (cset e m k v).length <= m.length + 1 := by
 rw [(zh9 h k v).length_eq, List.length_cons]
 have := (zl0 (e := e) m k).length_le
 omega
theorem y0i {κ ν : Type} {e : κ -> List Int} {m : List (κ × ν)} (h : Srt' e m) {k : κ} {x : ν} (hx : cget e m k = some x) (v : ν) : (cset e m k v).length <= m.length := by
 rw [(zh9 h k v).length_eq, List.length_cons, z87 h.ndp]
 obtain ⟨a, hm, e1⟩ := z8r hx
 have h1 := List.length_filter_lt_length_iff_exists (l := m) (p := fun p => !(e k == e p.1))
 have := h1.2 ⟨_, hm, by simp [e1]⟩
 omega
theorem zzs {M : Cmps} (h : OkM M) (w : Int) (p : Part) : (zgw w M p).length <= M.length + 1 := by
 unfold zgw
 split
 ·split
  ·exact zom h.srt _ _
  ·omega
 ·split
  ·exact zom h.srt _ _
  ·have h1 := zom h.srt (ofP p) (default : List (Int × Bool))
   have h2 := y0i (h.srt.set (ofP p) (default : List (Int × Bool))) (k := ofP p) (x := default) (by rw [zph h.srt]; simp) (cset kl_0 ([] : List (Int × Bool)) w true)
   omega
theorem zqq (w : Int) : ∀ (ps : List Part) (M : Cmps), OkM M -> (ps.foldl (zgw w) M).length <= M.length + ps.length
 | [], M, h => by simp
 | p :: ps, M, h => by
  have h1 := zqq w ps _ (h.step w p)
  have h2 := zzs h w p
  simp only [List.foldl_cons, List.length_cons]; omega
theorem zug : ∀ (rs : List z6) (M : Cmps), OkM M -> (∀ r ∈ rs, r.item.parts.length <= 40) -> (rs.foldl zno M).length <= M.length + 40 * rs.length
 | [], M, h, _ => by simp
 | r :: rs, M, h, hp => by
  have h0 := (zoi r.item.wagon ⟨0, 0⟩ r.item.parts M h).1
  have h1 := zug rs (zno M r) h0 fun r' hr => hp r' (by simp [hr])
  have h2 := zqq r.item.wagon r.item.parts M h
  have h3 := hp r (by simp)
  have h4 : (zno M r).length = (r.item.parts.foldl (zgw r.item.wagon) M).length := rfl
  simp only [List.foldl_cons, List.length_cons]; omega
theorem y02 {l : List z6} (h : FewP l) (at_ : Int) : (zlf (hist l at_)).length <= 4000 := by
 have := zug (hist l at_) [] OkM.nil fun r hr => h.parts r (zq8.1 hr).1
 have := zla l at_
 have := h.len
 unfold zlf
 simp only [List.length_nil] at *
 omega
def fitB (w : Int) (e : z1 × List (Int × Bool)) : Bool := (((e.2.length : Int) : Int) == 1) && ((cget kl_0 e.2 w).getD (default : Bool))
def prt (c : z1) : Part := ⟨c.kind, c.serial, true⟩
theorem zfm (φ : Nat) (w : Int) : ∀ (M : Cmps) (n : Nat) (p : List Part), M.length < n -> p.length + M.length <= 10000 ->
  zg φ n w p M = ((zft (p ++ (M.filter (fitB w)).map fun e => prt e.1)).bind fun y => some (y, ()))
 | [], n + 1, p, _, _ => by simp [zg, zx]
 | e :: M, n + 1, p, hn, hl => by
  simp only [List.length_cons] at hn hl
  simp only [zg, zx, zu, Option.bind_some]
  show (if fitB w e = true then _ else _) = _
  rw [List.filter_cons]
  cases h : fitB w e with
  | false => simp only [Bool.false_eq_true, if_false]; exact zfm φ w M n p (by omega) (by omega)
  | true =>
   simp only [if_true]
   rw [z09 (zx5 (by simp; omega) (by omega)), zfm φ w M n _ (by omega) (by simp; omega)]
   simp [prt]
def ltC (a b : Part) : Prop := a.kind < b.kind \/ (a.kind = b.kind /\ a.serial < b.serial)
theorem zyb {l : List z6} (h : FewP l) (φ : Nat) (hφ : 10000 < φ) (w at_ : Int) : ∃ p, zk φ l w at_ = some (p, ()) /\ p.Pairwise ltC /\ p.length <= 4000 /\
  ∀ x, x ∈ p ↔ x.fitted = true /\ posW (ofP x) (hist l at_) = [w] := by
 unfold zk
 rw [h.carriers φ hφ, Option.bind_some]
 simp only
 have hM := zox (hist l at_)
 have hlen := y02 h at_
 have hpos := zlx (hist l at_)
 have hmem := @zzx (hist l at_)
 generalize zlf (hist l at_) = M at *
 rw [zfm φ w M φ [] (by omega) (by simp; omega), List.nil_append]
 have hpw : ((M.filter (fitB w)).map fun e => prt e.1).Pairwise fun a b => za2 a b < 0 \/ za2 b a < 0 := by
  refine List.pairwise_map.2 (List.Pairwise.imp (fun {a b} hab => ?_) (hM.srt.ndp.filter _))
  rw [z4w, z4w]
  have : ¬ (a.1.kind = b.1.kind /\ a.1.serial = b.1.serial) := fun q => hab (by
   show [a.1.kind, a.1.serial] = [b.1.kind, b.1.serial]
   rw [q.1, q.2])
  show (a.1.kind < b.1.kind \/ (a.1.kind = b.1.kind /\ a.1.serial < b.1.serial)) \/ (b.1.kind < a.1.kind \/ (b.1.kind = a.1.kind /\ b.1.serial < a.1.serial))
  omega
 have hfl : ((M.filter (fitB w)).map fun e => prt e.1).length <= 4000 := by
  rw [List.length_map]; exact Nat.le_trans (List.length_filter_le _ _) hlen
 have hs : zft ((M.filter (fitB w)).map fun e => prt e.1) = some (zgb (fun a b => decide (za2 a b < 0)) ((M.filter (fitB w)).map fun e => prt e.1)) :=
  zvw (fun _ _ => rfl) (by omega) hpw
 rw [hs, Option.bind_some]
 have hswo : Sort.SWO (fun a b : Part => decide (za2 a b < 0)) :=
  ⟨fun a => by simp only [decide_eq_false_iff_not]; rw [z4w]; omega, fun a b c h1 h2 => by simp only [decide_eq_true_eq] at *; rw [z4w] at *; omega, fun a b c h1 h2 => by simp only [decide_eq_false_iff_not] at *; rw [z4w] at *; omega⟩
 refine ⟨_, rfl, ?_, by rw [(z3y _ _).length_eq]; exact hfl, fun x => ?_⟩
 ·have h1 := z74 hswo ((M.filter (fitB w)).map fun e => prt e.1)
  have h2 := ((z3y (fun a b : Part => decide (za2 a b < 0)) ((M.filter (fitB w)).map fun e => prt e.1)).pairwise_iff (fun {a b} (h : za2 a b < 0 \/ za2 b a < 0) => h.symm)).2 hpw
  refine List.Pairwise.imp (fun {a b} q => ?_) (h1.and h2)
  obtain ⟨q1, q2⟩ := q
  rcases q2 with q2 | q2
  ·exact z4w.1 q2
  ·rw [decide_eq_false_iff_not] at q1; exact absurd q2 q1
 ·rw [(z3y _ _).mem_iff]
  simp only [List.mem_map, List.mem_filter]
  have key : ∀ e ∈ M, fitB w e = true ↔ posW e.1 (hist l at_) = [w] := by
   intro e he
   have h1 := hM.vals e he
   have h2 : e.2.map (·.1) = posW e.1 (hist l at_) := by rw [hmem he]; exact hpos e.1
   unfold fitB
   rw [h1.get w, h2, Bool.and_eq_true, beq_iff_eq]
   have h3 : (e.2.length : Int) = ((posW e.1 (hist l at_)).length : Int) := by rw [<- h2, List.length_map]
   rw [h3]
   constructor
   ·rintro ⟨q1, q2⟩
    match hp : posW e.1 (hist l at_), q1, q2 with
    | [y], _, q2 =>
     simp only [List.contains_cons, List.contains_nil, Bool.or_false, beq_iff_eq] at q2
     rw [q2]
    | [], q1, _ => simp at q1
    | _ :: _ :: _, q1, _ => simp at q1; omega
   ·intro q
    rw [q]; simp
  constructor
  ·rintro ⟨e, ⟨he, hf⟩, rfl⟩
   exact ⟨rfl, (key e he).1 hf⟩
  ·rintro ⟨hx, hp⟩
   have h1 := hpos (ofP x)
   rw [hp] at h1
   have hc : ∃ s, cget kl_9 M (ofP x) = some s := by
    unfold wk at h1
    cases hc : cget kl_9 M (ofP x) with
    | none => rw [hc] at h1; cases h1
    | some s => exact ⟨s, rfl⟩
   obtain ⟨s, hc⟩ := hc
   obtain ⟨a, hm, e1⟩ := z8r hc
   have e2 := zxd e1
   refine ⟨(a, s), ⟨hm, (key _ hm).2 (by show posW a _ = _; rw [<- e2]; exact hp)⟩, ?_⟩
   show prt a = x
   rw [<- e2]
   obtain ⟨k, sr, f⟩ := x
   simp only at hx
   subst hx
   rfl
end Px
end
section
namespace Px
open Go
set_option linter.unusedVariables false
set_option linter.unusedSimpArgs false
set_option maxRecDepth 100000
theorem yau : zfr 100000000 = some (true, ()) := by kernel_rfl
theorem y2h (φ : Nat) (hφ : 1000 < φ) (l : List z6) : ∃ b, zh8 φ l = some (b, ()) /\ (b = true -> l.length <= 30 /\ ∀ r ∈ l, r.item.parts.length <= 20) := by
 unfold zh8
 by_cases h : l.length <= 30
 ·rw [if_neg (by simp; omega)]
  refine ⟨l.all (fun r => decide (r.item.parts.length <= 20)), ?_, fun hb => ⟨h, fun r hr => by simpa using List.all_eq_true.1 hb r hr⟩⟩
  refine zlc (fun n i (s : Unit) => z72 φ n l i) l.length (fun i _ => (l.take i).all (fun r => decide (r.item.parts.length <= 20)) = true) (fun o => o = some (l.all (fun r => decide (r.item.parts.length <= 20)), ())) ?_ ?_ φ () rfl (by omega)
  ·intro n i s hi hs hk
   rw [z72, if_pos (by simp; omega), z09 ⟨by omega, by omega⟩, W_id (x := (i : Int) + 1) (by omega) (by omega)]
   by_cases hp : (gt l (i : Int)).item.parts.length <= 20
   ·rw [if_neg (by simp; omega)]
    exact hk () (by rw [zov _ _ _ hi, hs]; simp [hp])
   ·rw [if_pos (by simp; omega)]
    have : l.all (fun r => decide (r.item.parts.length <= 20)) = false := by
     rw [List.all_eq_false]
     exact ⟨_, zmu (l := l) (i := (i : Int)) (by omega) (by omega), by simpa using hp⟩
    rw [this]
  ·intro n s hs
   rw [List.take_length] at hs
   rw [z72, if_neg (by simp), hs]
 ·rw [if_pos (by simp; omega)]
  exact ⟨_, rfl, fun h => by cases h⟩
theorem zz0 {l : List z6} (h : rdN TV 30 10 l) : ∀ r ∈ l, -9223372036854775808 <= r.item.wagon /\ r.item.wagon < 9223372036854775808 := by
 intro r hr
 have h1 : RL (rdN TV 29 7) l := h
 have h2 : rdN TV 29 7 r := h1.1 r hr
 have h3 : RI .i64 r.item.wagon := h2.2.2.2.2.2.1
 have e1 : IntKind.i64.min = -9223372036854775808 := rfl
 have e2 : IntKind.i64.max = 9223372036854775807 := rfl
 unfold RI at h3
 rw [e1, e2] at h3
 omega
theorem y6t {l : List z6} (h : rdN TV 30 10 l) (h1 : l.length <= 30) (h2 : ∀ r ∈ l, r.item.parts.length <= 20) : FewP l :=
 ⟨by omega, fun r hr => by have := h2 r hr; omega, zz0 h⟩
end Px
end
section
namespace Px
open Go
set_option linter.unusedVariables false
set_option linter.unusedSimpArgs false
theorem zq1 (c : z1) (ws : List Int) (i : Nat) (hi : i < ws.length) : gt (carL c ws) (i : Int) = ⟨⟨c.kind, c.serial, true⟩, gt ws (i : Int), ((ws.length : Int) : Int) == 1⟩ := by
 have hlen : (carL c ws).length = ws.length := by unfold carL; rw [List.length_map]
 rw [zod (by omega), zod hi]
 unfold carL
 simp
def eqP (p x : Part) : Bool := ((p.kind : Int) == x.kind) && (((p.serial : Int) == x.serial) && ((p.fitted == x.fitted) && true))
theorem zy9 {p x : Part} : eqP p x = true ↔ p = x := by
 obtain ⟨a, b, c⟩ := p
 obtain ⟨a', b', c'⟩ := x
 simp [eqP]
theorem znj (φ : Nat) (w : Int) (cs : List z3m) (p : List Part) (x : Part) (hp : p.Pairwise ltC) (hf : ∀ y ∈ p, y.fitted = true) (hl : p.length <= 4000) (hφ : 10000 < φ) :
  z00 φ φ w cs p false 0 x = some ((p.any fun y => eqP y x) == ((((cs.length : Int) : Int) == 1) && (((gt cs 0).wagon : Int) == w)), ()) := by
 refine zlc (fun n i found => z00 φ n w cs p found i x) p.length (fun i found => found = (p.take i).any fun y => eqP y x) (fun o => o = some ((p.any fun y => eqP y x) == ((((cs.length : Int) : Int) == 1) && (((gt cs 0).wagon : Int) == w)), ())) ?_ ?_ φ false rfl (by omega)
 ·intro n i found hi hfo hk
  have hW : (decide ((0 : Int) < (i : Int)) = true) -> (0 : Int) <= W ((i : Int) - 1) /\ W ((i : Int) - 1) < (p.length : Int) := fun h => by
   have : (0 : Int) < (i : Int) := of_decide_eq_true h
   rw [W_id (by omega) (by omega)]; omega
  rw [z00, if_pos (by simp; omega), z09 ⟨by omega, by omega⟩, z09 (fun h => hW h.2), z09 (fun _ => ⟨by omega, by omega⟩), z09 (fun h => hW h.1.2), z09 (fun _ => ⟨by omega, by omega⟩), z09 (fun h => hW h.1.1.2), z09 (fun _ => ⟨by omega, by omega⟩)]
  have hg := hf _ (zmu (l := p) (i := (i : Int)) (by omega) (by omega))
  rw [if_neg, z09 (fun _ => ⟨by omega, by omega⟩), W_id (x := (i : Int) + 1) (by omega) (by omega)]
  ·refine hk _ ?_
   rw [hfo, zq2 _ _ _ hi]
   rfl
  ·rw [hg]
   by_cases h0 : i = 0
   ·subst h0; simp
   ·have hlt : ltC (gt p ((i - 1 : Nat) : Int)) (gt p (i : Int)) := by
     rw [zod (by omega), zod hi]
     exact List.pairwise_iff_getElem.1 hp _ _ (by omega) hi (by omega)
    rw [W_id (x := (i : Int) - 1) (by omega) (by omega), show (i : Int) - 1 = ((i - 1 : Nat) : Int) by omega]
    unfold ltC at hlt
    simp only [Bool.not_true, Bool.false_or, Bool.and_eq_true, Bool.or_eq_true, decide_eq_true_eq, beq_iff_eq]
    omega
 ·intro n found hfo
  rw [z00, if_neg (by simp), z09 (fun h => ⟨by omega, by have : (cs.length : Int) = 1 := beq_iff_eq.1 h; omega⟩), hfo, List.take_length]
theorem zxk (φ : Nat) (l : List z6) (x : Part) (w at_ : Int) : (z47 φ).F (l, x, w, at_, ()) = z3a φ l x w at_ := rfl
theorem zhs (x : Tup TT [10, 2, 0, 0]) (h : y7n TV 30 [10, 2, 0, 0] x) : ∃ φ, (z47 φ).F x = some (true, ()) := by
 obtain ⟨l, x, w, at_, _⟩ := x
 change List z6 at l
 change Part at x
 change Int at w
 change Int at at_
 have hr : rdN TV 30 10 l := h.1
 suffices key : ∃ φ, z3a φ l x w at_ = some (true, ()) by
  obtain ⟨φ, h⟩ := key
  exact ⟨φ, (zxk φ l x w at_).trans h⟩
 suffices key : ∀ φ : Nat, 60000000 < φ -> zfr φ = some (true, ()) -> z3a φ l x w at_ = some (true, ()) from ⟨100000000, key _ (by omega) yau⟩
 intro φ hφ hsane
 unfold z3a
 obtain ⟨bf, hbf, hfew⟩ := y2h φ (by omega) l
 rw [hsane, Option.bind_some, if_neg (by simp), hbf, Option.bind_some]
 cases bf with
 | false => rw [if_pos (by simp)]
 | true =>
 obtain ⟨hl1, hl2⟩ := hfew rfl
 have hF := y6t hr hl1 hl2
 rw [if_neg (by simp), zsw hF φ (by omega), Option.bind_some]
 show z01 φ φ l w at_ (carL (ofP x) (posW (ofP x) (hist l at_))) 0 (⟨x.kind, x.serial, true⟩ : Part) = _
 have hinc := zvo (ofP x) (hist l at_)
 have hws : (posW (ofP x) (hist l at_)).length <= 30 := by
  have := zuv (ofP x) (hist l at_)
  have := zla l at_
  omega
 obtain ⟨p, hp1, hp2, hp3, hp4⟩ := zyb hF φ (by omega) w at_
 have hpx := hp4 (⟨x.kind, x.serial, true⟩ : Part)
 have hofx : ofP (⟨x.kind, x.serial, true⟩ : Part) = ofP x := rfl
 rw [hofx] at hpx
 generalize posW (ofP x) (hist l at_) = ws at *
 have hlen : (carL (ofP x) ws).length = ws.length := by unfold carL; rw [List.length_map]
 refine zlc (fun n i (s : Unit) => z01 φ n l w at_ (carL (ofP x) ws) i (⟨x.kind, x.serial, true⟩ : Part)) (carL (ofP x) ws).length (fun _ _ => True) (fun o => o = some (true, ())) ?_ ?_ φ () trivial (by omega)
 ·intro n i s hi _ hk
  have hi' : i < ws.length := by omega
  have hW : (decide ((0 : Int) < (i : Int)) = true) -> (0 : Int) <= W ((i : Int) - 1) /\ W ((i : Int) - 1) < ((carL (ofP x) ws).length : Int) := fun h => by
   have : (0 : Int) < (i : Int) := of_decide_eq_true h
   rw [W_id (by omega) (by omega)]; omega
  rw [z01, if_pos (by simp; omega), z09 ⟨by omega, by omega⟩, z09 (fun _ => ⟨by omega, by omega⟩), z09 (fun h => hW h.2), z09 (fun _ => ⟨by omega, by omega⟩), if_neg, W_id (x := (i : Int) + 1) (by omega) (by omega)]
  ·exact hk () trivial
  ·rw [zq1 _ _ i hi', hlen]
   by_cases h0 : i = 0
   ·subst h0; simp [ofP]
   ·have hlt : gt ws ((i - 1 : Nat) : Int) < gt ws (i : Int) := by
     rw [zod (by omega), zod hi']
     exact List.pairwise_iff_getElem.1 hinc _ _ (by omega) hi' (by omega)
    rw [W_id (x := (i : Int) - 1) (by omega) (by omega), show (i : Int) - 1 = ((i - 1 : Nat) : Int) by omega, zq1 _ _ (i - 1) (by omega)]
    simp [ofP]
    omega
 ·intro n s _
  rw [z01, if_neg (by simp), hp1, Option.bind_some]
  simp only
  rw [znj φ w _ p _ hp2 (fun y hy => ((hp4 y).1 hy).1) hp3 (by omega)]
  congr 2
  rw [beq_iff_eq, Bool.eq_iff_iff, List.any_eq_true, hlen, Bool.and_eq_true, beq_iff_eq, beq_iff_eq]
  constructor
  ·rintro ⟨y, hy, he⟩
   rw [zy9] at he
   subst he
   have hw := (hpx.1 hy).2
   subst hw
   refine ⟨by simp, ?_⟩
   have this : gt (carL (ofP x) [w]) 0 = _ := zq1 (ofP x) [w] 0 (by simp)
   rw [this]; rfl
  ·rintro ⟨h1, h2⟩
   refine ⟨_, hpx.2 ⟨rfl, ?_⟩, zy9.2 rfl⟩
   match ws, h1, h2 with
   | [y], _, h2 =>
    have this : gt (carL (ofP x) [y]) 0 = _ := zq1 (ofP x) [y] 0 (by simp)
    rw [this] at h2
    have h2 : y = w := h2
    rw [h2]
   | [], h1, _ => simp at h1
   | _ :: _ :: _, h1, _ => simp at h1; omega
end Px
end
