/- A part of the proof of repairFinds_holds. Conditions: none. -/
import Derived.Test.YtakhlidbhepogaaGreatFkaf
import Derived.Test.YtakhlidbhepogaaGreatProg
import Derived.Ground.SlsfProg
import Derived.Ground.NamesProg
import Derived.Shelf.SlIterI.Nil
import Derived.Ground.GgzProg
import Derived.KernelRfl
section
namespace Go.Proofs
open Go.Shelf
def Tryz.sortEv_ren : Go.Shelf.Ren := ⟨fun | 6 => 37 | 15 => 65 | 14 => 64 | 28 => 107 | 29 => 108 | 20 => 99 | 21 => 100 | 22 => 101 | 23 => 102 | 24 => 103 | 25 => 104 | 26 => 105 | 27 => 106 | 46 => 140 | 47 => 141 | 48 => 142 | 49 => 143 | 50 => 144 | 57 => 166 | n => n, fun | 22 => 28 | 24 => 24 | 25 => 94 | 3 => 3 | 39 => 134 | 0 => 0 | 53 => 175 | 55 => 110 | 4 => 4 | 46 => 168 | 45 => 167 | 50 => 172 | 5 => 5 | 9 => 9 | 66 => 204 | 70 => 158 | 76 => 223 | 77 => 224 | n => n, fun | n => n⟩
theorem Tryz.sortEv : Go.Proofs.SlLaysF0.n6 Tryz.prog Tryz.sortEv_ren := {
 mixed := by kernel_rfl
 f6 := ⟨Tryz.f37.name, by decide, Tryz.func37.trans (congrArg some (by kernel_rfl))⟩
 f14 := ⟨Tryz.f64.name, by decide, Tryz.func64.trans (congrArg some (by kernel_rfl))⟩
 f15 := Tryz.func65.trans (congrArg some (by kernel_rfl))
 f20 := ⟨Tryz.f99.name, by decide, Tryz.func99.trans (congrArg some (by kernel_rfl))⟩
 f21 := ⟨Tryz.f100.name, by decide, Tryz.func100.trans (congrArg some (by kernel_rfl))⟩
 f22 := ⟨Tryz.f101.name, by decide, Tryz.func101.trans (congrArg some (by kernel_rfl))⟩
 f23 := ⟨Tryz.f102.name, by decide, Tryz.func102.trans (congrArg some (by kernel_rfl))⟩
 f24 := ⟨Tryz.f103.name, by decide, Tryz.func103.trans (congrArg some (by kernel_rfl))⟩
 f25 := ⟨Tryz.f104.name, by decide, Tryz.func104.trans (congrArg some (by kernel_rfl))⟩
 f26 := ⟨Tryz.f105.name, by decide, Tryz.func105.trans (congrArg some (by kernel_rfl))⟩
 f27 := ⟨Tryz.f106.name, by decide, Tryz.func106.trans (congrArg some (by kernel_rfl))⟩
 f28 := Tryz.func107.trans (congrArg some (by kernel_rfl))
 f29 := Tryz.func108.trans (congrArg some (by kernel_rfl))
 f46 := ⟨Tryz.f140.name, by decide, Tryz.func140.trans (congrArg some (by kernel_rfl))⟩
 f47 := Tryz.func141.trans (congrArg some (by kernel_rfl))
 f48 := Tryz.func142.trans (congrArg some (by kernel_rfl))
 f49 := ⟨Tryz.f143.name, by decide, Tryz.func143.trans (congrArg some (by kernel_rfl))⟩
 f50 := ⟨Tryz.f144.name, by decide, Tryz.func144.trans (congrArg some (by kernel_rfl))⟩
 f57 := ⟨Tryz.f166.name, by decide, Tryz.func166.trans (congrArg some (by kernel_rfl))⟩
 t0 := Tryz.underlying0
 a0 := Tryz.isAgg0
 z0 := Tryz.sizeOf0
 v0 := Tryz.zeroValue0
 t3 := Tryz.underlying3
 a3 := Tryz.isAgg3
 z3 := Tryz.sizeOf3
 v3 := Tryz.zeroValue3
 t4 := Tryz.underlying4
 a4 := Tryz.isAgg4
 z4 := Tryz.sizeOf4
 v4 := Tryz.zeroValue4
 t5 := Tryz.underlying5
 a5 := Tryz.isAgg5
 z5 := Tryz.sizeOf5
 v5 := Tryz.zeroValue5
 t9 := Tryz.underlying9
 a9 := Tryz.isAgg9
 z9 := Tryz.sizeOf9
 v9 := Tryz.zeroValue9
 t22 := Tryz.underlying28
 a22 := Tryz.isAgg28
 z22 := Tryz.sizeOf28
 v22 := Tryz.zeroValue28
 t25 := Tryz.underlying94
 a25 := Tryz.isAgg94
 z25 := Tryz.sizeOf94
 v25 := Tryz.zeroValue94
 t39 := Tryz.underlying134
 a39 := Tryz.isAgg134
 z39 := Tryz.sizeOf134
 v39 := Tryz.zeroValue134
 t45 := Tryz.underlying167
 a45 := Tryz.isAgg167
 z45 := Tryz.sizeOf167
 v45 := Tryz.zeroValue167
 t46 := Tryz.underlying168
 a46 := Tryz.isAgg168
 z46 := Tryz.sizeOf168
 v46 := Tryz.zeroValue168
 t50 := Tryz.underlying172
 a50 := Tryz.isAgg172
 z50 := Tryz.sizeOf172
 v50 := Tryz.zeroValue172
 t53 := Tryz.underlying175
 a53 := Tryz.isAgg175
 z53 := Tryz.sizeOf175
 v53 := Tryz.zeroValue175
 t55 := Tryz.underlying110
 a55 := Tryz.isAgg110
 z55 := Tryz.sizeOf110
 v55 := Tryz.zeroValue110
 t66 := Tryz.underlying204
 a66 := Tryz.isAgg204
 z66 := Tryz.sizeOf204
 v66 := Tryz.zeroValue204
 t70 := Tryz.underlying158
 a70 := Tryz.isAgg158
 z70 := Tryz.sizeOf158
 v70 := Tryz.zeroValue158
 t76 := Tryz.underlying223
 a76 := Tryz.isAgg223
 z76 := Tryz.sizeOf223
 v76 := Tryz.zeroValue223
 t77 := Tryz.underlying224
 a77 := Tryz.isAgg224
 z77 := Tryz.sizeOf224
 v77 := Tryz.zeroValue224 }
def Tryz.lays189_ren : Go.Shelf.Ren := ⟨fun | 189 => 71 | 125 => 65 | 257 => 110 | 128 => 107 | 129 => 108 | 294 => 145 | 295 => 146 | 296 => 147 | 297 => 148 | 298 => 149 | 299 => 150 | 216 => 151 | 300 => 152 | 301 => 153 | 328 => 167 | 329 => 141 | 330 => 142 | 331 => 168 | 332 => 169 | 215 => 66 | 343 => 182 | n => n, fun | 28 => 34 | 3 => 3 | 46 => 134 | 0 => 0 | 51 => 175 | 53 => 110 | 4 => 4 | 183 => 168 | 182 => 167 | 131 => 172 | 5 => 5 | 9 => 9 | 218 => 204 | 222 => 158 | 228 => 223 | 229 => 224 | n => n, fun | n => n⟩
theorem Tryz.lays189 : Go.Proofs.Lays.n189 Tryz.prog Tryz.lays189_ren := {
 mixed := by kernel_rfl
 f125 := Tryz.func65.trans (congrArg some (by kernel_rfl))
 f128 := Tryz.func107.trans (congrArg some (by kernel_rfl))
 f129 := Tryz.func108.trans (congrArg some (by kernel_rfl))
 f189 := Tryz.func71.trans (congrArg some (by kernel_rfl))
 f215 := Tryz.func66.trans (congrArg some (by kernel_rfl))
 f216 := Tryz.func151.trans (congrArg some (by kernel_rfl))
 f257 := Tryz.func110.trans (congrArg some (by kernel_rfl))
 f294 := Tryz.func145.trans (congrArg some (by kernel_rfl))
 f295 := Tryz.func146.trans (congrArg some (by kernel_rfl))
 f296 := Tryz.func147.trans (congrArg some (by kernel_rfl))
 f297 := Tryz.func148.trans (congrArg some (by kernel_rfl))
 f298 := Tryz.func149.trans (congrArg some (by kernel_rfl))
 f299 := Tryz.func150.trans (congrArg some (by kernel_rfl))
 f300 := Tryz.func152.trans (congrArg some (by kernel_rfl))
 f301 := Tryz.func153.trans (congrArg some (by kernel_rfl))
 f328 := Tryz.func167.trans (congrArg some (by kernel_rfl))
 f329 := Tryz.func141.trans (congrArg some (by kernel_rfl))
 f330 := Tryz.func142.trans (congrArg some (by kernel_rfl))
 f331 := Tryz.func168.trans (congrArg some (by kernel_rfl))
 f332 := Tryz.func169.trans (congrArg some (by kernel_rfl))
 f343 := Tryz.func182.trans (congrArg some (by kernel_rfl))
 t0 := Tryz.underlying0
 a0 := Tryz.isAgg0
 z0 := Tryz.sizeOf0
 v0 := Tryz.zeroValue0
 t3 := Tryz.underlying3
 a3 := Tryz.isAgg3
 z3 := Tryz.sizeOf3
 v3 := Tryz.zeroValue3
 t4 := Tryz.underlying4
 a4 := Tryz.isAgg4
 z4 := Tryz.sizeOf4
 v4 := Tryz.zeroValue4
 t5 := Tryz.underlying5
 a5 := Tryz.isAgg5
 z5 := Tryz.sizeOf5
 v5 := Tryz.zeroValue5
 t9 := Tryz.underlying9
 a9 := Tryz.isAgg9
 z9 := Tryz.sizeOf9
 v9 := Tryz.zeroValue9
 t28 := Tryz.underlying34
 a28 := Tryz.isAgg34
 z28 := Tryz.sizeOf34
 v28 := Tryz.zeroValue34
 t46 := Tryz.underlying134
 a46 := Tryz.isAgg134
 z46 := Tryz.sizeOf134
 v46 := Tryz.zeroValue134
 t51 := Tryz.underlying175
 a51 := Tryz.isAgg175
 z51 := Tryz.sizeOf175
 v51 := Tryz.zeroValue175
 t53 := Tryz.underlying110
 a53 := Tryz.isAgg110
 z53 := Tryz.sizeOf110
 v53 := Tryz.zeroValue110
 t131 := Tryz.underlying172
 a131 := Tryz.isAgg172
 z131 := Tryz.sizeOf172
 v131 := Tryz.zeroValue172
 t182 := Tryz.underlying167
 a182 := Tryz.isAgg167
 z182 := Tryz.sizeOf167
 v182 := Tryz.zeroValue167
 t183 := Tryz.underlying168
 a183 := Tryz.isAgg168
 z183 := Tryz.sizeOf168
 v183 := Tryz.zeroValue168
 t218 := Tryz.underlying204
 a218 := Tryz.isAgg204
 z218 := Tryz.sizeOf204
 v218 := Tryz.zeroValue204
 t222 := Tryz.underlying158
 a222 := Tryz.isAgg158
 z222 := Tryz.sizeOf158
 v222 := Tryz.zeroValue158
 t228 := Tryz.underlying223
 a228 := Tryz.isAgg223
 z228 := Tryz.sizeOf223
 v228 := Tryz.zeroValue223
 t229 := Tryz.underlying224
 a229 := Tryz.isAgg224
 z229 := Tryz.sizeOf224
 v229 := Tryz.zeroValue224 }
def Tryz.sortedK_ren : Go.Shelf.Ren := ⟨fun | 6 => 44 | 8 => 70 | 9 => 71 | 11 => 109 | 13 => 65 | 12 => 110 | 23 => 107 | 24 => 108 | 14 => 145 | 15 => 146 | 16 => 147 | 17 => 148 | 18 => 149 | 19 => 150 | 20 => 151 | 21 => 152 | 22 => 153 | 25 => 167 | 26 => 141 | 27 => 142 | 28 => 168 | 29 => 169 | 30 => 66 | 31 => 182 | n => n, fun | 26 => 3 | 28 => 100 | 24 => 34 | 0 => 0 | 3 => 3 | 37 => 134 | 48 => 175 | 50 => 110 | 4 => 4 | 40 => 168 | 39 => 167 | 45 => 172 | 5 => 5 | 9 => 9 | 51 => 204 | 55 => 158 | 57 => 223 | 58 => 224 | 33 => 135 | n => n, fun | n => n⟩
theorem Tryz.sortedK : Go.Proofs.SlLaysZI.n6 Tryz.prog Tryz.sortedK_ren := {
 mixed := by kernel_rfl
 f6 := ⟨Tryz.f44.name, by decide, Tryz.func44.trans (congrArg some (by kernel_rfl))⟩
 f8 := ⟨Tryz.f70.name, by decide, Tryz.func70.trans (congrArg some (by kernel_rfl))⟩
 f11 := ⟨Tryz.f109.name, by decide, Tryz.func109.trans (congrArg some (by kernel_rfl))⟩
 t0 := Tryz.underlying0
 a0 := Tryz.isAgg0
 z0 := Tryz.sizeOf0
 v0 := Tryz.zeroValue0
 t24 := Tryz.underlying34
 a24 := Tryz.isAgg34
 z24 := Tryz.sizeOf34
 v24 := Tryz.zeroValue34
 t26 := Tryz.underlying3
 a26 := Tryz.isAgg3
 z26 := Tryz.sizeOf3
 v26 := Tryz.zeroValue3
 t28 := Tryz.underlying100
 a28 := Tryz.isAgg100
 z28 := Tryz.sizeOf100
 v28 := Tryz.zeroValue100
 i26 := by kernel_rfl }
def Tryz.keysK_ren : Go.Shelf.Ren := ⟨fun | 10 => 72 | n => n, fun | 33 => 135 | 23 => 89 | 0 => 0 | 4 => 4 | 26 => 3 | 3 => 4 | n => n, fun | n => n⟩
theorem Tryz.keysK : Go.Proofs.SlLaysZI.n10 Tryz.prog Tryz.keysK_ren := {
 mixed := by kernel_rfl
 f10 := ⟨Tryz.f72.name, by decide, Tryz.func72.trans (congrArg some (by kernel_rfl))⟩
 t0 := Tryz.underlying0
 a0 := Tryz.isAgg0
 z0 := Tryz.sizeOf0
 v0 := Tryz.zeroValue0
 t4 := Tryz.underlying4
 a4 := Tryz.isAgg4
 z4 := Tryz.sizeOf4
 v4 := Tryz.zeroValue4
 t23 := Tryz.underlying89
 a23 := Tryz.isAgg89
 z23 := Tryz.sizeOf89
 v23 := Tryz.zeroValue89
 t26 := Tryz.underlying3
 a26 := Tryz.isAgg3
 z26 := Tryz.sizeOf3
 v26 := Tryz.zeroValue3
 t33 := Tryz.underlying135
 a33 := Tryz.isAgg135
 z33 := Tryz.sizeOf135
 v33 := Tryz.zeroValue135 }
end Go.Proofs
end
section
namespace Px
open Go
set_option linter.unusedVariables false
set_option linter.unusedSimpArgs false
theorem y8b {σ ρ : Type} (L : Nat -> Int -> σ -> Option ρ) (len : Nat) (Inv : Nat -> σ -> Prop) (G : Option ρ -> Prop)
  (step : ∀ n i s, i < len -> Inv i s -> (∀ s', Inv (i + 1) s' -> G (L n ((i : Int) + 1) s')) -> G (L (n + 1) i s))
  (done : ∀ n s, Inv len s -> G (L (n + 1) len s)) : ∀ n i s, i <= len -> Inv i s -> len - i < n -> G (L n i s) := by
 intro n
 induction n with
 | zero => intro i s _ _ h; omega
 | succ n ih =>
  intro i s hi hI hn
  by_cases h : i = len
  ·subst h; exact done n s hI
  ·refine step n i s (by omega) hI fun s' hs' => ?_
   have := ih (i + 1) s' (by omega) hs' (by omega)
   simpa using this
theorem zei {σ ρ : Type} (L : Nat -> Int -> σ -> Option ρ) (len : Nat) (Inv : Nat -> σ -> Prop) (G : Option ρ -> Prop)
  (step : ∀ n i s, i < len -> Inv i s -> (∀ s', Inv (i + 1) s' -> G (L n ((i : Int) + 1) s')) -> G (L (n + 1) i s))
  (done : ∀ n s, Inv len s -> G (L (n + 1) len s)) (n : Nat) (s : σ) (h : Inv 0 s) (hn : len < n) : G (L n 0 s) := by
 simpa using y8b L len Inv G step done n 0 s (Nat.zero_le _) h (by omega)
theorem ycw (x : Int) : W x = if x % 18446744073709551616 >= 9223372036854775808 then x % 18446744073709551616 - 18446744073709551616 else x % 18446744073709551616 := by
 simp [W, IntKind.wrap, IntKind.bits, IntKind.signed]
theorem ycr (x : Int) : U x = x % 18446744073709551616 := by
 simp [U, IntKind.wrap, IntKind.bits, IntKind.signed]
theorem W_id {x : Int} (h : -9223372036854775808 <= x) (h' : x <= 9223372036854775807) : W x = x := by
 rw [ycw]; split <;> omega
theorem U_id {x : Int} (h : 0 <= x) (h' : x <= 18446744073709551615) : U x = x := by
 rw [ycr]; omega
theorem zr6 {α : Type} [Inhabited α] (ok : α -> Bool) (l : List α) (i : Nat) (h : i < l.length) : (l.take (i + 1)).all ok = ((l.take i).all ok && ok (gt l (i : Int))) := by
 rw [List.take_succ_eq_append_getElem h, List.all_append]
 simp [gt, h]
theorem zqt {α : Type} [Inhabited α] (ok : α -> Bool) (l : List α) (i : Nat) (h : i < l.length) : (l.take (i + 1)).any ok = ((l.take i).any ok || ok (gt l (i : Int))) := by
 rw [List.take_succ_eq_append_getElem h, List.any_append]
 simp [gt, h]
theorem zfg {α : Type} [Inhabited α] (l : List α) (i : Nat) (h : i < l.length) : l.take (i + 1) = l.take i ++ [gt l (i : Int)] := by
 rw [List.take_succ_eq_append_getElem h]
 simp [gt, h]
theorem zgx {α : Type} [Inhabited α] {l : List α} {i : Int} (h0 : 0 <= i) (h : i < (l.length : Int)) : gt l i ∈ l := by
 have hlt : i.toNat < l.length := by omega
 simp [gt, hlt]
theorem y0k {α : Type} [Inhabited α] {l : List α} {i : Nat} (h : i < l.length) : gt l (i : Int) = l[i] := by
 simp [gt, h]
theorem yb4 {α : Type} [Inhabited α] {l : List α} {x : α} (h : x ∈ l) : ∃ i : Nat, i < l.length /\ gt l (i : Int) = x := by
 obtain ⟨i, hi, e⟩ := List.getElem_of_mem h
 exact ⟨i, hi, by rw [y0k hi, e]⟩
theorem ze1 {α : Type} [Inhabited α] (l m : List α) (j : Int) (h0 : 0 <= j) (h : j < (l.length : Int)) : gt (l ++ m) j = gt l j := by
 have : j.toNat < l.length := by omega
 simp [gt, List.getD, List.getElem?_append, this]
theorem z9k {α : Type} [Inhabited α] (l m : List α) (j : Int) (h : (l.length : Int) <= j) : gt (l ++ m) j = gt m (j - l.length) := by
 have : ¬ j.toNat < l.length := by omega
 have e : (j - l.length).toNat = j.toNat - l.length := by omega
 simp [gt, List.getD, List.getElem?_append, this, e]
theorem zdm {α σ ρ : Type} [Inhabited α] (L : Nat -> Int -> σ -> Option ρ) (k : σ -> Option ρ) (l : List α) (f : σ -> α -> σ) (Inv : Nat -> σ -> Prop)
  (step : ∀ (n i : Nat) (s : σ), i < l.length -> Inv i s -> L (n + 1) i s = L n ((i : Int) + 1) (f s (gt l i)) /\ Inv (i + 1) (f s (gt l i))) (done : ∀ n s, Inv l.length s -> L (n + 1) l.length s = k s)
  (n : Nat) (s : σ) (h0 : Inv 0 s) (hn : l.length < n) : L n 0 s = k (l.foldl f s) /\ Inv l.length (l.foldl f s) := by
 refine zei L l.length (fun i t => t = (l.take i).foldl f s /\ Inv i t) (fun o => o = k (l.foldl f s) /\ Inv l.length (l.foldl f s)) ?_ ?_ n s ⟨by simp, h0⟩ hn
 ·intro n i t hi ⟨ht, hI⟩ hs
  rw [(step n i t hi hI).1]
  refine hs _ ⟨?_, (step n i t hi hI).2⟩
  rw [zfg l i hi, List.foldl_append, <- ht]; rfl
 ·intro n t ⟨ht, hI⟩
  rw [List.take_length] at ht
  subst ht
  exact ⟨done n _ hI, hI⟩
end Px
end
section
namespace Px
open Go
set_option linter.unusedVariables false
set_option linter.unusedSimpArgs false
theorem znc {a b : Int} : cmpI a b < 0 ↔ a < b := by unfold cmpI; (repeat' split) <;> omega
theorem zun {a b : Int} : cmpI a b = 0 ↔ a = b := by unfold cmpI; (repeat' split) <;> omega
theorem y1f {a b : Int} : or2 a b < 0 ↔ a < 0 \/ (a = 0 /\ b < 0) := by unfold or2; split <;> omega
theorem zdl {a b : Part} : zix a b < 0 ↔ a.kind < b.kind \/ (a.kind = b.kind /\ a.serial < b.serial) := by
 unfold zix; rw [y1f, znc, znc, zun]
theorem zxf : Sort.SWO (Proofs.ltOf fun a b : {y : Part // (fun _ : Part => true) y = true} => zix a.1 b.1) where
 irrefl := fun x => by simp only [Proofs.ltOf, decide_eq_false_iff_not]; rw [zdl]; omega
 trans := fun x y z h1 h2 => by simp only [Proofs.ltOf, decide_eq_true_eq] at *; rw [zdl] at *; omega
 ntrans := fun x y z h1 h2 => by simp only [Proofs.ltOf, decide_eq_false_iff_not] at *; rw [zdl] at *; omega
theorem zkd (φ : Nat) (a b : Int) : z19 φ a b = some (cmpI a b, ()) := by
 unfold z19 cmpI
 simp only [bne_self_eq_false, Bool.false_eq_true, if_false, decide_eq_true_eq]
 split
 ·rfl
 ·split <;> rfl
theorem yaf (φ : Nat) (h : 3 <= φ) (a b : Int) : zh9 φ [a, b] = some (or2 a b, ()) := by
 obtain ⟨n, rfl⟩ : ∃ n, φ = n + 3 := ⟨φ - 3, by omega⟩
 unfold zh9 or2
 simp only [zif, List.length_cons, List.length_nil]
 have w : ∀ x : Int, 0 <= x -> x < 100 -> W (x + 1) = x + 1 := fun x h1 h2 => W_id (by omega) (by omega)
 have g0 : gt [a, b] 0 = a := rfl
 have g1 : gt [a, b] 1 = b := rfl
 rw [w 0 (by omega) (by omega), show (0 : Int) + 1 = 1 by rfl, w 1 (by omega) (by omega), show (1 : Int) + 1 = 2 by rfl, g0, g1]
 simp [ck]
 repeat' (split; try rfl)
 all_goals simp_all
theorem zub (a b : Part) : zb9 10 a b = some (zix a b, ()) := by
 unfold zb9 zix
 simp only [zkd, Option.bind_some]
 rw [yaf 10 (by omega)]
 rfl
theorem zye {α : Type} {ok : α -> Bool} {cf : α -> α -> Int} (ho : ∀ a b c, cf a b >= 0 -> cf b c >= 0 -> cf a c >= 0) (hi : ∀ a, cf a a >= 0) (ht : ∀ a b c, cf a b < 0 -> cf b c < 0 -> cf a c < 0) {l l' : List α} (p : l.Perm l') : zlr ok cf l = zlr ok cf l' := by
 have hs : Sort.SWO (fun a b : α => decide (cf a b < 0)) :=
  ⟨fun a => by have := hi a; simp; omega, fun a b c h1 h2 => by simp at *; exact ht a b c h1 h2, fun a b c h1 h2 => by simp at *; exact ho a b c h1 h2⟩
 have key : ∀ l l' r : List α, l.Perm l' -> zlr ok cf l = some r -> zlr ok cf l' = some r := by
  intro l l' r p h
  obtain ⟨h1, h2, h3, rfl⟩ := zso h
  have h3' : l.Pairwise fun a b => cf a b < 0 \/ cf b a < 0 := h3.imp fun h => by simpa using h
  rw [y4p (fun y hy => h1 y (p.mem_iff.2 hy)) (by rw [<- p.length_eq]; exact h2) ((p.pairwise_iff (fun {a b} h => h.symm)).1 h3')]
  rw [zoy (l := l) h3 ((z5e _ _).trans p.symm) (z5e _ _) (z9e hs _) (z9e hs _)]
 cases h : zlr ok cf l with
 | some r => exact (key l l' r p h).symm
 | none =>
  cases h' : zlr ok cf l' with
  | none => rfl
  | some r => rw [key l' l r p.symm h'] at h; cases h
theorem zqm {l l' : List Part} (p : l.Perm l') : zm9 l = zm9 l' := by
 have hlt : ∀ a b : Part, zix a b >= 0 -> ¬ (a.kind < b.kind \/ (a.kind = b.kind /\ a.serial < b.serial)) := fun a b h q => by have := zdl.2 q; omega
 have hge : ∀ a b : Part, ¬ (a.kind < b.kind \/ (a.kind = b.kind /\ a.serial < b.serial)) -> zix a b >= 0 := fun a b h => Int.not_lt.1 fun q => h (zdl.1 q)
 refine zye (fun a b c h1 h2 => ?_) (fun a => hge a a (by omega)) (fun a b c h1 h2 => ?_) p
 ·have := hlt _ _ h1
  have := hlt _ _ h2
  exact hge _ _ (by omega)
 ·rw [zdl] at *; omega
theorem zhn (φ : Nat) : ∀ (n : Nat) (w : Int) (p p' : List Part) (rem : List (z1 × List (Int × Bool))), p.Perm p' -> zm φ n w p rem = zm φ n w p' rem
 | 0, w, p, p', rem, h => rfl
 | n + 1, w, p, p', [], h => by simp only [zm, z0a, zqm h]
 | n + 1, w, p, p', e :: r, h => by
  simp only [zm, z0a, zy, Option.bind_some, h.length_eq]
  rw [zhn φ n w p p' r h, zhn φ n w _ _ r (h.append_right [_])]
theorem zos (φ : Nat) {rem rem' : List (z1 × List (Int × Bool))} (h : rem.Perm rem') : ∀ (n : Nat) (w : Int) (p : List Part), zm φ n w p rem = zm φ n w p rem' := by
 induction h with
 | nil => intros; rfl
 | cons e h ih =>
  intro n w p
  cases n with
  | zero => rfl
  | succ n => simp only [zm, z0a, zy, Option.bind_some]; rw [ih n w p, ih n w (p ++ _)]
 | swap a b r =>
  intro n w p
  match n with
  | 0 => rfl
  | 1 =>
   simp only [zm, z0a, zy, Option.bind_some, ck]
   repeat' split
   all_goals rfl
  | n + 2 =>
   simp only [zm, z0a, zy, Option.bind_some]
   cases hb : (((b.2.length : Int) == 1) && ((cget kl_0 b.2 w).getD default)) <;> cases ha : (((a.2.length : Int) == 1) && ((cget kl_0 a.2 w).getD default))
   ·simp
   ·simp
   ·simp
   ·simp only [if_true, List.append_assoc, List.cons_append, List.nil_append]
    have h := zhn φ n w (p ++ [⟨b.1.kind, b.1.serial, true⟩, ⟨a.1.kind, a.1.serial, true⟩]) (p ++ [⟨a.1.kind, a.1.serial, true⟩, ⟨b.1.kind, b.1.serial, true⟩]) r (List.Perm.append_left p (List.Perm.swap _ _ _))
    simp only [List.length_append, List.length_cons, List.length_nil]
    rw [h]
 | trans h1 h2 ih1 ih2 => intro n w p; rw [ih1, ih2]
theorem zln (φ : Nat) {rem rem' : List (Int × Bool)} (h : rem.Perm rem') (hd : Ndp kl_0 rem) (k20) : ∀ (n : Nat) (a b c d e f g i) (m : List (Int × Bool)), Srt' kl_0 m -> zn φ k20 n a b c d e f g i m rem = zn φ k20 n a b c d e f g i m rem' := by
 induction h with
 | nil => intros; rfl
 | cons x h ih =>
  intro n a b c d e f g i m hm
  cases n with
  | zero => rfl
  | succ n => simp only [zn, z1b]; exact ih (List.pairwise_cons.1 hd).2 n _ _ _ _ _ _ _ _ _ (hm.set _ _)
 | swap x y r =>
  intro n a b c d e f g i m hm
  have hne : kl_0 y.1 ≠ kl_0 x.1 := (List.pairwise_cons.1 hd).1 x (by simp)
  match n with
  | 0 => rfl
  | 1 => rfl
  | n + 2 =>
   simp only [zn, z1b]
   rw [ztf hm hne]
 | trans h1 h2 ih1 ih2 => intro n a b c d e f g i m hm; rw [ih1 hd n _ _ _ _ _ _ _ _ m hm, ih2 (hd.perm h1) n _ _ _ _ _ _ _ _ m hm]
theorem zid (φ : Nat) {rem rem' : List (Int × Bool)} (h : rem.Perm rem') (hd : Ndp kl_0 rem) (k20) : ∀ (n : Nat) (a b c d e f g i) (m : List (Int × Bool)), Srt' kl_0 m -> z01 φ k20 n a b c d e f g i m rem = z01 φ k20 n a b c d e f g i m rem' := by
 induction h with
 | nil => intros; rfl
 | cons x h ih =>
  intro n a b c d e f g i m hm
  cases n with
  | zero => rfl
  | succ n => simp only [z01, z1i]; exact ih (List.pairwise_cons.1 hd).2 n _ _ _ _ _ _ _ _ _ (hm.set _ _)
 | swap x y r =>
  intro n a b c d e f g i m hm
  have hne : kl_0 y.1 ≠ kl_0 x.1 := (List.pairwise_cons.1 hd).1 x (by simp)
  match n with
  | 0 => rfl
  | 1 => rfl
  | n + 2 =>
   simp only [z01, z1i]
   rw [ztf hm hne]
 | trans h1 h2 ih1 ih2 => intro n a b c d e f g i m hm; rw [ih1 hd n _ _ _ _ _ _ _ _ m hm, ih2 (hd.perm h1) n _ _ _ _ _ _ _ _ m hm]
end Px
end
section
namespace Px
open Go Go.RowKit
set_option linter.unusedVariables false
set_option linter.unusedSimpArgs false
section
variable {κ ν : Type} {e : κ -> List Int} {num : κ -> Int}
theorem zzm (he : ∀ k, e k = [num k]) {m : List (κ × ν)} (h : Srt' e m) : (m.map fun p => num p.1).Pairwise fun a b => a < b := by
 rw [List.pairwise_map]
 refine List.Pairwise.imp (fun {a b} hab => ?_) h
 rw [he, he] at hab
 simp only [ltI] at hab
 cases hd : decide (num a.1 < num b.1) with
 | true => exact of_decide_eq_true hd
 | false =>
  rw [hd] at hab
  simp only [cond_false] at hab
  cases hb : (num a.1 == num b.1) with
  | true => rw [hb] at hab; simp at hab
  | false => rw [hb] at hab; simp at hab
theorem zyi {ss l : List Int} (hp : ss.Perm l) (hl : l.Pairwise fun a b => a < b) : ss.mergeSort (fun x y => decide (x <= y)) = l := by
 refine List.Perm.eq_of_pairwise (le := fun a b : Int => a <= b) (fun a b _ _ h1 h2 => by omega) ?_ (hl.imp fun h => by omega) ((List.mergeSort_perm _ _).trans hp)
 have := List.pairwise_mergeSort (le := fun x y : Int => decide (x <= y)) (by intro a b c h1 h2; simp at *; omega) (by intro a b; simp; omega) ss
 exact this.imp fun h => by simpa using h
theorem ya4 {P : Program} {kt : TypeId} {eK : κ -> Value} {eV : ν -> Value} {w : World} {b : Nat} {m : List (κ × ν)} (hk : P.underlying kt = some (.int .i64)) (he : ∀ k, e k = [num k]) (hK : ∀ k, eK k = .int .i64 (num k))
  (hin : ∀ p ∈ m, -9223372036854775808 <= num p.1 /\ num p.1 < 9223372036854775808) (hl : m.length <= 17592186044416) (h : CM w b e eK eV m) :
  ∃ D0 : DataW Unit, w.ownsMap P kt (fun _ => some (.lit (.bool false), [])) b m.length D0 /\ Maps.size D0 = m.length /\ (intKeys D0).Perm (m.map fun p => num p.1) := by
 obtain ⟨hs, es, clock, m', h1, h2, h3, h4⟩ := h
 have hlen : es.toList.length = m.length := by
  have := congrArg List.length h4
  simp only [List.length_map] at this
  rw [this, h3.length_eq]
 have hkeys : es.toList.map (·.key) = m'.map fun p => Value.int .i64 (num p.1) := by
  have := congrArg (List.map (·.1)) h4
  simpa [Function.comp_def, hK] using this
 have hmem : ∀ x ∈ es.toList, ∃ n, x.key = .int .i64 n /\ -9223372036854775808 <= n /\ n < 9223372036854775808 := by
  intro x hx
  have : x.key ∈ es.toList.map (·.key) := List.mem_map.2 ⟨x, hx, rfl⟩
  rw [hkeys] at this
  obtain ⟨p, hp, e1⟩ := List.mem_map.1 this
  exact ⟨_, e1.symm, hin p (h3.mem_iff.1 hp)⟩
 have hrd : ∀ n : Int, -9223372036854775808 <= n -> n < 9223372036854775808 -> keyOf P kt (.int .i64 n) = some (.int .i64 n) := by
  intro n ha hb
  have hw : (Lit.int .i64 n).wf = true := by
   simp only [Lit.wf, Bool.and_eq_true, decide_eq_true_eq]
   have e1 : IntKind.i64.min = -9223372036854775808 := rfl
   have e2 : IntKind.i64.max = 9223372036854775807 := rfl
   rw [e1, e2]; omega
  simp [keyOf, hk, mapKey, hw]
 have hrd2 : ∀ x ∈ es.toList, ∀ n, x.key = .int .i64 n -> WideElems.rd P kt (fun _ => some ((.lit (.bool false) : DataW Unit), [])) x = some (.int .i64 n, .lit (.bool false)) := by
  intro x hx n hn
  obtain ⟨n', e1, ha, hb⟩ := hmem x hx
  rw [hn] at e1
  cases e1
  simp [WideElems.rd, hn, hrd n ha hb]
 have hints : es.toList.map (fun x => Go.intOf (WideElems.rg P kt (fun _ => some ((.lit (.bool false) : DataW Unit), [])) x).1) = m'.map fun p => num p.1 := by
  have e1 : es.toList.map (fun x => Go.intOf (WideElems.rg P kt (fun _ => some ((.lit (.bool false) : DataW Unit), [])) x).1) = (es.toList.map (·.key)).map fun v => match v with | .int _ n => n | _ => 0 := by
   rw [List.map_map]
   refine List.map_congr_left fun x hx => ?_
   obtain ⟨n, e1, _⟩ := hmem x hx
   simp only [WideElems.rg, hrd2 x hx n e1, Option.getD_some, Function.comp, e1, Go.intOf]
  rw [e1, hkeys, List.map_map]
  rfl
 refine ⟨.map ((es.toList.map (WideElems.rg P kt fun _ => some (.lit (.bool false), []))).foldr DataW.insert []), ⟨es, clock, h1, ⟨?_, ⟨h2.lt, h2.nd, ?_⟩, fun x hx => ?_⟩, ?_, rfl⟩, ?_, ?_⟩
 ·have : es.size = m.length := by simpa using hlen
  unfold maxLen; omega
 ·rw [hkeys]
  have h5 := zzm (num := num) he hs
  have h6 : (m'.map fun p => num p.1).Nodup := (h3.map (fun p : κ × ν => num p.1)).nodup_iff.2 (List.Pairwise.imp (fun {a b} h => by omega) h5)
  have h7 : (m'.map fun p => Value.int .i64 (num p.1)) = (m'.map fun p => num p.1).map (Value.int .i64) := by rw [List.map_map]; rfl
  rw [h7]
  exact List.pairwise_map.2 (List.Pairwise.imp (fun {a b} h q => h (by cases q; rfl)) h6)
 ·obtain ⟨n, e1, _⟩ := hmem x hx
  exact ⟨_, hrd2 x hx n e1⟩
 ·have : es.size = m.length := by simpa using hlen
  omega
 ·rw [Maps.size_eq, (WideShapes.sorted_perm _).length_eq]
  simpa using hlen
 ·show (List.map (fun p : Lit × DataW Unit => Go.intOf p.1) _).Perm _
  refine ((WideShapes.sorted_perm _).map _).trans ?_
  rw [List.map_map]
  show (es.toList.map (fun x => Go.intOf (WideElems.rg P kt (fun _ => some ((.lit (.bool false) : DataW Unit), [])) x).1)).Perm _
  rw [hints]
  exact h3.map _
end
open Proofs in
theorem yd6 {V : TE} {P : Program} {ρ σ τ : Shelf.Ren} (L : SlLaysZI.n6 P ρ) (K : SlLaysZI.n10 P σ) (S : Lays.n189 P τ) {kc vc E : Nat} (num : V.T kc -> Int) (hl : ∀ k, V.kl kc k = [num k]) (hv : ∀ k, V.kv kc k = .int .i64 (num k)) (hev : ∀ k, V.ev kc k = [iv .i64 (num k)]) (hsz : V.sz kc = 1)
  (h9 : ρ.f 9 = τ.f 189) (h26 : ρ.t 26 = E) (e9 : ∀ args w, (callFunc (ρ.f 9) args).run P w = .ok (.enter (ρ.f 9) args) w) (eg : ∀ args w, (callFunc (σ.f 10) args).run P w = .ok (.enter (σ.f 10) args) w) : SoOK V P (ρ.f 6) ⟨σ.f 10, kc, vc, E⟩ := by
 intro m hm
 simp only [soK, Bool.and_eq_true, List.all_eq_true] at hm
 obtain ⟨hin, hlen⟩ := hm
 have hlen := Nat.le_of_ble_eq_true hlen
 have hin : ∀ p ∈ m, -9223372036854775808 <= num p.1 /\ num p.1 < 9223372036854775808 := by
  intro p hp
  have := hin p hp
  rw [hl] at this
  simpa [inI] using this
 intro r w vs hr hsize hA
 obtain ⟨caps, hfn, hc1, hc2⟩ := hA 0 _ rfl
 obtain ⟨Bm, hcap, hrB, hcell⟩ := hc2 0 _ rfl
 obtain ⟨u, hu, hmap, _⟩ := hcell 0 _ rfl
 have hcaps : caps = #[.pointer (some ⟨Bm, 0, none⟩)] := by
  refine Array.ext (by simpa using hc1) fun i h1 h2 => ?_
  have : i = 0 := by simp at h2; omega
  subst this
  rw [<- hcap]; simp [Array.getD_eq_getD_getElem?, h1]
 subst hcaps
 have hvs : vs = #[.func (.func (σ.f 10)) #[] #[.pointer (some ⟨Bm, 0, none⟩)]] := by
  refine Array.ext (by simpa using hsize) fun i h1 h2 => ?_
  have : i = 0 := by simp at h2; omega
  subst this
  rw [<- hfn]; simp [Array.getD_eq_getD_getElem?, h1]
 subst hvs
 have hBm := hr Bm hrB
 have hsorts : AnyZI.SortsIn P ρ Fence.wide 4 := by
  refine ⟨fun blk off cap ss W hH hb hs => callsIn_wide.2 ?_, fun p cap W => callsIn_wide.2 ?_⟩
  ·rw [h9]; exact Any.slices_Sort_int S blk off cap ss W hH hb hs
  ·rw [h9]; exact Any.slices_Sort_int_none S p cap W
 have fin : ∀ (Sq : List Int -> Prop), (∀ ss, Sq ss -> ss.Perm (m.map fun p => num p.1)) -> (m.map fun p => num p.1).Pairwise (fun a b => a < b) -> SeqGives Fence.wide 2 P (σ.f 10) #[.pointer (some ⟨Bm, 0, none⟩)] encZ Sq m.length w ->
   Calls P (ρ.f 6) #[.func (.func (σ.f 10)) #[] #[.pointer (some ⟨Bm, 0, none⟩)]] w (retR w w.heap.size r w fun x news => ∃ sv, x = eqv sv /\ news = [row E (V.ev kc) (V.sz kc) (m.map (·.1)) sv]) := by
  intro Sq hSq hlt hseq
  have cS := AnyZI.sorted_in L Fence.wide 5 trivial trivial trivial trivial rfl (by omega) hsorts e9 (σ.f 10) #[.pointer (some ⟨Bm, 0, none⟩)] trivial eg Sq m.length (by unfold maxLen; omega) (by omega) w hseq
  refine (callsIn_wide.1 cS).mono ?_
  rintro e w' ⟨v, ss, rfl, hS, hrow, hnil, hb⟩
  have hms := zyi (hSq ss hS) hlt
  have hsl : ss.length = m.length := by rw [(hSq ss hS).length_eq, List.length_map]
  rw [hms] at hrow
  refine ⟨v, eqv v, [row E (V.ev kc) (V.sz kc) (m.map (·.1)) v], r, fun j b => j = 0 /\ v.ownBlock = some b, rfl, ⟨fun _ h => h, fun b hb' => hb.block b (hr b hb'), fun _ h => .inl h⟩, ⟨⟨hb, fun h => (h : False).elim⟩, hb.size, ?_, ?_, ?_, fun b hb' => Nat.lt_of_lt_of_le (hr b hb') hb.size⟩, rfl, v, rfl, rfl⟩
  ·intro i H hi
   cases i with
   | succ i => simp at hi
   | zero =>
    simp only [List.getElem?_cons_zero, Option.some.injEq] at hi
    subst hi
    rcases hrow.2 with ⟨h1, h2⟩ | ⟨g, cap, cur, h1, h2, h3, h4, h5, h6, h7⟩
    ·exact .inl ⟨h1, by rw [List.map_eq_nil_iff]; exact List.length_eq_zero_iff.1 (by omega)⟩
    ·refine .inr ⟨g, cap, cur, ?_, ⟨rfl, by rw [h1]; rfl⟩, ?_, ?_, h5, ?_, ?_⟩
     ·rw [h1, List.length_map, hsl]
     ·rw [<- h26]; exact h3
     ·rw [List.length_map]; omega
     ·rw [hsz]; exact h6
     ·rw [List.length_map, hsz, <- hsl, h7]
      have e1 : (m.map (·.1)).flatMap (V.ev kc) = ((m.map fun p => num p.1).map encZ).map eqv := by
       rw [List.map_map, List.map_map, List.flatMap_map]
       have : ∀ l : List (V.T kc × V.T vc), l.flatMap (fun a => V.ev kc a.1) = l.map ((eqv ∘ encZ) ∘ fun p => num p.1) := by
        intro l
        induction l with
        | nil => rfl
        | cons a l ih => rw [List.flatMap_cons, ih, hev]; rfl
       exact this m
      rw [e1]
      exact zjm fun v hv => by
       obtain ⟨n, _, rfl⟩ := List.mem_map.1 hv
       rfl
  ·rintro i b ⟨rfl, hb'⟩
   rcases hrow.2 with ⟨h1, _⟩ | ⟨g, cap, cur, h1, h2, h3, _⟩
   ·rw [h1] at hb'; cases hb'
   ·rw [h1] at hb'
    cases hb'
    exact ⟨by simp, h2, (Array.getElem?_eq_some_iff.1 h3).1, fun q => Nat.lt_irrefl _ (Nat.lt_of_lt_of_le (hr _ q) h2)⟩
  ·rintro i j b ⟨rfl, _⟩ ⟨rfl, _⟩; rfl
 rcases hmap with ⟨rfl, rfl⟩ | ⟨b, t, rfl, hmt, hrb, hCM, _⟩
 ·refine fin (fun ss => ss = []) (fun ss h => by subst h; exact List.Perm.refl _) List.Pairwise.nil ?_
  exact AnyZI.keys_gives_nil { K with } Fence.wide _ trivial rfl Bm w hBm hu
 ·have hnum : (t.map fun p => num p.1) = m.map fun p => num p.1 := by rw [<- hmt, List.map_map]; rfl
  have htl : t.length = m.length := by rw [<- hmt, List.length_map]
  obtain ⟨D0, h1, h2, h3⟩ := ya4 (num := num) K.t26 hl hv (fun p hp => hin (p.1, p.2.1) (by rw [<- hmt]; exact List.mem_map.2 ⟨p, hp, rfl⟩)) (by omega) hCM
  refine fin (fun ss => ss.Perm (intKeys D0)) (fun ss h => by rw [<- hnum]; exact h.trans h3) (by rw [<- hnum]; exact zzm hl hCM.1) ?_
  have := AnyZI.keys_gives { K with } Fence.wide 2 trivial rfl (by omega) Bm b _ D0 w hBm hu h1
  rw [h2, htl] at this
  exact this
end Px
end
section
set_option linter.unusedVariables false
set_option linter.unusedSimpArgs false
set_option maxHeartbeats 4000000
set_option maxRecDepth 100000
namespace Px
open Go Go.RowKit Go.Proofs
def zcm (φ : Nat) : H TV (RTup TT [.val 2]) := .x
def zft (P : Program) (φ : Nat) : Env TV := ⟨P, lk [], lk [], lk [], lk []⟩
theorem zs4 (φ : Nat) (a) : (z9i φ).F a = fnX TV (zft Tryz.prog φ) φ Tryz.f26 [0, 1] [.val 2] (zcm φ) a := by kernel_rfl
theorem zst (φ : Nat) : fnO TV (zft Tryz.prog φ) φ Tryz.f26 [.val 2] (zcm φ) := by
 unfold fnO
 show obl _ _ _ _ _ _ _
 unfold zcm
 repeat' (first | exact trivial | (refine ⟨?_, ?_⟩) | (intro _) | kernel_rfl)
theorem zg8 [Dr] (φ : Nat) : z1k TV Tryz.prog 26 (z9i φ) :=
 z2r (N := zft Tryz.prog φ) (zk trivial trivial trivial trivial) (zcm φ) Tryz.func26 (by kernel_rfl) (zs4 φ) (zst φ)
def z6y (φ : Nat) : H TV (RTup TT [.val 7]) := .x
def za9 (P : Program) (φ : Nat) : Env TV := ⟨P, lk [], lk [], lk [], lk []⟩
theorem zm1 (φ : Nat) (a) : (z6u φ).F a = fnX TV (za9 Tryz.prog φ) φ Tryz.f25 [0, 0, 0, 2] [.val 7] (z6y φ) a := by kernel_rfl
theorem zm5 (φ : Nat) : fnO TV (za9 Tryz.prog φ) φ Tryz.f25 [.val 7] (z6y φ) := by
 unfold fnO
 show obl _ _ _ _ _ _ _
 unfold z6y
 repeat' (first | exact trivial | (refine ⟨?_, ?_⟩) | (intro _) | kernel_rfl)
theorem zen [Dr] (φ : Nat) : z1k TV Tryz.prog 25 (z6u φ) :=
 z2r (N := za9 Tryz.prog φ) (zk trivial trivial trivial trivial) (z6y φ) Tryz.func25 (by kernel_rfl) (zm1 φ) (zm5 φ)
def z0o (φ : Nat) : H TV (List (TT 7)) := (.seq .x (.body (.loop ⟨[(53, [(0, .own 0), (1, .val 0), (2, .val 0), (3, .cmp 7), (8, .val 0)]), (1, [(0, .own 0)])], [.row 57 7]⟩ (fun n z => z1t φ n z.1 z.2.1 z.2.2.1 z.2.2.2.1 z.2.2.2.2.1) (fun zk10 => (.seq .x (.seq (.body (.seq .x (.body (.loop ⟨[(53, [(0, .own 0), (1, .val 0), (2, .val 0), (3, .cmp 7), (8, .val 0), (9, .val 0)]), (1, [(0, .own 0)])], [.row 57 7]⟩ (fun n z => z1s φ (fun a0 a1 a2 a3 a4 => zk10 (a0, a1, a2, a3, a4, ())) n z.1 z.2.1 z.2.2.1 z.2.2.2.1 z.2.2.2.2.1 z.2.2.2.2.2.1) (fun zk17 => .x))))) .x))))))
def z2v (P : Program) (φ : Nat) : Env TV := ⟨P, lk [], lk [], lk [], lk []⟩
theorem za4 (φ : Nat) (l a) : (z30 φ).F l a = fnM TV (z2v Tryz.prog φ) φ Tryz.f114 57 7 [.val 0, .val 0, .cmp 7] (z0o φ) l a := by kernel_rfl
theorem zah (φ : Nat) : fnMO TV (z2v Tryz.prog φ) φ Tryz.f114 57 7 (z0o φ) := by
 unfold fnMO
 show obl _ _ _ _ _ _ _
 unfold z0o
 repeat' (first | exact trivial | (refine ⟨?_, ?_⟩) | (intro _) | kernel_rfl)
theorem za6 [Dr] (φ : Nat) : zbw TV Tryz.prog 114 (z30 φ) := z8o (N := z2v Tryz.prog φ) (zk trivial trivial trivial trivial) (z0o φ) Tryz.func114 (by kernel_rfl) (za4 φ) (zah φ)
def z2b (φ : Nat) : H TV (List (TT 7)) := (.seq .x (.body (.loop ⟨[(38, [(0, .own 0), (1, .val 0), (2, .val 0), (3, .val 0), (10, .val 0)]), (1, [(0, .own 0)])], [.row 57 7]⟩ (fun n z => z3s φ n z.1 z.2.1 z.2.2.1 z.2.2.2.1 z.2.2.2.2.1) (fun zk11 => .x))))
def z4j (P : Program) (φ : Nat) : Env TV := ⟨P, lk [], lk [], lk [], lk []⟩
theorem zcr (φ : Nat) (l a) : (z4l φ).F l a = fnM TV (z4j Tryz.prog φ) φ Tryz.f173 57 7 [.val 0, .val 0, .val 0, .cmp 7] (z2b φ) l a := by kernel_rfl
theorem zdf (φ : Nat) : fnMO TV (z4j Tryz.prog φ) φ Tryz.f173 57 7 (z2b φ) := by
 unfold fnMO
 show obl _ _ _ _ _ _ _
 unfold z2b
 repeat' (first | exact trivial | (refine ⟨?_, ?_⟩) | (intro _) | kernel_rfl)
theorem zcv [Dr] (φ : Nat) : zbw TV Tryz.prog 173 (z4l φ) := z8o (N := z4j Tryz.prog φ) (zk trivial trivial trivial trivial) (z2b φ) Tryz.func173 (by kernel_rfl) (zcr φ) (zdf φ)
def z3t (φ : Nat) : H TV (List (TT 7)) := (.seq .x (.seq .x (.seq (.body (.loop ⟨[(58, [(0, .own 0), (2, .val 0), (4, .cmp 7), (10, .val 0), (11, .val 0)]), (1, [(0, .own 0)])], [.row 57 7]⟩ (fun n z => z2u φ n z.1 z.2.1 z.2.2.1 z.2.2.2.1 z.2.2.2.2.1) (fun zk11 => .x))) .x)))
def z5j (P : Program) (φ : Nat) : Env TV := ⟨P, lk [], lk [(173, z4l φ)], lk [], lk []⟩
theorem zes (φ : Nat) (l a) : (z5k φ).F l a = fnM TV (z5j Tryz.prog φ) φ Tryz.f155 57 7 [.val 0, .val 0, .val 0, .cmp 7] (z3t φ) l a := by kernel_rfl
theorem zet (φ : Nat) : fnMO TV (z5j Tryz.prog φ) φ Tryz.f155 57 7 (z3t φ) := by
 unfold fnMO
 show obl _ _ _ _ _ _ _
 unfold z3t
 repeat' (first | exact trivial | (refine ⟨?_, ?_⟩) | (intro _) | kernel_rfl)
theorem zey [Dr] (φ : Nat) : zbw TV Tryz.prog 155 (z5k φ) := z8o (N := z5j Tryz.prog φ) (zk trivial ⟨(zcv φ), trivial⟩ trivial trivial) (z3t φ) Tryz.func155 (by kernel_rfl) (zes φ) (zet φ)
def z2s (φ d : Nat) : H TV (List (TT 7)) := (.seq (.seq .x (.cond (.seq .x (.seq .x (.seq (.body (.loop ⟨[(220, [(0, .own 0), (1, .val 0), (4, .cmp 7), (10, .val 0), (11, .val 0)]), (1, [(0, .own 0)])], [.row 57 7]⟩ (fun n z => z1n φ n z.1 z.2.1 z.2.2.1 z.2.2.2.1 z.2.2.2.2.1) (fun zk11 => .x))) (.seq (.seq .x (.body (.loop ⟨[(220, [(0, .own 0), (10, .val 0), (13, .val 0)]), (1, [(0, .own 0)])], [.row 57 7]⟩ (fun n z => z42 φ n z.1 z.2.1 z.2.2.1) (fun zk16 => .x)))) .x)))) .x)) (.seq (.seq .x (.cond (.seq .x (.seq .x (.seq (.body (.loop ⟨[(220, [(0, .own 0), (2, .val 0), (4, .cmp 7), (14, .val 0), (15, .val 0)]), (1, [(0, .own 0)])], [.row 57 7]⟩ (fun n z => z1l φ n z.1 z.2.1 z.2.2.1 z.2.2.2.1 z.2.2.2.2.1) (fun zk22 => .x))) (.seq (.seq .x (.body (.loop ⟨[(220, [(0, .own 0), (14, .val 0), (17, .val 0)]), (1, [(0, .own 0)])], [.row 57 7]⟩ (fun n z => z48 φ n z.1 z.2.1 z.2.2.1) (fun zk27 => .x)))) .x)))) .x)) (.seq .x (.seq .x (.seq .x (.seq (.join ⟨[(220, [(0, .own 0), (1, .val 0), (2, .val 0), (3, .val 0), (4, .cmp 7), (18, .val 0), (19, .val 0), (20, .val 0), (21, .val 0)]), (1, [(0, .own 0)])], [.row 57 7]⟩ (fun z => z40 φ (zp φ d) z.1 z.2.1 z.2.2.1 z.2.2.2.1 z.2.2.2.2.1 z.2.2.2.2.2.1 z.2.2.2.2.2.2.1 z.2.2.2.2.2.2.2.1 z.2.2.2.2.2.2.2.2.1) (.seq .x .x)) (.seq .x (.seq (.body (.loop ⟨[(220, [(0, .own 0), (1, .val 0), (2, .val 0), (3, .val 0), (4, .cmp 7), (18, .val 0), (19, .val 0), (20, .val 0), (21, .val 0), (22, .val 0)]), (1, [(0, .own 0)])], [.row 57 7]⟩ (fun n z => z1q φ (zp φ d) n z.1 z.2.1 z.2.2.1 z.2.2.2.1 z.2.2.2.2.1 z.2.2.2.2.2.1 z.2.2.2.2.2.2.1 z.2.2.2.2.2.2.2.1 z.2.2.2.2.2.2.2.2.1 z.2.2.2.2.2.2.2.2.2.1) (fun zk48 => .x))) (.seq .x (.seq (.join ⟨[(220, [(0, .own 0), (1, .val 0), (3, .val 0), (4, .cmp 7), (18, .val 0), (20, .val 0), (24, .val 0)]), (1, [(0, .own 0)])], [.row 57 7]⟩ (fun z => z43 φ (zp φ d) z.1 z.2.1 z.2.2.1 z.2.2.2.1 z.2.2.2.2.1 z.2.2.2.2.2.1 z.2.2.2.2.2.2.1) (.seq .x .x)) (.seq (.join ⟨[(220, [(0, .own 0), (3, .val 0), (4, .cmp 7), (18, .val 0), (24, .val 0)]), (1, [(0, .own 0)])], [.row 57 7]⟩ (fun z => z3w φ (zp φ d) z.1 z.2.1 z.2.2.1 z.2.2.2.1 z.2.2.2.2.1) (.seq .x .x)) .x)))))))))))
def z4x (P : Program) (φ d : Nat) : Env TV := ⟨P, lk [], lk [(155, z5k φ), (115, z2t φ d)], lk [], lk []⟩
theorem zdo (φ d : Nat) (l a) : (z2t φ (d + 1)).F l a = fnM TV (z4x Tryz.prog φ d) φ Tryz.f115 57 7 [.val 0, .val 0, .val 0, .cmp 7] (z2s φ d) l a := by kernel_rfl
theorem zdj (φ d : Nat) : fnMO TV (z4x Tryz.prog φ d) φ Tryz.f115 57 7 (z2s φ d) := by
 unfold fnMO
 show obl _ _ _ _ _ _ _
 unfold z2s
 repeat' (first | exact trivial | (refine ⟨?_, ?_⟩) | (intro _) | kernel_rfl)
theorem z7n [Dr] (φ : Nat) : ∀ d, zbw TV Tryz.prog 115 (z2t φ d)
 | 0 => fun l a l2 sv h => absurd (show (none : Option (List (TT 7))) = some l2 from h) (fun q => by cases q)
 | d + 1 => z8o (N := z4x Tryz.prog φ d) (zk trivial ⟨(zey φ), (z7n φ d), trivial⟩ trivial trivial) (z2s φ d) Tryz.func115 (by kernel_rfl) (zdo φ d) (zdj φ d)
def z3u (φ : Nat) : H TV (List (TT 7)) := (.seq .x (.seq .x (.seq (.body (.loop ⟨[(63, [(0, .own 0), (1, .val 0), (2, .cmp 7), (6, .val 0), (7, .val 0), (8, .val 0)]), (1, [(0, .own 0)])], [.row 57 7]⟩ (fun n z => z4q φ n z.1 z.2.1 z.2.2.1 z.2.2.2.1 z.2.2.2.2.1 z.2.2.2.2.2.1) (fun zk10 => .x))) (.seq .x (.body (.loop ⟨[(63, [(0, .own 0), (1, .val 0), (2, .cmp 7), (6, .val 0)]), (1, [(0, .own 0)])], [.row 57 7]⟩ (fun n z => z4s φ n z.1 z.2.1 z.2.2.1 z.2.2.2.1) (fun zk17 => (.seq .x (.body (.seq .x (.seq (.body (.loop ⟨[(63, [(0, .own 0), (1, .val 0), (2, .cmp 7), (6, .val 0), (7, .val 0), (8, .val 0)]), (1, [(0, .own 0)])], [.row 57 7]⟩ (fun n z => z4t φ (fun a0 a1 a2 a3 => zk17 (a0, a1, a2, a3, ())) n z.1 z.2.1 z.2.2.1 z.2.2.2.1 z.2.2.2.2.1 z.2.2.2.2.2.1) (fun zk24 => .x))) .x)))))))))))
def z5g (P : Program) (φ : Nat) : Env TV := ⟨P, lk [], lk [(114, z30 φ), (115, z2t φ φ)], lk [], lk []⟩
theorem zex (φ : Nat) (l a) : (z5l φ).F l a = fnM TV (z5g Tryz.prog φ) φ Tryz.f79 57 7 [.val 0, .cmp 7] (z3u φ) l a := by kernel_rfl
theorem zer (φ : Nat) : fnMO TV (z5g Tryz.prog φ) φ Tryz.f79 57 7 (z3u φ) := by
 unfold fnMO
 show obl _ _ _ _ _ _ _
 unfold z3u
 repeat' (first | exact trivial | (refine ⟨?_, ?_⟩) | (intro _) | kernel_rfl)
theorem zeu [Dr] (φ : Nat) : zbw TV Tryz.prog 79 (z5l φ) := z8o (N := z5g Tryz.prog φ) (zk trivial ⟨(za6 φ), (z7n φ φ), trivial⟩ trivial trivial) (z3u φ) Tryz.func79 (by kernel_rfl) (zex φ) (zer φ)
def z36 (φ : Nat) : H TV (List (TT 7)) := .x
def z58 (P : Program) (φ : Nat) : Env TV := ⟨P, lk [], lk [(79, z5l φ)], lk [], lk []⟩
theorem ze3 (φ : Nat) (l a) : (z3g φ).F l a = fnM TV (z58 Tryz.prog φ) φ Tryz.f52 57 7 [.cmp 7] (z36 φ) l a := by kernel_rfl
theorem ze7 (φ : Nat) : fnMO TV (z58 Tryz.prog φ) φ Tryz.f52 57 7 (z36 φ) := by
 unfold fnMO
 show obl _ _ _ _ _ _ _
 unfold z36
 repeat' (first | exact trivial | (refine ⟨?_, ?_⟩) | (intro _) | kernel_rfl)
theorem z8f [Dr] (φ : Nat) : zbw TV Tryz.prog 52 (z3g φ) := z8o (N := z58 Tryz.prog φ) (zk trivial ⟨(zeu φ), trivial⟩ trivial trivial) (z36 φ) Tryz.func52 (by kernel_rfl) (ze3 φ) (ze7 φ)
def zay (φ : Nat) : H TV (RTup TT [.val 0]) := .x
def zdy (P : Program) (φ : Nat) : Env TV := ⟨P, lk [], lk [], lk [], lk []⟩
theorem zra (φ : Nat) (a) : (z34 φ).F a = fnX TV (zdy Tryz.prog φ) φ Tryz.f40 [0, 0] [.val 0] (zay φ) a := by kernel_rfl
theorem zpv (φ : Nat) : fnO TV (zdy Tryz.prog φ) φ Tryz.f40 [.val 0] (zay φ) := by
 unfold fnO
 show obl _ _ _ _ _ _ _
 unfold zay
 repeat' (first | exact trivial | (refine ⟨?_, ?_⟩) | (intro _) | kernel_rfl)
theorem z56 [Dr] (φ : Nat) : z1k TV Tryz.prog 40 (z34 φ) :=
 z2r (N := zdy Tryz.prog φ) (zk trivial trivial trivial trivial) (zay φ) Tryz.func40 (by kernel_rfl) (zra φ) (zpv φ)
def zmh (φ : Nat) : H TV (RTup TT [.val 0]) := (.seq .x (.seq .x (.seq (.seq .x (.body (.loop ⟨[(18, [(3, .val 0), (6, .val 8), (7, .val 0), (8, .val 0)])], []⟩ (fun n z => zif φ n z.1 z.2.1 z.2.2.1 z.2.2.2.1) (fun zk6 => .x)))) .x)))
def zq1 (P : Program) (φ : Nat) : Env TV := ⟨P, lk [], lk [], lk [], lk []⟩
theorem y5l (φ : Nat) (a) : (zav φ).F a = fnX TV (zq1 Tryz.prog φ) φ Tryz.f39 [8] [.val 0] (zmh φ) a := by kernel_rfl
theorem y3r (φ : Nat) : fnO TV (zq1 Tryz.prog φ) φ Tryz.f39 [.val 0] (zmh φ) := by
 unfold fnO
 show obl _ _ _ _ _ _ _
 unfold zmh
 repeat' (first | exact trivial | (refine ⟨?_, ?_⟩) | (intro _) | kernel_rfl)
theorem zdr [Dr] (φ : Nat) : z1k TV Tryz.prog 39 (zav φ) :=
 z2r (N := zq1 Tryz.prog φ) (zk trivial trivial trivial trivial) (zmh φ) Tryz.func39 (by kernel_rfl) (y5l φ) (y3r φ)
def z96 (φ : Nat) : H TV (RTup TT [.val 0]) := .x
def zd7 (P : Program) (φ : Nat) : Env TV := ⟨P, lk [(40, z34 φ), (39, zav φ)], lk [], lk [], lk []⟩
theorem zoq (φ : Nat) (a) : (z99 φ).F a = fnX TV (zd7 Tryz.prog φ) φ Tryz.f53 [7, 7] [.val 0] (z96 φ) a := by kernel_rfl
theorem zof (φ : Nat) : fnO TV (zd7 Tryz.prog φ) φ Tryz.f53 [.val 0] (z96 φ) := by
 unfold fnO
 show obl _ _ _ _ _ _ _
 unfold z96
 repeat' (first | exact trivial | (refine ⟨?_, ?_⟩) | (intro _) | kernel_rfl)
theorem zh5 [Dr] (φ : Nat) : z1k TV Tryz.prog 53 (z99 φ) :=
 z2r (N := zd7 Tryz.prog φ) (zk ⟨z56 φ, zdr φ, trivial⟩ trivial trivial trivial) (z96 φ) Tryz.func53 (by kernel_rfl) (zoq φ) (zof φ)
def z5c (φ : Nat) : H TV (RTup TT [.val 0]) := .x
def z7a (P : Program) (φ : Nat) : Env TV := ⟨P, lk [(40, z34 φ), (53, z99 φ), (39, zav φ)], lk [], lk [], lk []⟩
theorem zhy (φ : Nat) (a) : (z7b φ).F a = fnX TV (z7a Tryz.prog φ) φ Tryz.f63 [7, 7] [.val 0] (z5c φ) a := by kernel_rfl
theorem zhh (φ : Nat) : fnO TV (z7a Tryz.prog φ) φ Tryz.f63 [.val 0] (z5c φ) := by
 unfold fnO
 show obl _ _ _ _ _ _ _
 unfold z5c
 repeat' (first | exact trivial | (refine ⟨?_, ?_⟩) | (intro _) | kernel_rfl)
theorem zho [Dr] (φ : Nat) : z1k TV Tryz.prog 63 (z7b φ) :=
 z2r (N := z7a Tryz.prog φ) (zk ⟨z56 φ, zh5 φ, zdr φ, trivial⟩ trivial trivial trivial) (z5c φ) Tryz.func63 (by kernel_rfl) (zhy φ) (zhh φ)
def zdv (φ : Nat) : H TV (RTup TT [.val 9]) := .x
def zi4 (P : Program) (φ : Nat) : Env TV := ⟨P, lk [], lk [], lk [], lk []⟩
theorem zva (φ : Nat) (a) : (z7l φ).F a = fnX TV (zi4 Tryz.prog φ) φ Tryz.f47 [2] [.val 9] (zdv φ) a := by kernel_rfl
theorem zuv (φ : Nat) : fnO TV (zi4 Tryz.prog φ) φ Tryz.f47 [.val 9] (zdv φ) := by
 unfold fnO
 show obl _ _ _ _ _ _ _
 unfold zdv
 repeat' (first | exact trivial | (refine ⟨?_, ?_⟩) | (intro _) | kernel_rfl)
theorem zb2 [Dr] (φ : Nat) : z1k TV Tryz.prog 47 (z7l φ) :=
 z2r (N := zi4 Tryz.prog φ) (zk trivial trivial trivial trivial) (zdv φ) Tryz.func47 (by kernel_rfl) (zva φ) (zuv φ)
def z6c (φ : Nat) : H TV (RTup TT [.val 12]) := (.seq .x (.seq .x (.seq (.seq .x (.body (.loop ⟨[(80, [(1, .val 0), (5, .own 0), (14, .val 10), (15, .val 0), (16, .val 0)])], [.row 57 7]⟩ (fun n z => z1a φ n z.1 z.2.1 z.2.2.1 z.2.2.2.1 z.2.2.2.2.1) (fun zk8 => .x)))) (.seq .x (.seq .x (.seq (.seq .x (.body (.loop ⟨[(80, [(8, .own 0), (39, .own 1), (40, .val 0), (41, .val 0)])], [.map 9 11 0, .row 57 7]⟩ (fun n z => z09 φ n z.1 z.2.1 z.2.2.1 z.2.2.2.1) (fun zk14 => (.seq .x (.seq .x (.seq (.body (.seq .x (.seq .x (.body (.loop ⟨[(80, [(8, .own 0), (10, .ptr 1 0), (39, .own 2), (40, .val 0), (41, .val 0), (47, .val 5), (48, .val 0), (49, .val 0)])], [.map 9 11 0, .box 57 [.val 7], .row 57 7]⟩ (fun n z => zo φ (fun a0 a1 a2 a3 => zk14 (a0, a1, a2, a3, ())) n z.1 z.2.1 z.2.2.1 z.2.2.2.1 z.2.2.2.2.1 z.2.2.2.2.2.1 z.2.2.2.2.2.2.1 z.2.2.2.2.2.2.2.1) (fun zk23 => (.seq .x (.seq .x (.seq (.body (.seq .x (.seq .x (.seq (.seq .x (.cond (.seq (.foc (8, none) (54, none) .x) .x) .x)) (.seq (.seq (.foc (8, none) (54, none) .x) .x) .x))))) .x))))))))) .x))))))) .x))))))
def z8v (P : Program) (φ : Nat) : Env TV := ⟨P, lk [(63, z7b φ), (47, z7l φ)], lk [(52, z3g φ)], lk [], lk []⟩
theorem zjn (φ : Nat) (a) : (z1z φ).F a = fnX TV (z8v Tryz.prog φ) φ Tryz.f35 [10, 0] [.val 12] (z6c φ) a := by kernel_rfl
theorem zjk (φ : Nat) : fnO TV (z8v Tryz.prog φ) φ Tryz.f35 [.val 12] (z6c φ) := by
 unfold fnO
 show obl _ _ _ _ _ _ _
 unfold z6c
 repeat' (first | exact trivial | (refine ⟨?_, ?_⟩) | (intro _) | kernel_rfl)
theorem z4v [Dr] (φ : Nat) : z1k TV Tryz.prog 35 (z1z φ) :=
 z2r (N := z8v Tryz.prog φ) (zk ⟨zho φ, zb2 φ, trivial⟩ ⟨(z8f φ), trivial⟩ trivial trivial) (z6c φ) Tryz.func35 (by kernel_rfl) (zjn φ) (zjk φ)
def z37 (φ : Nat) : H TV (RTup TT [.val 2]) := .x
def z4z (P : Program) (φ : Nat) : Env TV := ⟨P, lk [], lk [], lk [], lk []⟩
theorem zdq (φ : Nat) (a) : (z1e φ).F a = fnX TV (z4z Tryz.prog φ) φ Tryz.f36 [9] [.val 2] (z37 φ) a := by kernel_rfl
theorem zed (φ : Nat) : fnO TV (z4z Tryz.prog φ) φ Tryz.f36 [.val 2] (z37 φ) := by
 unfold fnO
 show obl _ _ _ _ _ _ _
 unfold z37
 repeat' (first | exact trivial | (refine ⟨?_, ?_⟩) | (intro _) | kernel_rfl)
theorem z52 [Dr] (φ : Nat) : z1k TV Tryz.prog 36 (z1e φ) :=
 z2r (N := z4z Tryz.prog φ) (zk trivial trivial trivial trivial) (z37 φ) Tryz.func36 (by kernel_rfl) (zdq φ) (zed φ)
theorem zvw : SoOK TV Tryz.prog 44 ⟨72, 0, 1, 3⟩ :=
 yd6 (V := TV) (ρ := Tryz.sortedK_ren) (σ := Tryz.keysK_ren) (τ := Tryz.lays189_ren) Tryz.sortedK Tryz.keysK Tryz.lays189 (kc := 0) (vc := 1) (E := 3) (fun n : Int => n) (fun _ => rfl) (fun _ => rfl) (fun _ => rfl) (by kernel_rfl) rfl rfl (enters_of Tryz.func71 (by kernel_rfl) rfl) (enters_of Tryz.func72 (by kernel_rfl) rfl)
def z6a (φ : Nat) : H TV (RTup TT [.val 14]) := (.seq .x (.seq .x (.seq .x (.seq (.seq .x (.body (.loop ⟨[(41, [(8, .own 0), (9, .ptr 1 0), (10, .val 11), (23, .own 2), (24, .val 0), (25, .val 0)])], [.row 73 13, .box 88 [.val 9], .row 3 0]⟩ (fun n z => z1x φ n z.1 z.2.1 z.2.2.1 z.2.2.2.1 z.2.2.2.2.1 z.2.2.2.2.2.1) (fun zk12 => .x)))) .x))))
def z90 (P : Program) (φ : Nat) : Env TV := ⟨P, lk [(35, z1z φ), (36, z1e φ)], lk [], lk [], lk [(44, ⟨72, 0, 1, 3⟩)]⟩
theorem zkg (φ : Nat) (a) : (z8w φ).F a = fnX TV (z90 Tryz.prog φ) φ Tryz.f16 [10, 0, 0, 0] [.val 14] (z6a φ) a := by kernel_rfl
theorem zjo (φ : Nat) : fnO TV (z90 Tryz.prog φ) φ Tryz.f16 [.val 14] (z6a φ) := by
 unfold fnO
 show obl _ _ _ _ _ _ _
 unfold z6a
 repeat' (first | exact trivial | (refine ⟨?_, ?_⟩) | (intro _) | kernel_rfl)
theorem zjl (φ : Nat) : z1k TV Tryz.prog 16 (z8w φ) :=
 z2r (N := z90 Tryz.prog φ) (zk ⟨z4v φ, z52 φ, trivial⟩ trivial trivial ⟨zvw, trivial⟩) (z6a φ) Tryz.func16 (by kernel_rfl) (zkg φ) (zjo φ)
def z5b (φ : Nat) : H TV (RTup TT [.row 73 13]) := (.seq .x (.seq .x (.seq .x (.seq (.seq .x (.body (.loop ⟨[(41, [(8, .own 0), (9, .ptr 1 0), (10, .val 11), (23, .own 2), (24, .val 0), (25, .val 0)])], [.row 73 13, .box 88 [.val 9], .row 3 0]⟩ (fun n z => z5w φ n z.1 z.2.1 z.2.2.1 z.2.2.2.1 z.2.2.2.2.1 z.2.2.2.2.2.1) (fun zk12 => .x)))) .x))))
def z79 (P : Program) (φ : Nat) : Env TV := ⟨P, lk [(35, z1z φ), (36, z1e φ)], lk [], lk [], lk [(44, ⟨72, 0, 1, 3⟩)]⟩
theorem zhf (φ : Nat) (a) : (z7j φ).F a = fnX TV (z79 Tryz.prog φ) φ Tryz.f16 [10, 0, 0, 0] [.row 73 13] (z5b φ) a := by kernel_rfl
theorem zhr (φ : Nat) : fnO TV (z79 Tryz.prog φ) φ Tryz.f16 [.row 73 13] (z5b φ) := by
 unfold fnO
 show obl _ _ _ _ _ _ _
 unfold z5b
 repeat' (first | exact trivial | (refine ⟨?_, ?_⟩) | (intro _) | kernel_rfl)
theorem zhj (φ : Nat) : z1k TV Tryz.prog 16 (z7j φ) :=
 z2r (N := z79 Tryz.prog φ) (zk ⟨z4v φ, z52 φ, trivial⟩ trivial trivial ⟨zvw, trivial⟩) (z5b φ) Tryz.func16 (by kernel_rfl) (zhf φ) (zhr φ)
def z8i (φ : Nat) : H TV (RTup TT [.val 13]) := .x
def zb3 (P : Program) (φ : Nat) : Env TV := ⟨P, lk [(26, z9i φ)], lk [], lk [], lk []⟩
theorem zn8 (φ : Nat) (a) : (zbf φ).F a = fnX TV (zb3 Tryz.prog φ) φ Tryz.f33 [0, 1] [.val 13] (z8i φ) a := by kernel_rfl
theorem zmq (φ : Nat) : fnO TV (zb3 Tryz.prog φ) φ Tryz.f33 [.val 13] (z8i φ) := by
 unfold fnO
 show obl _ _ _ _ _ _ _
 unfold z8i
 repeat' (first | exact trivial | (refine ⟨?_, ?_⟩) | (intro _) | kernel_rfl)
theorem zn5 [Dr] (φ : Nat) : z1k TV Tryz.prog 33 (zbf φ) :=
 z2r (N := zb3 Tryz.prog φ) (zk ⟨zg8 φ, trivial⟩ trivial trivial trivial) (z8i φ) Tryz.func33 (by kernel_rfl) (zn8 φ) (zmq φ)
def z4p (φ : Nat) : H TV (RTup TT [.val 1]) := (.seq .x (.seq .x (.seq (.seq .x (.body (.loop ⟨[(26, [(0, .val 14), (1, .val 14), (5, .val 0)])], []⟩ (fun n z => z61 φ n z.1 z.2.1 z.2.2.1) (fun zk6 => .x)))) .x)))
def z6k (P : Program) (φ : Nat) : Env TV := ⟨P, lk [], lk [], lk [], lk []⟩
theorem zgs (φ : Nat) (a) : (z6h φ).F a = fnX TV (z6k Tryz.prog φ) φ Tryz.f15 [14, 14] [.val 1] (z4p φ) a := by kernel_rfl
theorem zgt (φ : Nat) : fnO TV (z6k Tryz.prog φ) φ Tryz.f15 [.val 1] (z4p φ) := by
 unfold fnO
 show obl _ _ _ _ _ _ _
 unfold z4p
 repeat' (first | exact trivial | (refine ⟨?_, ?_⟩) | (intro _) | kernel_rfl)
theorem zgu [Dr] (φ : Nat) : z1k TV Tryz.prog 15 (z6h φ) :=
 z2r (N := z6k Tryz.prog φ) (zk trivial trivial trivial trivial) (z4p φ) Tryz.func15 (by kernel_rfl) (zgs φ) (zgt φ)
def z64 (φ : Nat) : H TV (RTup TT [.val 0]) := .x
def z8z (P : Program) (φ : Nat) : Env TV := ⟨P, lk [(40, z34 φ), (39, zav φ)], lk [], lk [], lk []⟩
theorem zjx (φ : Nat) (a) : (z95 φ).F a = fnX TV (z8z Tryz.prog φ) φ Tryz.f38 [2, 2] [.val 0] (z64 φ) a := by kernel_rfl
theorem zk0 (φ : Nat) : fnO TV (z8z Tryz.prog φ) φ Tryz.f38 [.val 0] (z64 φ) := by
 unfold fnO
 show obl _ _ _ _ _ _ _
 unfold z64
 repeat' (first | exact trivial | (refine ⟨?_, ?_⟩) | (intro _) | kernel_rfl)
theorem zdn [Dr] (φ : Nat) : z1k TV Tryz.prog 38 (z95 φ) :=
 z2r (N := z8z Tryz.prog φ) (zk ⟨z56 φ, zdr φ, trivial⟩ trivial trivial trivial) (z64 φ) Tryz.func38 (by kernel_rfl) (zjx φ) (zk0 φ)
def zp8 : Msp TV := ⟨24, 2, [.fn 38], fun l _ => zm9 l⟩
theorem zya [Dr] : zbw TV Tryz.prog 37 zp8 :=
 zyq (V := TV) (c := 2) (ρ := Tryz.sortEv_ren) Tryz.sortEv Tryz.isAgg24 (by rw [show TV.sz 2 = 3 by kernel_rfl]; exact Tryz.sizeOf24) (by kernel_rfl) (by kernel_rfl) ⟨Tryz.f38, Tryz.func38, by kernel_rfl, by kernel_rfl⟩ zxf fun a b ha hb =>
  @ze2.mono ⟨True⟩ _ _ _ _ _ (@zdn ⟨True⟩ 10 (a, b, ()) (zix a b, ()) (zub a b)) fun x news ⟨B, hB, h1, h2⟩ => by
   cases B with
   | nil => exact ⟨h1, h2⟩
   | cons y B => cases hB
theorem zo9 (φ : Nat) (z z' : Sh.Z TT (⟨[(34, [(1, .val 0), (6, .own 0), (12, .own 1)])], [.row 24 2, .it 9 11]⟩ : Sh)) (h : Sh.eqZ TT (⟨[(34, [(1, .val 0), (6, .own 0), (12, .own 1)])], [.row 24 2, .it 9 11]⟩ : Sh) z z') (hok : ∀ o ∈ (Sh.enc TV (⟨[(34, [(1, .val 0), (6, .own 0), (12, .own 1)])], [.row 24 2, .it 9 11]⟩ : Sh) z).ob, okO TV o) : ∀ n, z0a φ (zm φ n) z'.1 z'.2.1 z'.2.2.1 = z0a φ (zm φ n) z.1 z.2.1 z.2.2.1 := by
 obtain ⟨a, b, c, u⟩ := z
 obtain ⟨a', b', c', u'⟩ := z'
 have h : a = a' /\ b = b' /\ c.Perm c' /\ True := h
 obtain ⟨rfl, rfl, hp, _⟩ := h
 exact fun n => (zos φ hp (n + 1) a b).symm
def z84 (φ : Nat) : H TV (RTup TT [.val 5]) := (.seq .x (.seq (.seq .x (.body (.loop ⟨[(34, [(1, .val 0), (6, .own 0), (12, .own 1)])], [.row 24 2, .it 9 11]⟩ (fun n z => zm φ n z.1 z.2.1 z.2.2.1) (fun zk8 => (.seq (.pk ⟨[(34, [(1, .val 0), (6, .own 0), (12, .own 1)])], [.row 24 2, .it 9 11]⟩ (fun z => z0a φ (fun a0 a1 a2 => zk8 (a0, a1, a2, ())) z.1 z.2.1 z.2.2.1)) .x))))) .x))
def zb4 (P : Program) (φ : Nat) : Env TV := ⟨P, lk [(35, z1z φ), (36, z1e φ), (38, z95 φ)], lk [(37, zp8)], lk [], lk []⟩
theorem znd (φ : Nat) (a) : (zby φ).F a = fnX TV (zb4 Tryz.prog φ) φ Tryz.f13 [10, 0, 0] [.val 5] (z84 φ) a := by kernel_rfl
theorem znk (φ : Nat) : fnO TV (zb4 Tryz.prog φ) φ Tryz.f13 [.val 5] (z84 φ) := by
 unfold fnO
 show obl _ _ _ _ _ _ _
 unfold z84
 repeat' (first | exact trivial | (refine ⟨?_, ?_⟩) | (intro _) | (rename_i h1 h2; have q := zo9 φ _ _ h1 h2; exact q _) | kernel_rfl)
theorem znw [Dr] (φ : Nat) : z1k TV Tryz.prog 13 (zby φ) :=
 z2r (N := zb4 Tryz.prog φ) (zk ⟨z4v φ, z52 φ, zdn φ, trivial⟩ ⟨(zya), trivial⟩ trivial trivial) (z84 φ) Tryz.func13 (by kernel_rfl) (znd φ) (znk φ)
def z69 (φ : Nat) : H TV (RTup TT [.val 1]) := (.seq .x (.seq .x (.seq (.seq .x (.body (.loop ⟨[(26, [(0, .val 5), (1, .val 5), (5, .val 0)])], []⟩ (fun n z => z8h φ n z.1 z.2.1 z.2.2.1) (fun zk6 => .x)))) .x)))
def z8u (P : Program) (φ : Nat) : Env TV := ⟨P, lk [], lk [], lk [], lk []⟩
theorem zkl (φ : Nat) (a) : (z8s φ).F a = fnX TV (z8u Tryz.prog φ) φ Tryz.f12 [5, 5] [.val 1] (z69 φ) a := by kernel_rfl
theorem zjg (φ : Nat) : fnO TV (z8u Tryz.prog φ) φ Tryz.f12 [.val 1] (z69 φ) := by
 unfold fnO
 show obl _ _ _ _ _ _ _
 unfold z69
 repeat' (first | exact trivial | (refine ⟨?_, ?_⟩) | (intro _) | kernel_rfl)
theorem zjf [Dr] (φ : Nat) : z1k TV Tryz.prog 12 (z8s φ) :=
 z2r (N := z8u Tryz.prog φ) (zk trivial trivial trivial trivial) (z69 φ) Tryz.func12 (by kernel_rfl) (zkl φ) (zjg φ)
def z9d (φ : Nat) : H TV (RTup TT [.val 7]) := .x
def zd8 (P : Program) (φ : Nat) : Env TV := ⟨P, lk [], lk [], lk [], lk []⟩
theorem zom (φ : Nat) (a) : (z9b φ).F a = fnX TV (zd8 Tryz.prog φ) φ Tryz.f24 [0, 0, 0] [.val 7] (z9d φ) a := by kernel_rfl
theorem zoj (φ : Nat) : fnO TV (zd8 Tryz.prog φ) φ Tryz.f24 [.val 7] (z9d φ) := by
 unfold fnO
 show obl _ _ _ _ _ _ _
 unfold z9d
 repeat' (first | exact trivial | (refine ⟨?_, ?_⟩) | (intro _) | kernel_rfl)
theorem zh4 [Dr] (φ : Nat) : z1k TV Tryz.prog 24 (z9b φ) :=
 z2r (N := zd8 Tryz.prog φ) (zk trivial trivial trivial trivial) (z9d φ) Tryz.func24 (by kernel_rfl) (zom φ) (zoj φ)
theorem zlm (φ : Nat) (z z' : Sh.Z TT (⟨[(16, [(0, .own 0), (7, .own 1)]), (50, [(1, .val 0), (5, .val 12), (6, .own 0), (15, .val 10), (16, .val 0), (17, .val 0), (33, .val 5), (34, .val 0), (35, .val 0)])], [.map 0 1 0, .it 0 1]⟩ : Sh)) (h : Sh.eqZ TT (⟨[(16, [(0, .own 0), (7, .own 1)]), (50, [(1, .val 0), (5, .val 12), (6, .own 0), (15, .val 10), (16, .val 0), (17, .val 0), (33, .val 5), (34, .val 0), (35, .val 0)])], [.map 0 1 0, .it 0 1]⟩ : Sh) z z') (hok : ∀ o ∈ (Sh.enc TV (⟨[(16, [(0, .own 0), (7, .own 1)]), (50, [(1, .val 0), (5, .val 12), (6, .own 0), (15, .val 10), (16, .val 0), (17, .val 0), (33, .val 5), (34, .val 0), (35, .val 0)])], [.map 0 1 0, .it 0 1]⟩ : Sh) z).ob, okO TV o) : ∀ k n, z1b φ k (zn φ k n) z'.1 z'.2.1 z'.2.2.1 z'.2.2.2.1 z'.2.2.2.2.1 z'.2.2.2.2.2.1 z'.2.2.2.2.2.2.1 z'.2.2.2.2.2.2.2.1 z'.2.2.2.2.2.2.2.2.1 z'.2.2.2.2.2.2.2.2.2.1 = z1b φ k (zn φ k n) z.1 z.2.1 z.2.2.1 z.2.2.2.1 z.2.2.2.2.1 z.2.2.2.2.2.1 z.2.2.2.2.2.2.1 z.2.2.2.2.2.2.2.1 z.2.2.2.2.2.2.2.2.1 z.2.2.2.2.2.2.2.2.2.1 := by
 obtain ⟨a, b, c, d, e, f, g, i, m, x, u⟩ := z
 obtain ⟨a', b', c', d', e', f', g', i', m', x', u'⟩ := z'
 have h : a = a' /\ b = b' /\ c = c' /\ d = d' /\ e = e' /\ f = f' /\ g = g' /\ i = i' /\ m = m' /\ x.Perm x' /\ True := h
 obtain ⟨rfl, rfl, rfl, rfl, rfl, rfl, rfl, rfl, rfl, hp, _⟩ := h
 have hok : ∀ o ∈ [(SO.x (.map 0 1 0 m none) : SO TT), .x (.it 0 1 x none)], okO TV o := hok
 have hm : Srt' kl_0 m := hok (.x (.map 0 1 0 m none)) (by simp)
 have hd : Ndp kl_0 x := hok (.x (.it 0 1 x none)) (by simp)
 exact fun k n => (zln φ hp hd k (n + 1) a b c d e f g i m hm).symm
def z6x (φ : Nat) : H TV (RTup TT [.val 8]) := (.seq .x (.seq .x (.seq .x (.seq (.seq .x (.body (.loop ⟨[(50, [(1, .val 0), (5, .val 12), (6, .own 0), (15, .val 10), (16, .val 0), (17, .val 0)])], [.map 0 1 0]⟩ (fun n z => z0d φ n z.1 z.2.1 z.2.2.1 z.2.2.2.1 z.2.2.2.2.1 z.2.2.2.2.2.1) (fun zk10 => (.seq .x (.seq .x (.seq (.body (.seq .x (.seq .x (.seq .x (.body (.loop ⟨[(50, [(1, .val 0), (5, .val 12), (6, .own 0), (15, .val 10), (16, .val 0), (17, .val 0), (33, .val 5), (34, .val 0), (35, .val 0)])], [.map 0 1 0]⟩ (fun n z => z0j φ (fun a0 a1 a2 a3 a4 a5 => zk10 (a0, a1, a2, a3, a4, a5, ())) n z.1 z.2.1 z.2.2.1 z.2.2.2.1 z.2.2.2.2.1 z.2.2.2.2.2.1 z.2.2.2.2.2.2.1 z.2.2.2.2.2.2.2.1 z.2.2.2.2.2.2.2.2.1) (fun zk20 => (.seq .x (.seq .x (.seq (.body (.seq .x (.ins 5 46 (.seq .x (.body (.loop ⟨[(16, [(0, .own 0), (7, .own 1)]), (50, [(1, .val 0), (5, .val 12), (6, .own 0), (15, .val 10), (16, .val 0), (17, .val 0), (33, .val 5), (34, .val 0), (35, .val 0)])], [.map 0 1 0, .it 0 1]⟩ (fun n z => zn φ (fun a0 a1 a2 a3 a4 a5 a6 a7 a8 => zk20 (a0, a1, a2, a3, a4, a5, a6, a7, a8, ())) n z.1 z.2.1 z.2.2.1 z.2.2.2.1 z.2.2.2.2.1 z.2.2.2.2.2.1 z.2.2.2.2.2.2.1 z.2.2.2.2.2.2.2.1 z.2.2.2.2.2.2.2.2.1 z.2.2.2.2.2.2.2.2.2.1) (fun zk32 => (.seq (.pk ⟨[(16, [(0, .own 0), (7, .own 1)]), (50, [(1, .val 0), (5, .val 12), (6, .own 0), (15, .val 10), (16, .val 0), (17, .val 0), (33, .val 5), (34, .val 0), (35, .val 0)])], [.map 0 1 0, .it 0 1]⟩ (fun z => z1b φ (fun a0 a1 a2 a3 a4 a5 a6 a7 a8 => zk20 (a0, a1, a2, a3, a4, a5, a6, a7, a8, ())) (fun a0 a1 a2 a3 a4 a5 a6 a7 a8 a9 => zk32 (a0, a1, a2, a3, a4, a5, a6, a7, a8, a9, ())) z.1 z.2.1 z.2.2.1 z.2.2.2.1 z.2.2.2.2.1 z.2.2.2.2.2.1 z.2.2.2.2.2.2.1 z.2.2.2.2.2.2.2.1 z.2.2.2.2.2.2.2.2.1 z.2.2.2.2.2.2.2.2.2.1)) .x))))) .x))) .x)))))))))) .x))))))) .x))))
def zac (P : Program) (φ : Nat) : Env TV := ⟨P, lk [(35, z1z φ), (47, z7l φ)], lk [], lk [], lk [(44, ⟨72, 0, 1, 3⟩)]⟩
theorem zm0 (φ : Nat) (a) : (z9n φ).F a = fnX TV (zac Tryz.prog φ) φ Tryz.f19 [10, 0] [.val 8] (z6x φ) a := by kernel_rfl
theorem zlf (φ : Nat) : fnO TV (zac Tryz.prog φ) φ Tryz.f19 [.val 8] (z6x φ) := by
 unfold fnO
 show obl _ _ _ _ _ _ _
 unfold z6x
 repeat' (first | exact trivial | (refine ⟨?_, ?_⟩) | (intro _) | (rename_i h1 h2; have q := zlm φ _ _ h1 h2; exact q _ _) | kernel_rfl)
theorem zlp (φ : Nat) : z1k TV Tryz.prog 19 (z9n φ) :=
 z2r (N := zac Tryz.prog φ) (zk ⟨z4v φ, zb2 φ, trivial⟩ trivial trivial ⟨zvw, trivial⟩) (z6x φ) Tryz.func19 (by kernel_rfl) (zm0 φ) (zlf φ)
theorem zis (φ : Nat) (z z' : Sh.Z TT (⟨[(16, [(0, .own 0), (7, .own 1)]), (50, [(1, .val 0), (5, .val 12), (6, .own 0), (15, .val 10), (16, .val 0), (17, .val 0), (33, .val 5), (34, .val 0), (35, .val 0)])], [.map 0 1 0, .it 0 1]⟩ : Sh)) (h : Sh.eqZ TT (⟨[(16, [(0, .own 0), (7, .own 1)]), (50, [(1, .val 0), (5, .val 12), (6, .own 0), (15, .val 10), (16, .val 0), (17, .val 0), (33, .val 5), (34, .val 0), (35, .val 0)])], [.map 0 1 0, .it 0 1]⟩ : Sh) z z') (hok : ∀ o ∈ (Sh.enc TV (⟨[(16, [(0, .own 0), (7, .own 1)]), (50, [(1, .val 0), (5, .val 12), (6, .own 0), (15, .val 10), (16, .val 0), (17, .val 0), (33, .val 5), (34, .val 0), (35, .val 0)])], [.map 0 1 0, .it 0 1]⟩ : Sh) z).ob, okO TV o) : ∀ k n, z1i φ k (z01 φ k n) z'.1 z'.2.1 z'.2.2.1 z'.2.2.2.1 z'.2.2.2.2.1 z'.2.2.2.2.2.1 z'.2.2.2.2.2.2.1 z'.2.2.2.2.2.2.2.1 z'.2.2.2.2.2.2.2.2.1 z'.2.2.2.2.2.2.2.2.2.1 = z1i φ k (z01 φ k n) z.1 z.2.1 z.2.2.1 z.2.2.2.1 z.2.2.2.2.1 z.2.2.2.2.2.1 z.2.2.2.2.2.2.1 z.2.2.2.2.2.2.2.1 z.2.2.2.2.2.2.2.2.1 z.2.2.2.2.2.2.2.2.2.1 := by
 obtain ⟨a, b, c, d, e, f, g, i, m, x, u⟩ := z
 obtain ⟨a', b', c', d', e', f', g', i', m', x', u'⟩ := z'
 have h : a = a' /\ b = b' /\ c = c' /\ d = d' /\ e = e' /\ f = f' /\ g = g' /\ i = i' /\ m = m' /\ x.Perm x' /\ True := h
 obtain ⟨rfl, rfl, rfl, rfl, rfl, rfl, rfl, rfl, rfl, hp, _⟩ := h
 have hok : ∀ o ∈ [(SO.x (.map 0 1 0 m none) : SO TT), .x (.it 0 1 x none)], okO TV o := hok
 have hm : Srt' kl_0 m := hok (.x (.map 0 1 0 m none)) (by simp)
 have hd : Ndp kl_0 x := hok (.x (.it 0 1 x none)) (by simp)
 exact fun k n => (zid φ hp hd k (n + 1) a b c d e f g i m hm).symm
def z5v (φ : Nat) : H TV (RTup TT [.row 3 0]) := (.seq .x (.seq .x (.seq .x (.seq (.seq .x (.body (.loop ⟨[(50, [(1, .val 0), (5, .val 12), (6, .own 0), (15, .val 10), (16, .val 0), (17, .val 0)])], [.map 0 1 0]⟩ (fun n z => z4o φ n z.1 z.2.1 z.2.2.1 z.2.2.2.1 z.2.2.2.2.1 z.2.2.2.2.2.1) (fun zk10 => (.seq .x (.seq .x (.seq (.body (.seq .x (.seq .x (.seq .x (.body (.loop ⟨[(50, [(1, .val 0), (5, .val 12), (6, .own 0), (15, .val 10), (16, .val 0), (17, .val 0), (33, .val 5), (34, .val 0), (35, .val 0)])], [.map 0 1 0]⟩ (fun n z => z6i φ (fun a0 a1 a2 a3 a4 a5 => zk10 (a0, a1, a2, a3, a4, a5, ())) n z.1 z.2.1 z.2.2.1 z.2.2.2.1 z.2.2.2.2.1 z.2.2.2.2.2.1 z.2.2.2.2.2.2.1 z.2.2.2.2.2.2.2.1 z.2.2.2.2.2.2.2.2.1) (fun zk20 => (.seq .x (.seq .x (.seq (.body (.seq .x (.ins 5 46 (.seq .x (.body (.loop ⟨[(16, [(0, .own 0), (7, .own 1)]), (50, [(1, .val 0), (5, .val 12), (6, .own 0), (15, .val 10), (16, .val 0), (17, .val 0), (33, .val 5), (34, .val 0), (35, .val 0)])], [.map 0 1 0, .it 0 1]⟩ (fun n z => z01 φ (fun a0 a1 a2 a3 a4 a5 a6 a7 a8 => zk20 (a0, a1, a2, a3, a4, a5, a6, a7, a8, ())) n z.1 z.2.1 z.2.2.1 z.2.2.2.1 z.2.2.2.2.1 z.2.2.2.2.2.1 z.2.2.2.2.2.2.1 z.2.2.2.2.2.2.2.1 z.2.2.2.2.2.2.2.2.1 z.2.2.2.2.2.2.2.2.2.1) (fun zk32 => (.seq (.pk ⟨[(16, [(0, .own 0), (7, .own 1)]), (50, [(1, .val 0), (5, .val 12), (6, .own 0), (15, .val 10), (16, .val 0), (17, .val 0), (33, .val 5), (34, .val 0), (35, .val 0)])], [.map 0 1 0, .it 0 1]⟩ (fun z => z1i φ (fun a0 a1 a2 a3 a4 a5 a6 a7 a8 => zk20 (a0, a1, a2, a3, a4, a5, a6, a7, a8, ())) (fun a0 a1 a2 a3 a4 a5 a6 a7 a8 a9 => zk32 (a0, a1, a2, a3, a4, a5, a6, a7, a8, a9, ())) z.1 z.2.1 z.2.2.1 z.2.2.2.1 z.2.2.2.2.1 z.2.2.2.2.2.1 z.2.2.2.2.2.2.1 z.2.2.2.2.2.2.2.1 z.2.2.2.2.2.2.2.2.1 z.2.2.2.2.2.2.2.2.2.1)) .x))))) .x))) .x)))))))))) .x))))))) .x))))
def z8c (P : Program) (φ : Nat) : Env TV := ⟨P, lk [(35, z1z φ), (47, z7l φ)], lk [], lk [], lk [(44, ⟨72, 0, 1, 3⟩)]⟩
theorem ziv (φ : Nat) (a) : (z7x φ).F a = fnX TV (z8c Tryz.prog φ) φ Tryz.f19 [10, 0] [.row 3 0] (z5v φ) a := by kernel_rfl
theorem zi6 (φ : Nat) : fnO TV (z8c Tryz.prog φ) φ Tryz.f19 [.row 3 0] (z5v φ) := by
 unfold fnO
 show obl _ _ _ _ _ _ _
 unfold z5v
 repeat' (first | exact trivial | (refine ⟨?_, ?_⟩) | (intro _) | (rename_i h1 h2; have q := zis φ _ _ h1 h2; exact q _ _) | kernel_rfl)
theorem zib (φ : Nat) : z1k TV Tryz.prog 19 (z7x φ) :=
 z2r (N := z8c Tryz.prog φ) (zk ⟨z4v φ, zb2 φ, trivial⟩ trivial trivial ⟨zvw, trivial⟩) (z5v φ) Tryz.func19 (by kernel_rfl) (ziv φ) (zi6 φ)
def z73 (φ : Nat) : H TV (RTup TT [.val 1]) := (.seq .x (.seq .x (.seq (.seq .x (.body (.loop ⟨[(26, [(0, .val 8), (1, .val 8), (5, .val 0)])], []⟩ (fun n z => z93 φ n z.1 z.2.1 z.2.2.1) (fun zk6 => .x)))) .x)))
def za1 (P : Program) (φ : Nat) : Env TV := ⟨P, lk [], lk [], lk [], lk []⟩
theorem zlc (φ : Nat) (a) : (z9p φ).F a = fnX TV (za1 Tryz.prog φ) φ Tryz.f18 [8, 8] [.val 1] (z73 φ) a := by kernel_rfl
theorem zls (φ : Nat) : fnO TV (za1 Tryz.prog φ) φ Tryz.f18 [.val 1] (z73 φ) := by
 unfold fnO
 show obl _ _ _ _ _ _ _
 unfold z73
 repeat' (first | exact trivial | (refine ⟨?_, ?_⟩) | (intro _) | kernel_rfl)
theorem zlv [Dr] (φ : Nat) : z1k TV Tryz.prog 18 (z9p φ) :=
 z2r (N := za1 Tryz.prog φ) (zk trivial trivial trivial trivial) (z73 φ) Tryz.func18 (by kernel_rfl) (zlc φ) (zls φ)
def zcf (φ : Nat) : H TV (RTup TT [.val 39]) := (.seq .x (.seq .x (.seq .x (.seq (.seq .x (.body (.loop ⟨[(30, [(0, .ptr 0 0), (1, .ptr 1 0), (2, .val 0)])], [.box 51 [.own 2, .own 3, .own 4, .own 5, .own 6, .own 7, .own 8, .own 9, .own 10], .box 51 [.own 11, .own 12, .own 13, .own 14, .own 15, .own 16, .own 17, .own 18, .own 19], .row 129 15, .row 147 17, .row 131 21, .row 80 23, .row 182 25, .row 186 27, .row 142 30, .row 145 32, .row 112 37, .row 129 15, .row 147 17, .row 131 21, .row 80 23, .row 182 25, .row 186 27, .row 142 30, .row 145 32, .row 112 37]⟩ (fun n z => zcx φ n z.1 z.2.1 z.2.2.1 z.2.2.2.1 z.2.2.2.2.1 z.2.2.2.2.2.1 z.2.2.2.2.2.2.1 z.2.2.2.2.2.2.2.1 z.2.2.2.2.2.2.2.2.1 z.2.2.2.2.2.2.2.2.2.1 z.2.2.2.2.2.2.2.2.2.2.1 z.2.2.2.2.2.2.2.2.2.2.2.1 z.2.2.2.2.2.2.2.2.2.2.2.2.1 z.2.2.2.2.2.2.2.2.2.2.2.2.2.1 z.2.2.2.2.2.2.2.2.2.2.2.2.2.2.1 z.2.2.2.2.2.2.2.2.2.2.2.2.2.2.2.1 z.2.2.2.2.2.2.2.2.2.2.2.2.2.2.2.2.1 z.2.2.2.2.2.2.2.2.2.2.2.2.2.2.2.2.2.1 z.2.2.2.2.2.2.2.2.2.2.2.2.2.2.2.2.2.2.1) (fun zk20 => .x)))) .x))))
def zfm (P : Program) (φ : Nat) : Env TV := ⟨P, lk [], lk [], lk [], lk []⟩
theorem zt5 (φ : Nat) (a) : (zg7 φ).F a = fnX TV (zfm Tryz.prog φ) φ Tryz.f34 [] [.val 39] (zcf φ) a := by kernel_rfl
theorem zsr (φ : Nat) : fnO TV (zfm Tryz.prog φ) φ Tryz.f34 [.val 39] (zcf φ) := by
 unfold fnO
 show obl _ _ _ _ _ _ _
 unfold zcf
 repeat' (first | exact trivial | (refine ⟨?_, ?_⟩) | (intro _) | kernel_rfl)
theorem zsz [Dr] (φ : Nat) : z1k TV Tryz.prog 34 (zg7 φ) :=
 z2r (N := zfm Tryz.prog φ) (zk trivial trivial trivial trivial) (zcf φ) Tryz.func34 (by kernel_rfl) (zt5 φ) (zsr φ)
def z8m (φ : Nat) : H TV (RTup TT [.val 1]) := .x
def zbi (P : Program) (φ : Nat) : Env TV := ⟨P, lk [], lk [], lk [], lk []⟩
theorem zmr (φ : Nat) (a) : (zbk φ).F a = fnX TV (zbi Tryz.prog φ) φ Tryz.f111 [15] [.val 1] (z8m φ) a := by kernel_rfl
theorem zo4 (φ : Nat) : fnO TV (zbi Tryz.prog φ) φ Tryz.f111 [.val 1] (z8m φ) := by
 unfold fnO
 show obl _ _ _ _ _ _ _
 unfold z8m
 repeat' (first | exact trivial | (refine ⟨?_, ?_⟩) | (intro _) | kernel_rfl)
theorem znh [Dr] (φ : Nat) : z1k TV Tryz.prog 111 (zbk φ) :=
 z2r (N := zbi Tryz.prog φ) (zk trivial trivial trivial trivial) (z8m φ) Tryz.func111 (by kernel_rfl) (zmr φ) (zo4 φ)
def z7w (φ : Nat) : H TV (RTup TT [.val 0]) := (.seq .x (.seq .x (.seq .x (.seq (.seq .x (.body (.loop ⟨[(84, [(1, .ptr 0 0), (3, .val 0), (20, .val 16), (21, .val 0), (22, .val 0)])], [.box 40 [.val 19]]⟩ (fun n z => z9o φ n z.1 z.2.1 z.2.2.1 z.2.2.2.1 z.2.2.2.2.1) (fun zk7 => .x)))) (.seq (.seq .x (.body (.loop ⟨[(84, [(3, .val 0), (31, .val 18), (32, .val 0), (33, .val 0)])], []⟩ (fun n z => z8t φ n z.1 z.2.1 z.2.2.1 z.2.2.2.1) (fun zk13 => .x)))) .x)))))
def zbc (P : Program) (φ : Nat) : Env TV := ⟨P, lk [(111, zbk φ)], lk [], lk [], lk []⟩
theorem zo5 (φ : Nat) (a) : (zb1 φ).F a = fnX TV (zbc Tryz.prog φ) φ Tryz.f73 [19] [.val 0] (z7w φ) a := by kernel_rfl
theorem zo0 (φ : Nat) : fnO TV (zbc Tryz.prog φ) φ Tryz.f73 [.val 0] (z7w φ) := by
 unfold fnO
 show obl _ _ _ _ _ _ _
 unfold z7w
 repeat' (first | exact trivial | (refine ⟨?_, ?_⟩) | (intro _) | kernel_rfl)
theorem zne [Dr] (φ : Nat) : z1k TV Tryz.prog 73 (zb1 φ) :=
 z2r (N := zbc Tryz.prog φ) (zk ⟨znh φ, trivial⟩ trivial trivial trivial) (z7w φ) Tryz.func73 (by kernel_rfl) (zo5 φ) (zo0 φ)
def z80 (φ : Nat) : H TV (RTup TT [.val 1]) := .x
def zbj (P : Program) (φ : Nat) : Env TV := ⟨P, lk [], lk [], lk [], lk []⟩
theorem zmw (φ : Nat) (a) : (z85 φ).F a = fnX TV (zbj Tryz.prog φ) φ Tryz.f75 [0, 0, 0] [.val 1] (z80 φ) a := by kernel_rfl
theorem zny (φ : Nat) : fnO TV (zbj Tryz.prog φ) φ Tryz.f75 [.val 1] (z80 φ) := by
 unfold fnO
 show obl _ _ _ _ _ _ _
 unfold z80
 repeat' (first | exact trivial | (refine ⟨?_, ?_⟩) | (intro _) | kernel_rfl)
theorem zfi [Dr] (φ : Nat) : z1k TV Tryz.prog 75 (z85 φ) :=
 z2r (N := zbj Tryz.prog φ) (zk trivial trivial trivial trivial) (z80 φ) Tryz.func75 (by kernel_rfl) (zmw φ) (zny φ)
def zat (φ : Nat) : H TV (RTup TT [.val 0]) := (.seq .x (.seq .x (.seq .x (.seq .x (.seq (.seq .x (.body (.loop ⟨[(206, [(1, .ptr 0 0), (3, .ptr 1 0), (4, .func 112 [.ptr 1 0]), (41, .val 22), (42, .val 0), (43, .val 0)])], [.box 46 [.val 29], .box 59 [.val 0]]⟩ (fun n z => zd2 φ n z.1 z.2.1 z.2.2.1 z.2.2.2.1 z.2.2.2.2.1) (fun zk7 => (.seq .x (.seq .x (.seq (.body (.seq .x (.seq (.seq .x (.body (.loop ⟨[(206, [(1, .ptr 0 0), (3, .ptr 1 0), (4, .func 112 [.ptr 1 0]), (6, .ptr 2 0), (41, .val 22), (42, .val 0), (43, .val 0), (55, .own 3), (56, .val 0), (57, .val 0)])], [.box 46 [.val 29], .box 59 [.val 0], .box 131 [.val 21], .row 3 0]⟩ (fun n z => z82 φ (fun a0 a1 a2 a3 a4 => zk7 (a0, a1, a2, a3, a4, ())) n z.1 z.2.1 z.2.2.1 z.2.2.2.1 z.2.2.2.2.1 z.2.2.2.2.2.1 z.2.2.2.2.2.2.1 z.2.2.2.2.2.2.2.1 z.2.2.2.2.2.2.2.2.1) (fun zk17 => .x)))) .x))) .x))))))) (.seq (.seq .x (.body (.loop ⟨[(206, [(1, .ptr 0 0), (3, .ptr 1 0), (4, .func 112 [.ptr 1 0]), (83, .val 24), (84, .val 0), (85, .val 0)])], [.box 46 [.val 29], .box 59 [.val 0]]⟩ (fun n z => z4u φ n z.1 z.2.1 z.2.2.1 z.2.2.2.1 z.2.2.2.2.1) (fun zk27 => .x)))) (.seq (.seq .x (.body (.loop ⟨[(206, [(1, .ptr 0 0), (3, .ptr 1 0), (4, .func 112 [.ptr 1 0]), (120, .val 26), (121, .val 0), (122, .val 0)])], [.box 46 [.val 29], .box 59 [.val 0]]⟩ (fun n z => z8e φ n z.1 z.2.1 z.2.2.1 z.2.2.2.1 z.2.2.2.2.1) (fun zk40 => .x)))) (.seq .x (.seq (.seq .x (.body (.loop ⟨[(206, [(3, .ptr 0 0), (4, .func 112 [.ptr 0 0]), (13, .ptr 1 0), (158, .val 28), (159, .val 0), (160, .val 0)])], [.box 59 [.val 0], .box 184 [.val 40]]⟩ (fun n z => z2n φ n z.1 z.2.1 z.2.2.1 z.2.2.2.1 z.2.2.2.2.1) (fun zk49 => .x)))) .x)))))))))
def ze4 (P : Program) (φ : Nat) : Env TV := ⟨P, lk [(75, z85 φ)], lk [], lk [], lk []⟩
theorem zql (φ : Nat) (a) : (zds φ).F a = fnX TV (ze4 Tryz.prog φ) φ Tryz.f74 [29] [.val 0] (zat φ) a := by kernel_rfl
theorem zq9 (φ : Nat) : fnO TV (ze4 Tryz.prog φ) φ Tryz.f74 [.val 0] (zat φ) := by
 unfold fnO
 show obl _ _ _ _ _ _ _
 unfold zat
 repeat' (first | exact trivial | (refine ⟨?_, ?_⟩) | (intro _) | kernel_rfl)
theorem zqr [Dr] (φ : Nat) : z1k TV Tryz.prog 74 (zds φ) :=
 z2r (N := ze4 Tryz.prog φ) (zk ⟨zfi φ, trivial⟩ trivial trivial trivial) (zat φ) Tryz.func74 (by kernel_rfl) (zql φ) (zq9 φ)
def z6w (φ : Nat) : H TV (RTup TT [.val 0]) := (.seq .x (.seq (.seq .x (.body (.loop ⟨[(45, [(1, .ptr 0 0), (9, .val 35), (10, .val 0)])], [.box 109 [.val 36]]⟩ (fun n z => z91 φ n z.1 z.2.1 z.2.2.1) (fun zk5 => .x)))) (.seq .x (.seq (.seq .x (.body (.loop ⟨[(45, [(5, .val 0), (30, .val 8), (31, .val 0), (32, .val 0)])], []⟩ (fun n z => z81 φ n z.1 z.2.1 z.2.2.1 z.2.2.2.1) (fun zk10 => .x)))) .x))))
def zai (P : Program) (φ : Nat) : Env TV := ⟨P, lk [], lk [], lk [], lk []⟩
theorem zle (φ : Nat) (a) : (zad φ).F a = fnX TV (zai Tryz.prog φ) φ Tryz.f76 [36] [.val 0] (z6w φ) a := by kernel_rfl
theorem zlz (φ : Nat) : fnO TV (zai Tryz.prog φ) φ Tryz.f76 [.val 0] (z6w φ) := by
 unfold fnO
 show obl _ _ _ _ _ _ _
 unfold z6w
 repeat' (first | exact trivial | (refine ⟨?_, ?_⟩) | (intro _) | kernel_rfl)
theorem zll [Dr] (φ : Nat) : z1k TV Tryz.prog 76 (zad φ) :=
 z2r (N := zai Tryz.prog φ) (zk trivial trivial trivial trivial) (z6w φ) Tryz.func76 (by kernel_rfl) (zle φ) (zlz φ)
def zch (φ : Nat) : H TV (RTup TT [.val 20, .val 20]) := .x
def zfp (P : Program) (φ : Nat) : Env TV := ⟨P, lk [], lk [], lk [], lk []⟩
theorem zt0 (φ : Nat) (a) : (zfb φ).F a = fnX TV (zfp Tryz.prog φ) φ Tryz.f171 [20, 20] [.val 20, .val 20] (zch φ) a := by kernel_rfl
theorem zru (φ : Nat) : fnO TV (zfp Tryz.prog φ) φ Tryz.f171 [.val 20, .val 20] (zch φ) := by
 unfold fnO
 show obl _ _ _ _ _ _ _
 unfold zch
 repeat' (first | exact trivial | (refine ⟨?_, ?_⟩) | (intro _) | kernel_rfl)
theorem zsl [Dr] (φ : Nat) : z1k TV Tryz.prog 171 (zfb φ) :=
 z2r (N := zfp Tryz.prog φ) (zk trivial trivial trivial trivial) (zch φ) Tryz.func171 (by kernel_rfl) (zt0 φ) (zru φ)
def z4f (φ : Nat) : H TV (RTup TT [.val 0]) := (.seq .x (.seq (.ins 1 108 (.seq .x (.seq (.join ⟨[(25, [(0, .val 20), (2, .val 0)]), (6, [])], []⟩ (fun z => z5h φ z.1 z.2.1) (.seq .x .x)) (.seq (.join ⟨[(25, [(0, .val 20), (2, .val 0)]), (6, [])], []⟩ (fun z => z5i φ z.1 z.2.1) (.seq .x .x)) (.seq (.join ⟨[(25, [(0, .val 20), (2, .val 0)]), (6, [])], []⟩ (fun z => z57 φ z.1 z.2.1) (.seq .x .x)) .x)))) .x) .x))
def z60 (P : Program) (φ : Nat) : Env TV := ⟨P, lk [], lk [], lk [], lk []⟩
theorem zgb (φ : Nat) (a) : (z62 φ).F a = fnX TV (z60 Tryz.prog φ) φ Tryz.f183 [20] [.val 0] (z4f φ) a := by kernel_rfl
theorem zg1 (φ : Nat) : fnO TV (z60 Tryz.prog φ) φ Tryz.f183 [.val 0] (z4f φ) := by
 unfold fnO
 show obl _ _ _ _ _ _ _
 unfold z4f
 repeat' (first | exact trivial | (refine ⟨?_, ?_⟩) | (intro _) | kernel_rfl)
theorem zfa [Dr] (φ : Nat) : z1k TV Tryz.prog 183 (z62 φ) :=
 z2r (N := z60 Tryz.prog φ) (zk trivial trivial trivial trivial) (z4f φ) Tryz.func183 (by kernel_rfl) (zgb φ) (zg1 φ)
def zcq (φ : Nat) : H TV (RTup TT [.val 20, .val 20]) := (.seq .x (.seq .x (.seq .x (.seq .x (.seq .x (.seq .x (.seq .x (.seq .x (.seq .x (.seq .x (.seq .x (.seq .x (.seq .x (.seq .x (.seq (.join ⟨[(135, [(2, .val 20), (8, .val 20), (9, .val 20), (10, .val 20), (11, .val 20), (13, .val 20), (14, .val 20), (15, .val 20)])], []⟩ (fun z => zd0 φ z.1 z.2.1 z.2.2.1 z.2.2.2.1 z.2.2.2.2.1 z.2.2.2.2.2.1 z.2.2.2.2.2.2.1 z.2.2.2.2.2.2.2.1) (.body (.loop ⟨[(135, [(2, .val 20), (8, .val 20), (9, .val 20), (10, .val 20), (11, .val 20), (13, .val 20), (14, .val 20), (15, .val 20), (16, .val 20)])], []⟩ (fun n z => zcy φ n z.1 z.2.1 z.2.2.1 z.2.2.2.1 z.2.2.2.2.1 z.2.2.2.2.2.1 z.2.2.2.2.2.2.1 z.2.2.2.2.2.2.2.1 z.2.2.2.2.2.2.2.2.1) (fun zk40 => .x)))) (.seq .x (.seq .x (.seq .x (.seq (.join ⟨[(135, [(2, .val 20), (8, .val 20), (14, .val 20), (15, .val 20), (17, .val 20), (18, .val 20)])], []⟩ (fun z => zde φ z.1 z.2.1 z.2.2.1 z.2.2.2.1 z.2.2.2.2.1 z.2.2.2.2.2.1) (.body (.loop ⟨[(135, [(2, .val 20), (8, .val 20), (9, .val 20), (10, .val 20), (14, .val 20), (15, .val 20), (16, .val 20), (17, .val 20), (18, .val 20)])], []⟩ (fun n z => zcs φ n z.1 z.2.1 z.2.2.1 z.2.2.2.1 z.2.2.2.2.1 z.2.2.2.2.2.1 z.2.2.2.2.2.2.1 z.2.2.2.2.2.2.2.1 z.2.2.2.2.2.2.2.2.1) (fun zk30 => .x)))) .x)))))))))))))))))))
def zf5 (P : Program) (φ : Nat) : Env TV := ⟨P, lk [(183, z62 φ)], lk [], lk [], lk []⟩
theorem ztm (φ : Nat) (a) : (zfw φ).F a = fnX TV (zf5 Tryz.prog φ) φ Tryz.f172 [20, 20, 20] [.val 20, .val 20] (zcq φ) a := by kernel_rfl
theorem zsm (φ : Nat) : fnO TV (zf5 Tryz.prog φ) φ Tryz.f172 [.val 20, .val 20] (zcq φ) := by
 unfold fnO
 show obl _ _ _ _ _ _ _
 unfold zcq
 repeat' (first | exact trivial | (refine ⟨?_, ?_⟩) | (intro _) | kernel_rfl)
theorem zrn [Dr] (φ : Nat) : z1k TV Tryz.prog 172 (zfw φ) :=
 z2r (N := zf5 Tryz.prog φ) (zk ⟨zfa φ, trivial⟩ trivial trivial trivial) (zcq φ) Tryz.func172 (by kernel_rfl) (ztm φ) (zsm φ)
def zgr (φ : Nat) : H TV (RTup TT [.val 20]) := (.seq .x (.seq .x (.seq .x (.seq (.seq (.ins 1 108 (.seq .x (.seq (.join ⟨[(25, [(0, .val 20), (2, .val 0)]), (33, [(0, .val 20), (1, .val 20), (5, .func 170 [.ptr 0 0]), (6, .val 20)])], [.box 110 [.val 20]]⟩ (fun z => zha φ z.1 z.2.1 z.2.2.1 z.2.2.2.1 z.2.2.2.2.1 z.2.2.2.2.2.1) (.seq .x .x)) (.seq (.join ⟨[(25, [(0, .val 20), (2, .val 0)]), (33, [(0, .val 20), (1, .val 20), (5, .func 170 [.ptr 0 0]), (6, .val 20)])], [.box 110 [.val 20]]⟩ (fun z => zfj φ z.1 z.2.1 z.2.2.1 z.2.2.2.1 z.2.2.2.2.1 z.2.2.2.2.2.1) (.seq .x .x)) (.seq (.join ⟨[(25, [(0, .val 20), (2, .val 0)]), (33, [(0, .val 20), (1, .val 20), (5, .func 170 [.ptr 0 0]), (6, .val 20)])], [.box 110 [.val 20]]⟩ (fun z => zfu φ z.1 z.2.1 z.2.2.1 z.2.2.2.1 z.2.2.2.2.1 z.2.2.2.2.2.1) (.seq .x .x)) .x)))) .x) (.body (.loop ⟨[(33, [(0, .val 20), (1, .val 20), (5, .func 170 [.ptr 0 0]), (6, .val 20), (10, .val 0), (11, .val 0)])], [.box 110 [.val 20]]⟩ (fun n z => zcn φ n z.1 z.2.1 z.2.2.1 z.2.2.2.1 z.2.2.2.2.1 z.2.2.2.2.2.1) (fun zk30 => (.seq .x (.seq .x (.seq (.body (.seq .x (.seq .x (.seq (.ins 2 108 (.seq .x (.seq (.join ⟨[(25, [(0, .val 20), (2, .val 0)]), (33, [(0, .val 20), (1, .val 20), (5, .func 170 [.ptr 0 0]), (6, .val 20), (7, .val 0), (10, .val 0), (11, .val 0), (18, .val 20)])], [.box 110 [.val 20]]⟩ (fun z => zg0 φ (fun a0 a1 a2 a3 a4 a5 => zk30 (a0, a1, a2, a3, a4, a5, ())) z.1 z.2.1 z.2.2.1 z.2.2.2.1 z.2.2.2.2.1 z.2.2.2.2.2.1 z.2.2.2.2.2.2.1 z.2.2.2.2.2.2.2.1 z.2.2.2.2.2.2.2.2.1 z.2.2.2.2.2.2.2.2.2.1) (.seq .x .x)) (.seq (.join ⟨[(25, [(0, .val 20), (2, .val 0)]), (33, [(0, .val 20), (1, .val 20), (5, .func 170 [.ptr 0 0]), (6, .val 20), (7, .val 0), (10, .val 0), (11, .val 0), (18, .val 20)])], [.box 110 [.val 20]]⟩ (fun z => zfh φ (fun a0 a1 a2 a3 a4 a5 => zk30 (a0, a1, a2, a3, a4, a5, ())) z.1 z.2.1 z.2.2.1 z.2.2.2.1 z.2.2.2.2.1 z.2.2.2.2.2.1 z.2.2.2.2.2.2.1 z.2.2.2.2.2.2.2.1 z.2.2.2.2.2.2.2.2.1 z.2.2.2.2.2.2.2.2.2.1) (.seq .x .x)) (.seq (.join ⟨[(25, [(0, .val 20), (2, .val 0)]), (33, [(0, .val 20), (1, .val 20), (5, .func 170 [.ptr 0 0]), (6, .val 20), (7, .val 0), (10, .val 0), (11, .val 0), (18, .val 20)])], [.box 110 [.val 20]]⟩ (fun z => zfl φ (fun a0 a1 a2 a3 a4 a5 => zk30 (a0, a1, a2, a3, a4, a5, ())) z.1 z.2.1 z.2.2.1 z.2.2.2.1 z.2.2.2.2.1 z.2.2.2.2.2.1 z.2.2.2.2.2.2.1 z.2.2.2.2.2.2.2.1 z.2.2.2.2.2.2.2.2.1 z.2.2.2.2.2.2.2.2.2.1) (.seq .x .x)) .x)))) .x) .x)))) .x))))))) .x))))
def zk3 (P : Program) (φ : Nat) : Env TV := ⟨P, lk [(171, zfb φ), (172, zfw φ)], lk [], lk [], lk []⟩
theorem zy9 (φ : Nat) (a) : (zk1 φ).F a = fnX TV (zk3 Tryz.prog φ) φ Tryz.f113 [20, 20] [.val 20] (zgr φ) a := by kernel_rfl
theorem zy5 (φ : Nat) : fnO TV (zk3 Tryz.prog φ) φ Tryz.f113 [.val 20] (zgr φ) := by
 unfold fnO
 show obl _ _ _ _ _ _ _
 unfold zgr
 repeat' (first | exact trivial | (refine ⟨?_, ?_⟩) | (intro _) | kernel_rfl)
theorem zyd [Dr] (φ : Nat) : z1k TV Tryz.prog 113 (zk1 φ) :=
 z2r (N := zk3 Tryz.prog φ) (zk ⟨zsl φ, zrn φ, trivial⟩ trivial trivial trivial) (zgr φ) Tryz.func113 (by kernel_rfl) (zy9 φ) (zy5 φ)
def zcc (φ : Nat) : H TV (RTup TT [.val 1]) := .x
def zgc (P : Program) (φ : Nat) : Env TV := ⟨P, lk [(113, zk1 φ)], lk [], lk [], lk []⟩
theorem zrq (φ : Nat) (a) : (zg4 φ).F a = fnX TV (zgc Tryz.prog φ) φ Tryz.f77 [20] [.val 1] (zcc φ) a := by kernel_rfl
theorem zsf (φ : Nat) : fnO TV (zgc Tryz.prog φ) φ Tryz.f77 [.val 1] (zcc φ) := by
 unfold fnO
 show obl _ _ _ _ _ _ _
 unfold zcc
 repeat' (first | exact trivial | (refine ⟨?_, ?_⟩) | (intro _) | kernel_rfl)
theorem zs5 [Dr] (φ : Nat) : z1k TV Tryz.prog 77 (zg4 φ) :=
 z2r (N := zgc Tryz.prog φ) (zk ⟨zyd φ, trivial⟩ trivial trivial trivial) (zcc φ) Tryz.func77 (by kernel_rfl) (zrq φ) (zsf φ)
end Px
end
section
set_option linter.unusedVariables false
set_option linter.unusedSimpArgs false
set_option maxHeartbeats 4000000
set_option maxRecDepth 100000
namespace Px
open Go Go.RowKit Go.Proofs
def z6b (φ : Nat) : H TV (RTup TT [.val 0]) := (.seq .x (.seq .x (.seq .x (.seq .x (.seq .x (.seq .x (.seq (.seq .x (.body (.loop ⟨[(193, [(1, .ptr 0 0), (5, .val 16), (6, .val 0), (7, .val 1), (57, .val 31), (58, .val 0), (59, .val 0)])], [.box 51 [.val 39]]⟩ (fun n z => z7d φ n z.1 z.2.1 z.2.2.1 z.2.2.2.1 z.2.2.2.2.1 z.2.2.2.2.2.1 z.2.2.2.2.2.2.1) (fun zk11 => .x)))) (.seq (.seq .x (.body (.loop ⟨[(193, [(1, .ptr 0 0), (5, .val 16), (6, .val 0), (7, .val 1), (92, .val 33), (93, .val 0), (94, .val 0)])], [.box 51 [.val 39]]⟩ (fun n z => z7g φ n z.1 z.2.1 z.2.2.1 z.2.2.2.1 z.2.2.2.2.1 z.2.2.2.2.2.1 z.2.2.2.2.2.2.1) (fun zk20 => .x)))) (.seq (.seq .x (.body (.loop ⟨[(193, [(1, .ptr 0 0), (5, .val 16), (6, .val 0), (7, .val 1), (120, .val 24), (121, .val 0), (122, .val 0)])], [.box 51 [.val 39]]⟩ (fun n z => z7i φ n z.1 z.2.1 z.2.2.1 z.2.2.2.1 z.2.2.2.2.1 z.2.2.2.2.2.1 z.2.2.2.2.2.2.1) (fun zk29 => .x)))) (.seq (.seq .x (.body (.loop ⟨[(193, [(1, .ptr 0 0), (6, .val 0), (7, .val 1), (135, .val 16), (136, .val 0), (137, .val 0)])], [.box 51 [.val 39]]⟩ (fun n z => z78 φ n z.1 z.2.1 z.2.2.1 z.2.2.2.1 z.2.2.2.2.1 z.2.2.2.2.2.1) (fun zk36 => .x)))) (.seq (.seq .x (.body (.loop ⟨[(193, [(1, .ptr 0 0), (6, .val 0), (7, .val 1), (157, .val 18), (158, .val 0), (159, .val 0)])], [.box 51 [.val 39]]⟩ (fun n z => z7k φ n z.1 z.2.1 z.2.2.1 z.2.2.2.1 z.2.2.2.2.1 z.2.2.2.2.2.1) (fun zk43 => .x)))) (.seq (.seq .x (.body (.loop ⟨[(193, [(7, .val 1), (172, .val 38), (173, .val 0), (174, .val 0)])], []⟩ (fun n z => z7f φ n z.1 z.2.1 z.2.2.1 z.2.2.2.1) (fun zk48 => .x)))) .x))))))))))))
def z8x (P : Program) (φ : Nat) : Env TV := ⟨P, lk [(73, zb1 φ), (74, zds φ), (75, z85 φ), (76, zad φ), (77, zg4 φ)], lk [], lk [], lk []⟩
theorem zkh (φ : Nat) (a) : (z3l φ).F a = fnX TV (z8x Tryz.prog φ) φ Tryz.f49 [39] [.val 0] (z6b φ) a := by kernel_rfl
theorem zjp (φ : Nat) : fnO TV (z8x Tryz.prog φ) φ Tryz.f49 [.val 0] (z6b φ) := by
 unfold fnO
 show obl _ _ _ _ _ _ _
 unfold z6b
 repeat' (first | exact trivial | (refine ⟨?_, ?_⟩) | (intro _) | kernel_rfl)
theorem z68 [Dr] (φ : Nat) : z1k TV Tryz.prog 49 (z3l φ) :=
 z2r (N := z8x Tryz.prog φ) (zk ⟨zne φ, zqr φ, zfi φ, zll φ, zs5 φ, trivial⟩ trivial trivial trivial) (z6b φ) Tryz.func49 (by kernel_rfl) (zkh φ) (zjp φ)
def z89 (φ : Nat) : H TV (RTup TT [.val 1]) := .x
def zb7 (P : Program) (φ : Nat) : Env TV := ⟨P, lk [], lk [], lk [], lk []⟩
theorem zng (φ : Nat) (a) : (zbt φ).F a = fnX TV (zb7 Tryz.prog φ) φ Tryz.f59 [6] [.val 1] (z89 φ) a := by kernel_rfl
theorem znt (φ : Nat) : fnO TV (zb7 Tryz.prog φ) φ Tryz.f59 [.val 1] (z89 φ) := by
 unfold fnO
 show obl _ _ _ _ _ _ _
 unfold z89
 repeat' (first | exact trivial | (refine ⟨?_, ?_⟩) | (intro _) | kernel_rfl)
theorem zmx [Dr] (φ : Nat) : z1k TV Tryz.prog 59 (zbt φ) :=
 z2r (N := zb7 Tryz.prog φ) (zk trivial trivial trivial trivial) (z89 φ) Tryz.func59 (by kernel_rfl) (zng φ) (znt φ)
def ze0 (φ : Nat) : H TV (RTup TT [.val 1]) := (.seq .x (.seq (.seq .x (.body (.loop ⟨[(43, [(0, .val 5), (1, .val 1), (7, .val 5), (8, .val 0), (9, .val 0)])], []⟩ (fun n z => zf0 φ n z.1 z.2.1 z.2.2.1 z.2.2.2.1 z.2.2.2.2.1) (fun zk8 => .x)))) .x))
def zhv (P : Program) (φ : Nat) : Env TV := ⟨P, lk [], lk [], lk [], lk []⟩
theorem zux (φ : Nat) (a) : (zhb φ).F a = fnX TV (zhv Tryz.prog φ) φ Tryz.f135 [5, 1] [.val 1] (ze0 φ) a := by kernel_rfl
theorem zuq (φ : Nat) : fnO TV (zhv Tryz.prog φ) φ Tryz.f135 [.val 1] (ze0 φ) := by
 unfold fnO
 show obl _ _ _ _ _ _ _
 unfold ze0
 repeat' (first | exact trivial | (refine ⟨?_, ?_⟩) | (intro _) | kernel_rfl)
theorem zvi [Dr] (φ : Nat) : z1k TV Tryz.prog 135 (zhb φ) :=
 z2r (N := zhv Tryz.prog φ) (zk trivial trivial trivial trivial) (ze0 φ) Tryz.func135 (by kernel_rfl) (zux φ) (zuq φ)
def zcg (φ : Nat) : H TV (RTup TT [.val 1]) := (.seq .x (.seq .x (.seq (.join ⟨[(46, [(5, .ptr 0 0)])], [.box 157 [.val 41]]⟩ (fun z => zw φ z.1) (.seq .x (.cond (.ins 0 95 (.seq .x (.seq .x (.seq .x (.seq .x (.body (.seq .x (.cond .x (.seq .x (.cond (.seq (.ins 1 131 (.seq .x (.seq (.join ⟨[(66, [(0, .ptr 0 0), (1, .val 0), (4, .ptr 1 0)]), (135, [(0, .ptr 0 0)]), (46, [(5, .ptr 0 0)])], [.box 157 [.val 41], .box 129 [.val 15]]⟩ (fun z => zeh φ z.1 z.2.1 z.2.2.1) (.seq .x .x)) .x)) .x) .x) (.seq (.join ⟨[(135, [(0, .ptr 0 0), (2, .ptr 0 9), (20, .val 0), (43, .val 1)]), (46, [(5, .ptr 0 0)])], [.box 157 [.val 41]]⟩ (fun z => zd1 φ z.1 z.2.1 z.2.2.1) (.seq .x .x)) (.cond (.seq (.ins 1 131 (.seq .x (.seq (.join ⟨[(66, [(0, .ptr 0 0), (1, .val 0), (4, .ptr 1 0)]), (135, [(0, .ptr 0 0), (2, .ptr 0 9)]), (46, [(5, .ptr 0 0)])], [.box 157 [.val 41], .box 129 [.val 15]]⟩ (fun z => zcz φ z.1 z.2.1 z.2.2.1) (.seq .x .x)) .x)) .x) .x) (.seq .x (.cond (.seq .x (.seq .x (.seq (.ins 1 131 (.seq .x (.seq (.join ⟨[(66, [(0, .ptr 0 0), (1, .val 0), (4, .ptr 1 0)]), (135, [(0, .ptr 0 0), (2, .ptr 0 9)]), (46, [(5, .ptr 0 0)])], [.box 157 [.val 41], .box 129 [.val 15]]⟩ (fun z => zd5 φ z.1 z.2.1 z.2.2.1) (.seq .x .x)) .x)) .x) .x))) (.seq (.join ⟨[(135, [(0, .ptr 0 0), (2, .ptr 0 9), (116, .val 1)]), (46, [(5, .ptr 0 0)])], [.box 157 [.val 41]]⟩ (fun z => zdc φ z.1 z.2.1) (.seq .x .x)) (.cond (.seq (.ins 1 131 (.seq .x (.seq (.join ⟨[(66, [(0, .ptr 0 0), (1, .val 0), (4, .ptr 1 0)]), (135, [(0, .ptr 0 0), (2, .ptr 0 9)]), (46, [(5, .ptr 0 0)])], [.box 157 [.val 41], .box 129 [.val 15]]⟩ (fun z => zd3 φ z.1 z.2.1 z.2.2.1) (.seq .x .x)) .x)) .x) .x) .x))))))))))))))) .x) (.ins 0 96 (.seq .x (.seq .x (.body (.seq .x (.cond .x (.seq .x (.cond (.seq .x (.seq (.ins 1 131 (.seq .x (.seq (.join ⟨[(66, [(0, .ptr 0 0), (1, .val 0), (4, .ptr 1 0)]), (168, [(0, .ptr 0 0), (2, .ptr 0 9)]), (46, [(5, .ptr 0 0)])], [.box 157 [.val 41], .box 129 [.val 15]]⟩ (fun z => zd9 φ z.1 z.2.1 z.2.2.1) (.seq .x .x)) .x)) .x) .x)) (.seq .x (.cond .x (.seq (.join ⟨[(168, [(0, .ptr 0 0), (2, .ptr 0 9), (9, .val 0), (91, .val 1)]), (46, [(5, .ptr 0 0)])], [.box 157 [.val 41]]⟩ (fun z => z97 φ z.1 z.2.1 z.2.2.1) (.seq .x .x)) (.cond .x (.seq .x (.cond .x (.seq .x (.cond (.seq .x (.seq (.ins 1 131 (.seq .x (.seq (.join ⟨[(66, [(0, .ptr 0 0), (1, .val 0), (4, .ptr 1 0)]), (168, [(0, .ptr 0 0), (2, .ptr 0 9)]), (46, [(5, .ptr 0 0)])], [.box 157 [.val 41], .box 129 [.val 15]]⟩ (fun z => zcw φ z.1 z.2.1 z.2.2.1) (.seq .x .x)) .x)) .x) .x)) .x))))))))))))))) .x)))) (.seq (.seq .x (.body (.unr 12 .x))) .x))))
def zf9 (P : Program) (φ : Nat) : Env TV := ⟨P, lk [(135, zhb φ)], lk [], lk [], lk []⟩
theorem zrm (φ : Nat) (a) : (zff φ).F a = fnX TV (zf9 Tryz.prog φ) φ Tryz.f60 [39, 6] [.val 1] (zcg φ) a := by kernel_rfl
theorem zrj (φ : Nat) : fnO TV (zf9 Tryz.prog φ) φ Tryz.f60 [.val 1] (zcg φ) := by
 unfold fnO
 show obl _ _ _ _ _ _ _
 unfold zcg
 repeat' (first | exact trivial | (refine ⟨?_, ?_⟩) | (intro _) | kernel_rfl)
theorem ztq [Dr] (φ : Nat) : z1k TV Tryz.prog 60 (zff φ) :=
 z2r (N := zf9 Tryz.prog φ) (zk ⟨zvi φ, trivial⟩ trivial trivial trivial) (zcg φ) Tryz.func60 (by kernel_rfl) (zrm φ) (zrj φ)
def zdw (φ : Nat) : H TV (RTup TT [.val 0]) := .x
def zhs (P : Program) (φ : Nat) : Env TV := ⟨P, lk [(49, z3l φ), (59, zbt φ), (60, zff φ)], lk [], lk [], lk []⟩
theorem zvc (φ : Nat) (a) : (zec φ).F a = fnX TV (zhs Tryz.prog φ) φ Tryz.f30 [39, 6] [.val 0] (zdw φ) a := by kernel_rfl
theorem zv8 (φ : Nat) : fnO TV (zhs Tryz.prog φ) φ Tryz.f30 [.val 0] (zdw φ) := by
 unfold fnO
 show obl _ _ _ _ _ _ _
 unfold zdw
 repeat' (first | exact trivial | (refine ⟨?_, ?_⟩) | (intro _) | kernel_rfl)
theorem zo3 [Dr] (φ : Nat) : z1k TV Tryz.prog 30 (zec φ) :=
 z2r (N := zhs Tryz.prog φ) (zk ⟨z68 φ, zmx φ, ztq φ, trivial⟩ trivial trivial trivial) (zdw φ) Tryz.func30 (by kernel_rfl) (zvc φ) (zv8 φ)
def z72 (φ : Nat) : H TV (RTup TT [.val 1]) := .x
def z9w (P : Program) (φ : Nat) : Env TV := ⟨P, lk [(47, z7l φ)], lk [], lk [], lk []⟩
theorem zlu (φ : Nat) (a b) : (zag φ).F a b = fnXc TV (z9w Tryz.prog φ) φ Tryz.f51 [2] [.b (.map 9 1)] [.val 1] (z72 φ) a b := by kernel_rfl
theorem zm3 (φ : Nat) : fnO TV (z9w Tryz.prog φ) φ Tryz.f51 [.val 1] (z72 φ) := by
 unfold fnO
 show obl _ _ _ _ _ _ _
 unfold z72
 repeat' (first | exact trivial | (refine ⟨?_, ?_⟩) | (intro _) | kernel_rfl)
theorem zlt [Dr] (φ : Nat) : zxr TV Tryz.prog 51 (zag φ) :=
 y6n (N := z9w Tryz.prog φ) (zk ⟨zb2 φ, trivial⟩ trivial trivial trivial) (z72 φ) Tryz.func51 (by kernel_rfl) (zlu φ) (zm3 φ)
def z74 (φ : Nat) : H TV (RTup TT [.val 0]) := .x
def z9v (P : Program) (φ : Nat) : Env TV := ⟨P, lk [(49, z3l φ)], lk [], lk [], lk []⟩
theorem zli (φ : Nat) (a) : (zae φ).F a = fnX TV (z9v Tryz.prog φ) φ Tryz.f61 [39, 0, 0] [.val 0] (z74 φ) a := by kernel_rfl
theorem zl6 (φ : Nat) : fnO TV (z9v Tryz.prog φ) φ Tryz.f61 [.val 0] (z74 φ) := by
 unfold fnO
 show obl _ _ _ _ _ _ _
 unfold z74
 repeat' (first | exact trivial | (refine ⟨?_, ?_⟩) | (intro _) | kernel_rfl)
theorem zl9 [Dr] (φ : Nat) : z1k TV Tryz.prog 61 (zae φ) :=
 z2r (N := z9v Tryz.prog φ) (zk ⟨z68 φ, trivial⟩ trivial trivial trivial) (z74 φ) Tryz.func61 (by kernel_rfl) (zli φ) (zl6 φ)
def zax (φ : Nat) : H TV (RTup TT [.row 3 0]) := (.seq .x (.seq .x (.seq (.seq .x (.body (.loop ⟨[(35, [(2, .val 0), (3, .ptr 0 0), (7, .own 1), (10, .val 10), (11, .val 0), (12, .val 0)])], [.box 51 [.val 39], .row 3 0]⟩ (fun n z => z86 φ n z.1 z.2.1 z.2.2.1 z.2.2.2.1 z.2.2.2.2.1 z.2.2.2.2.2.1) (fun zk10 => .x)))) .x)))
def zej (P : Program) (φ : Nat) : Env TV := ⟨P, lk [(30, zec φ)], lk [], lk [], lk []⟩
theorem zqx (φ : Nat) (a) : (zdt φ).F a = fnX TV (zej Tryz.prog φ) φ Tryz.f160 [39, 10, 0] [.row 3 0] (zax φ) a := by kernel_rfl
theorem zpp (φ : Nat) : fnO TV (zej Tryz.prog φ) φ Tryz.f160 [.row 3 0] (zax φ) := by
 unfold fnO
 show obl _ _ _ _ _ _ _
 unfold zax
 repeat' (first | exact trivial | (refine ⟨?_, ?_⟩) | (intro _) | kernel_rfl)
theorem zqu [Dr] (φ : Nat) : z1k TV Tryz.prog 160 (zdt φ) :=
 z2r (N := zej Tryz.prog φ) (zk ⟨zo3 φ, trivial⟩ trivial trivial trivial) (zax φ) Tryz.func160 (by kernel_rfl) (zqx φ) (zpp φ)
def z6r (φ : Nat) : H TV (RTup TT [.val 0]) := .x
def za2 (P : Program) (φ : Nat) : Env TV := ⟨P, lk [(40, z34 φ), (39, zav φ)], lk [], lk [], lk []⟩
theorem zl7 (φ : Nat) (a) : (z5d φ).F a = fnX TV (za2 Tryz.prog φ) φ Tryz.f139 [3, 3] [.val 0] (z6r φ) a := by kernel_rfl
theorem zlg (φ : Nat) : fnO TV (za2 Tryz.prog φ) φ Tryz.f139 [.val 0] (z6r φ) := by
 unfold fnO
 show obl _ _ _ _ _ _ _
 unfold z6r
 repeat' (first | exact trivial | (refine ⟨?_, ?_⟩) | (intro _) | kernel_rfl)
theorem z9s [Dr] (φ : Nat) : z1k TV Tryz.prog 139 (z5d φ) :=
 z2r (N := za2 Tryz.prog φ) (zk ⟨z56 φ, zdr φ, trivial⟩ trivial trivial trivial) (z6r φ) Tryz.func139 (by kernel_rfl) (zl7 φ) (zlg φ)
def z5p (φ : Nat) : H TV (RTup TT [.val 0]) := .x
def z8j (P : Program) (φ : Nat) : Env TV := ⟨P, lk [(40, z34 φ), (139, z5d φ), (39, zav φ)], lk [], lk [], lk []⟩
theorem zj6 (φ : Nat) (a b) : (z8d φ).F a b = fnXc TV (z8j Tryz.prog φ) φ Tryz.f162 [0, 0] [.b (.val 10)] [.val 0] (z5p φ) a b := by kernel_rfl
theorem zic (φ : Nat) : fnO TV (z8j Tryz.prog φ) φ Tryz.f162 [.val 0] (z5p φ) := by
 unfold fnO
 show obl _ _ _ _ _ _ _
 unfold z5p
 repeat' (first | exact trivial | (refine ⟨?_, ?_⟩) | (intro _) | kernel_rfl)
theorem zj3 [Dr] (φ : Nat) : zxr TV Tryz.prog 162 (z8d φ) :=
 y6n (N := z8j Tryz.prog φ) (zk ⟨z56 φ, z9s φ, zdr φ, trivial⟩ trivial trivial trivial) (z5p φ) Tryz.func162 (by kernel_rfl) (zj6 φ) (zic φ)
def z07 (φ : Nat) : H TV (List (TT 0)) := (.seq .x (.body (.loop ⟨[(53, [(0, .own 0), (1, .val 0), (2, .val 0), (3, .cmp 0), (8, .val 0)]), (1, [(0, .own 0)])], [.row 3 0]⟩ (fun n z => z0p φ n z.1 z.2.1 z.2.2.1 z.2.2.2.1 z.2.2.2.2.1) (fun zk10 => (.seq .x (.seq (.body (.seq .x (.body (.loop ⟨[(53, [(0, .own 0), (1, .val 0), (2, .val 0), (3, .cmp 0), (8, .val 0), (9, .val 0)]), (1, [(0, .own 0)])], [.row 3 0]⟩ (fun n z => z0s φ (fun a0 a1 a2 a3 a4 => zk10 (a0, a1, a2, a3, a4, ())) n z.1 z.2.1 z.2.2.1 z.2.2.2.1 z.2.2.2.2.1 z.2.2.2.2.2.1) (fun zk17 => .x))))) .x))))))
def z18 (P : Program) (φ : Nat) : Env TV := ⟨P, lk [], lk [], lk [], lk []⟩
theorem z8b (φ : Nat) (l a) : (z1f φ).F l a = fnM TV (z18 Tryz.prog φ) φ Tryz.f185 3 0 [.val 0, .val 0, .cmp 0] (z07 φ) l a := by kernel_rfl
theorem z8k (φ : Nat) : fnMO TV (z18 Tryz.prog φ) φ Tryz.f185 3 0 (z07 φ) := by
 unfold fnMO
 show obl _ _ _ _ _ _ _
 unfold z07
 repeat' (first | exact trivial | (refine ⟨?_, ?_⟩) | (intro _) | kernel_rfl)
theorem z7v [Dr] (φ : Nat) : zbw TV Tryz.prog 185 (z1f φ) := z8o (N := z18 Tryz.prog φ) (zk trivial trivial trivial trivial) (z07 φ) Tryz.func185 (by kernel_rfl) (z8b φ) (z8k φ)
def z0n (φ : Nat) : H TV (List (TT 0)) := (.seq .x (.body (.loop ⟨[(38, [(0, .own 0), (1, .val 0), (2, .val 0), (3, .val 0), (10, .val 0)]), (1, [(0, .own 0)])], [.row 3 0]⟩ (fun n z => z1y φ n z.1 z.2.1 z.2.2.1 z.2.2.2.1 z.2.2.2.2.1) (fun zk11 => .x))))
def z2y (P : Program) (φ : Nat) : Env TV := ⟨P, lk [], lk [], lk [], lk []⟩
theorem za8 (φ : Nat) (l a) : (z31 φ).F l a = fnM TV (z2y Tryz.prog φ) φ Tryz.f190 3 0 [.val 0, .val 0, .val 0, .cmp 0] (z0n φ) l a := by kernel_rfl
theorem zaj (φ : Nat) : fnMO TV (z2y Tryz.prog φ) φ Tryz.f190 3 0 (z0n φ) := by
 unfold fnMO
 show obl _ _ _ _ _ _ _
 unfold z0n
 repeat' (first | exact trivial | (refine ⟨?_, ?_⟩) | (intro _) | kernel_rfl)
theorem z9t [Dr] (φ : Nat) : zbw TV Tryz.prog 190 (z31 φ) := z8o (N := z2y Tryz.prog φ) (zk trivial trivial trivial trivial) (z0n φ) Tryz.func190 (by kernel_rfl) (za8 φ) (zaj φ)
def z1p (φ : Nat) : H TV (List (TT 0)) := (.seq .x (.seq .x (.seq (.body (.loop ⟨[(58, [(0, .own 0), (2, .val 0), (4, .cmp 0), (10, .val 0), (11, .val 0)]), (1, [(0, .own 0)])], [.row 3 0]⟩ (fun n z => z0z φ n z.1 z.2.1 z.2.2.1 z.2.2.2.1 z.2.2.2.2.1) (fun zk11 => .x))) .x)))
def z3z (P : Program) (φ : Nat) : Env TV := ⟨P, lk [], lk [(190, z31 φ)], lk [], lk []⟩
theorem zc4 (φ : Nat) (l a) : (z44 φ).F l a = fnM TV (z3z Tryz.prog φ) φ Tryz.f188 3 0 [.val 0, .val 0, .val 0, .cmp 0] (z1p φ) l a := by kernel_rfl
theorem zc0 (φ : Nat) : fnMO TV (z3z Tryz.prog φ) φ Tryz.f188 3 0 (z1p φ) := by
 unfold fnMO
 show obl _ _ _ _ _ _ _
 unfold z1p
 repeat' (first | exact trivial | (refine ⟨?_, ?_⟩) | (intro _) | kernel_rfl)
theorem zbz [Dr] (φ : Nat) : zbw TV Tryz.prog 188 (z44 φ) := z8o (N := z3z Tryz.prog φ) (zk trivial ⟨(z9t φ), trivial⟩ trivial trivial) (z1p φ) Tryz.func188 (by kernel_rfl) (zc4 φ) (zc0 φ)
def z0w (φ d : Nat) : H TV (List (TT 0)) := (.seq (.seq .x (.cond (.seq .x (.seq .x (.seq (.body (.loop ⟨[(220, [(0, .own 0), (1, .val 0), (4, .cmp 0), (10, .val 0), (11, .val 0)]), (1, [(0, .own 0)])], [.row 3 0]⟩ (fun n z => z0i φ n z.1 z.2.1 z.2.2.1 z.2.2.2.1 z.2.2.2.2.1) (fun zk11 => .x))) (.seq (.seq .x (.body (.loop ⟨[(220, [(0, .own 0), (10, .val 0), (13, .val 0)]), (1, [(0, .own 0)])], [.row 3 0]⟩ (fun n z => z2j φ n z.1 z.2.1 z.2.2.1) (fun zk16 => .x)))) .x)))) .x)) (.seq (.seq .x (.cond (.seq .x (.seq .x (.seq (.body (.loop ⟨[(220, [(0, .own 0), (2, .val 0), (4, .cmp 0), (14, .val 0), (15, .val 0)]), (1, [(0, .own 0)])], [.row 3 0]⟩ (fun n z => z0f φ n z.1 z.2.1 z.2.2.1 z.2.2.2.1 z.2.2.2.2.1) (fun zk22 => .x))) (.seq (.seq .x (.body (.loop ⟨[(220, [(0, .own 0), (14, .val 0), (17, .val 0)]), (1, [(0, .own 0)])], [.row 3 0]⟩ (fun n z => z2m φ n z.1 z.2.1 z.2.2.1) (fun zk27 => .x)))) .x)))) .x)) (.seq .x (.seq .x (.seq .x (.seq (.join ⟨[(220, [(0, .own 0), (1, .val 0), (2, .val 0), (3, .val 0), (4, .cmp 0), (18, .val 0), (19, .val 0), (20, .val 0), (21, .val 0)]), (1, [(0, .own 0)])], [.row 3 0]⟩ (fun z => z2d φ (zj φ d) z.1 z.2.1 z.2.2.1 z.2.2.2.1 z.2.2.2.2.1 z.2.2.2.2.2.1 z.2.2.2.2.2.2.1 z.2.2.2.2.2.2.2.1 z.2.2.2.2.2.2.2.2.1) (.seq .x .x)) (.seq .x (.seq (.body (.loop ⟨[(220, [(0, .own 0), (1, .val 0), (2, .val 0), (3, .val 0), (4, .cmp 0), (18, .val 0), (19, .val 0), (20, .val 0), (21, .val 0), (22, .val 0)]), (1, [(0, .own 0)])], [.row 3 0]⟩ (fun n z => z0k φ (zj φ d) n z.1 z.2.1 z.2.2.1 z.2.2.2.1 z.2.2.2.2.1 z.2.2.2.2.2.1 z.2.2.2.2.2.2.1 z.2.2.2.2.2.2.2.1 z.2.2.2.2.2.2.2.2.1 z.2.2.2.2.2.2.2.2.2.1) (fun zk48 => .x))) (.seq .x (.seq (.join ⟨[(220, [(0, .own 0), (1, .val 0), (3, .val 0), (4, .cmp 0), (18, .val 0), (20, .val 0), (24, .val 0)]), (1, [(0, .own 0)])], [.row 3 0]⟩ (fun z => z2h φ (zj φ d) z.1 z.2.1 z.2.2.1 z.2.2.2.1 z.2.2.2.2.1 z.2.2.2.2.2.1 z.2.2.2.2.2.2.1) (.seq .x .x)) (.seq (.join ⟨[(220, [(0, .own 0), (3, .val 0), (4, .cmp 0), (18, .val 0), (24, .val 0)]), (1, [(0, .own 0)])], [.row 3 0]⟩ (fun z => z2l φ (zj φ d) z.1 z.2.1 z.2.2.1 z.2.2.2.1 z.2.2.2.2.1) (.seq .x .x)) .x)))))))))))
def z3h (P : Program) (φ d : Nat) : Env TV := ⟨P, lk [], lk [(188, z44 φ), (186, z0y φ d)], lk [], lk []⟩
theorem zar (φ d : Nat) (l a) : (z0y φ (d + 1)).F l a = fnM TV (z3h Tryz.prog φ d) φ Tryz.f186 3 0 [.val 0, .val 0, .val 0, .cmp 0] (z0w φ d) l a := by kernel_rfl
theorem zap (φ d : Nat) : fnMO TV (z3h Tryz.prog φ d) φ Tryz.f186 3 0 (z0w φ d) := by
 unfold fnMO
 show obl _ _ _ _ _ _ _
 unfold z0w
 repeat' (first | exact trivial | (refine ⟨?_, ?_⟩) | (intro _) | kernel_rfl)
theorem z5n [Dr] (φ : Nat) : ∀ d, zbw TV Tryz.prog 186 (z0y φ d)
 | 0 => fun l a l2 sv h => absurd (show (none : Option (List (TT 0))) = some l2 from h) (fun q => by cases q)
 | d + 1 => z8o (N := z3h Tryz.prog φ d) (zk trivial ⟨(zbz φ), (z5n φ d), trivial⟩ trivial trivial) (z0w φ d) Tryz.func186 (by kernel_rfl) (zar φ d) (zap φ d)
def z1r (φ : Nat) : H TV (List (TT 0)) := (.seq .x (.seq .x (.seq (.body (.loop ⟨[(63, [(0, .own 0), (1, .val 0), (2, .cmp 0), (6, .val 0), (7, .val 0), (8, .val 0)]), (1, [(0, .own 0)])], [.row 3 0]⟩ (fun n z => z38 φ n z.1 z.2.1 z.2.2.1 z.2.2.2.1 z.2.2.2.2.1 z.2.2.2.2.2.1) (fun zk10 => .x))) (.seq .x (.body (.loop ⟨[(63, [(0, .own 0), (1, .val 0), (2, .cmp 0), (6, .val 0)]), (1, [(0, .own 0)])], [.row 3 0]⟩ (fun n z => z3a φ n z.1 z.2.1 z.2.2.1 z.2.2.2.1) (fun zk17 => (.seq .x (.body (.seq .x (.seq (.body (.loop ⟨[(63, [(0, .own 0), (1, .val 0), (2, .cmp 0), (6, .val 0), (7, .val 0), (8, .val 0)]), (1, [(0, .own 0)])], [.row 3 0]⟩ (fun n z => z3c φ (fun a0 a1 a2 a3 => zk17 (a0, a1, a2, a3, ())) n z.1 z.2.1 z.2.2.1 z.2.2.2.1 z.2.2.2.2.1 z.2.2.2.2.2.1) (fun zk24 => .x))) .x)))))))))))
def z49 (P : Program) (φ : Nat) : Env TV := ⟨P, lk [], lk [(185, z1f φ), (186, z0y φ φ)], lk [], lk []⟩
theorem zc3 (φ : Nat) (l a) : (z3v φ).F l a = fnM TV (z49 Tryz.prog φ) φ Tryz.f179 3 0 [.val 0, .cmp 0] (z1r φ) l a := by kernel_rfl
theorem zc1 (φ : Nat) : fnMO TV (z49 Tryz.prog φ) φ Tryz.f179 3 0 (z1r φ) := by
 unfold fnMO
 show obl _ _ _ _ _ _ _
 unfold z1r
 repeat' (first | exact trivial | (refine ⟨?_, ?_⟩) | (intro _) | kernel_rfl)
theorem zcb [Dr] (φ : Nat) : zbw TV Tryz.prog 179 (z3v φ) := z8o (N := z49 Tryz.prog φ) (zk trivial ⟨(z7v φ), (z5n φ φ), trivial⟩ trivial trivial) (z1r φ) Tryz.func179 (by kernel_rfl) (zc3 φ) (zc1 φ)
def z14 (φ : Nat) : H TV (List (TT 0)) := .x
def z3r (P : Program) (φ : Nat) : Env TV := ⟨P, lk [], lk [(179, z3v φ)], lk [], lk []⟩
theorem zb0 (φ : Nat) (l a) : (z3q φ).F l a = fnM TV (z3r Tryz.prog φ) φ Tryz.f161 3 0 [.cmp 0] (z14 φ) l a := by kernel_rfl
theorem zbq (φ : Nat) : fnMO TV (z3r Tryz.prog φ) φ Tryz.f161 3 0 (z14 φ) := by
 unfold fnMO
 show obl _ _ _ _ _ _ _
 unfold z14
 repeat' (first | exact trivial | (refine ⟨?_, ?_⟩) | (intro _) | kernel_rfl)
theorem zbr [Dr] (φ : Nat) : zbw TV Tryz.prog 161 (z3q φ) := z8o (N := z3r Tryz.prog φ) (zk trivial ⟨(zcb φ), trivial⟩ trivial trivial) (z14 φ) Tryz.func161 (by kernel_rfl) (zb0 φ) (zbq φ)
def z67 (φ : Nat) : H TV (RTup TT [.val 1]) := .x
def z8q (P : Program) (φ : Nat) : Env TV := ⟨P, lk [], lk [], lk [], lk []⟩
theorem zjs (φ : Nat) (a) : (z94 φ).F a = fnX TV (z8q Tryz.prog φ) φ Tryz.f163 [39, 7] [.val 1] (z67 φ) a := by kernel_rfl
theorem zkb (φ : Nat) : fnO TV (z8q Tryz.prog φ) φ Tryz.f163 [.val 1] (z67 φ) := by
 unfold fnO
 show obl _ _ _ _ _ _ _
 unfold z67
 repeat' (first | exact trivial | (refine ⟨?_, ?_⟩) | (intro _) | kernel_rfl)
theorem zjj [Dr] (φ : Nat) : z1k TV Tryz.prog 163 (z94 φ) :=
 z2r (N := z8q Tryz.prog φ) (zk trivial trivial trivial trivial) (z67 φ) Tryz.func163 (by kernel_rfl) (zjs φ) (zkb φ)
def z9c (φ : Nat) : H TV (RTup TT [.val 0]) := .x
def zd6 (P : Program) (φ : Nat) : Env TV := ⟨P, lk [], lk [], lk [], lk []⟩
theorem zoh (φ : Nat) (a) : (zct φ).F a = fnX TV (zd6 Tryz.prog φ) φ Tryz.f164 [7, 7] [.val 0] (z9c φ) a := by kernel_rfl
theorem zon (φ : Nat) : fnO TV (zd6 Tryz.prog φ) φ Tryz.f164 [.val 0] (z9c φ) := by
 unfold fnO
 show obl _ _ _ _ _ _ _
 unfold z9c
 repeat' (first | exact trivial | (refine ⟨?_, ?_⟩) | (intro _) | kernel_rfl)
theorem zoi [Dr] (φ : Nat) : z1k TV Tryz.prog 164 (zct φ) :=
 z2r (N := zd6 Tryz.prog φ) (zk trivial trivial trivial trivial) (z9c φ) Tryz.func164 (by kernel_rfl) (zoh φ) (zon φ)
def z6v (φ : Nat) : H TV (RTup TT [.val 43]) := (.seq .x (.seq .x (.seq .x (.seq .x (.seq .x (.seq .x (.seq (.seq .x (.body (.loop ⟨[(137, [(2, .ptr 0 0), (3, .ptr 1 0), (6, .own 2), (7, .own 3), (8, .own 4), (29, .own 5), (30, .val 0), (31, .val 0)])], [.box 51 [.val 39], .box 22 [.val 10], .row 3 0, .map 0 1 0, .row 200 42, .row 3 0]⟩ (fun n z => z5t φ n z.1 z.2.1 z.2.2.1 z.2.2.2.1 z.2.2.2.2.1 z.2.2.2.2.2.1 z.2.2.2.2.2.2.1 z.2.2.2.2.2.2.2.1) (fun zk15 => (.seq .x (.seq .x (.seq (.body (.seq .x (.body (.seq .x (.seq .x (.seq .x (.seq .x (.seq (.seq .x (.body (.loop ⟨[(137, [(2, .ptr 0 0), (3, .ptr 1 0), (6, .own 2), (7, .own 3), (8, .own 4), (10, .val 0), (11, .ptr 5 0), (12, .val 0), (29, .own 6), (30, .val 0), (31, .val 0), (43, .own 2), (44, .val 0), (45, .val 0)])], [.box 51 [.val 39], .box 22 [.val 10], .row 3 0, .map 0 1 0, .row 200 42, .box 57 [.val 7], .row 3 0]⟩ (fun n z => z4b φ (fun a0 a1 a2 a3 a4 a5 a6 a7 => zk15 (a0, a1, a2, a3, a4, a5, a6, a7, ())) n z.1 z.2.1 z.2.2.1 z.2.2.2.1 z.2.2.2.2.1 z.2.2.2.2.2.1 z.2.2.2.2.2.2.1 z.2.2.2.2.2.2.2.1 z.2.2.2.2.2.2.2.2.1 z.2.2.2.2.2.2.2.2.2.1 z.2.2.2.2.2.2.2.2.2.2.1 z.2.2.2.2.2.2.2.2.2.2.2.1 z.2.2.2.2.2.2.2.2.2.2.2.2.1) (fun zk30 => .x)))) .x)))))))) .x))))))) .x)))))))
def za7 (P : Program) (φ : Nat) : Env TV := ⟨P, lk [(49, z3l φ), (160, zdt φ), (163, z94 φ), (164, zct φ), (40, z34 φ), (139, z5d φ), (39, zav φ)], lk [(161, z3q φ)], lk [(162, z8d φ)], lk []⟩
theorem zlj (φ : Nat) (a) : (zal φ).F a = fnX TV (za7 Tryz.prog φ) φ Tryz.f136 [39, 10] [.val 43] (z6v φ) a := by kernel_rfl
theorem zld (φ : Nat) : fnO TV (za7 Tryz.prog φ) φ Tryz.f136 [.val 43] (z6v φ) := by
 unfold fnO
 show obl _ _ _ _ _ _ _
 unfold z6v
 repeat' (first | exact trivial | (refine ⟨?_, ?_⟩) | (intro _) | kernel_rfl)
theorem zlx [Dr] (φ : Nat) : z1k TV Tryz.prog 136 (zal φ) :=
 z2r (N := za7 Tryz.prog φ) (zk ⟨z68 φ, zqu φ, zjj φ, zoi φ, z56 φ, z9s φ, zdr φ, trivial⟩ ⟨(zbr φ), trivial⟩ ⟨zj3 φ, trivial⟩ trivial) (z6v φ) Tryz.func136 (by kernel_rfl) (zlj φ) (zld φ)
def z06 (φ : Nat) : H TV (List (TT 44)) := (.seq .x (.body (.loop ⟨[(53, [(0, .own 0), (1, .val 0), (2, .val 0), (3, .cmp 44), (8, .val 0)]), (1, [(0, .own 0)])], [.row 165 44]⟩ (fun n z => z0r φ n z.1 z.2.1 z.2.2.1 z.2.2.2.1 z.2.2.2.2.1) (fun zk10 => (.seq .x (.seq (.body (.seq .x (.body (.loop ⟨[(53, [(0, .own 0), (1, .val 0), (2, .val 0), (3, .cmp 44), (8, .val 0), (9, .val 0)]), (1, [(0, .own 0)])], [.row 165 44]⟩ (fun n z => z0q φ (fun a0 a1 a2 a3 a4 => zk10 (a0, a1, a2, a3, a4, ())) n z.1 z.2.1 z.2.2.1 z.2.2.2.1 z.2.2.2.2.1 z.2.2.2.2.2.1) (fun zk17 => .x))))) .x))))))
def z16 (P : Program) (φ : Nat) : Env TV := ⟨P, lk [], lk [], lk [], lk []⟩
theorem z88 (φ : Nat) (l a) : (z13 φ).F l a = fnM TV (z16 Tryz.prog φ) φ Tryz.f180 165 44 [.val 0, .val 0, .cmp 44] (z06 φ) l a := by kernel_rfl
theorem z8a (φ : Nat) : fnMO TV (z16 Tryz.prog φ) φ Tryz.f180 165 44 (z06 φ) := by
 unfold fnMO
 show obl _ _ _ _ _ _ _
 unfold z06
 repeat' (first | exact trivial | (refine ⟨?_, ?_⟩) | (intro _) | kernel_rfl)
theorem z83 [Dr] (φ : Nat) : zbw TV Tryz.prog 180 (z13 φ) := z8o (N := z16 Tryz.prog φ) (zk trivial trivial trivial trivial) (z06 φ) Tryz.func180 (by kernel_rfl) (z88 φ) (z8a φ)
def z0m (φ : Nat) : H TV (List (TT 44)) := (.seq .x (.body (.loop ⟨[(38, [(0, .own 0), (1, .val 0), (2, .val 0), (3, .val 0), (10, .val 0)]), (1, [(0, .own 0)])], [.row 165 44]⟩ (fun n z => z1w φ n z.1 z.2.1 z.2.2.1 z.2.2.2.1 z.2.2.2.2.1) (fun zk11 => .x))))
def z2w (P : Program) (φ : Nat) : Env TV := ⟨P, lk [], lk [], lk [], lk []⟩
theorem zak (φ : Nat) (l a) : (z2z φ).F l a = fnM TV (z2w Tryz.prog φ) φ Tryz.f189 165 44 [.val 0, .val 0, .val 0, .cmp 44] (z0m φ) l a := by kernel_rfl
theorem zaf (φ : Nat) : fnMO TV (z2w Tryz.prog φ) φ Tryz.f189 165 44 (z0m φ) := by
 unfold fnMO
 show obl _ _ _ _ _ _ _
 unfold z0m
 repeat' (first | exact trivial | (refine ⟨?_, ?_⟩) | (intro _) | kernel_rfl)
theorem zaa [Dr] (φ : Nat) : zbw TV Tryz.prog 189 (z2z φ) := z8o (N := z2w Tryz.prog φ) (zk trivial trivial trivial trivial) (z0m φ) Tryz.func189 (by kernel_rfl) (zak φ) (zaf φ)
def z1o (φ : Nat) : H TV (List (TT 44)) := (.seq .x (.seq .x (.seq (.body (.loop ⟨[(58, [(0, .own 0), (2, .val 0), (4, .cmp 44), (10, .val 0), (11, .val 0)]), (1, [(0, .own 0)])], [.row 165 44]⟩ (fun n z => z0x φ n z.1 z.2.1 z.2.2.1 z.2.2.2.1 z.2.2.2.2.1) (fun zk11 => .x))) .x)))
def z47 (P : Program) (φ : Nat) : Env TV := ⟨P, lk [], lk [(189, z2z φ)], lk [], lk []⟩
theorem zc5 (φ : Nat) (l a) : (z41 φ).F l a = fnM TV (z47 Tryz.prog φ) φ Tryz.f187 165 44 [.val 0, .val 0, .val 0, .cmp 44] (z1o φ) l a := by kernel_rfl
theorem zca (φ : Nat) : fnMO TV (z47 Tryz.prog φ) φ Tryz.f187 165 44 (z1o φ) := by
 unfold fnMO
 show obl _ _ _ _ _ _ _
 unfold z1o
 repeat' (first | exact trivial | (refine ⟨?_, ?_⟩) | (intro _) | kernel_rfl)
theorem zc2 [Dr] (φ : Nat) : zbw TV Tryz.prog 187 (z41 φ) := z8o (N := z47 Tryz.prog φ) (zk trivial ⟨(zaa φ), trivial⟩ trivial trivial) (z1o φ) Tryz.func187 (by kernel_rfl) (zc5 φ) (zca φ)
def z0v (φ d : Nat) : H TV (List (TT 44)) := (.seq (.seq .x (.cond (.seq .x (.seq .x (.seq (.body (.loop ⟨[(220, [(0, .own 0), (1, .val 0), (4, .cmp 44), (10, .val 0), (11, .val 0)]), (1, [(0, .own 0)])], [.row 165 44]⟩ (fun n z => z0g φ n z.1 z.2.1 z.2.2.1 z.2.2.2.1 z.2.2.2.2.1) (fun zk11 => .x))) (.seq (.seq .x (.body (.loop ⟨[(220, [(0, .own 0), (10, .val 0), (13, .val 0)]), (1, [(0, .own 0)])], [.row 165 44]⟩ (fun n z => z2g φ n z.1 z.2.1 z.2.2.1) (fun zk16 => .x)))) .x)))) .x)) (.seq (.seq .x (.cond (.seq .x (.seq .x (.seq (.body (.loop ⟨[(220, [(0, .own 0), (2, .val 0), (4, .cmp 44), (14, .val 0), (15, .val 0)]), (1, [(0, .own 0)])], [.row 165 44]⟩ (fun n z => z0h φ n z.1 z.2.1 z.2.2.1 z.2.2.2.1 z.2.2.2.2.1) (fun zk22 => .x))) (.seq (.seq .x (.body (.loop ⟨[(220, [(0, .own 0), (14, .val 0), (17, .val 0)]), (1, [(0, .own 0)])], [.row 165 44]⟩ (fun n z => z2p φ n z.1 z.2.1 z.2.2.1) (fun zk27 => .x)))) .x)))) .x)) (.seq .x (.seq .x (.seq .x (.seq (.join ⟨[(220, [(0, .own 0), (1, .val 0), (2, .val 0), (3, .val 0), (4, .cmp 44), (18, .val 0), (19, .val 0), (20, .val 0), (21, .val 0)]), (1, [(0, .own 0)])], [.row 165 44]⟩ (fun z => z2e φ (zi φ d) z.1 z.2.1 z.2.2.1 z.2.2.2.1 z.2.2.2.2.1 z.2.2.2.2.2.1 z.2.2.2.2.2.2.1 z.2.2.2.2.2.2.2.1 z.2.2.2.2.2.2.2.2.1) (.seq .x .x)) (.seq .x (.seq (.body (.loop ⟨[(220, [(0, .own 0), (1, .val 0), (2, .val 0), (3, .val 0), (4, .cmp 44), (18, .val 0), (19, .val 0), (20, .val 0), (21, .val 0), (22, .val 0)]), (1, [(0, .own 0)])], [.row 165 44]⟩ (fun n z => z0c φ (zi φ d) n z.1 z.2.1 z.2.2.1 z.2.2.2.1 z.2.2.2.2.1 z.2.2.2.2.2.1 z.2.2.2.2.2.2.1 z.2.2.2.2.2.2.2.1 z.2.2.2.2.2.2.2.2.1 z.2.2.2.2.2.2.2.2.2.1) (fun zk48 => .x))) (.seq .x (.seq (.join ⟨[(220, [(0, .own 0), (1, .val 0), (3, .val 0), (4, .cmp 44), (18, .val 0), (20, .val 0), (24, .val 0)]), (1, [(0, .own 0)])], [.row 165 44]⟩ (fun z => z2k φ (zi φ d) z.1 z.2.1 z.2.2.1 z.2.2.2.1 z.2.2.2.2.1 z.2.2.2.2.2.1 z.2.2.2.2.2.2.1) (.seq .x .x)) (.seq (.join ⟨[(220, [(0, .own 0), (3, .val 0), (4, .cmp 44), (18, .val 0), (24, .val 0)]), (1, [(0, .own 0)])], [.row 165 44]⟩ (fun z => z2o φ (zi φ d) z.1 z.2.1 z.2.2.1 z.2.2.2.1 z.2.2.2.2.1) (.seq .x .x)) .x)))))))))))
def z35 (P : Program) (φ d : Nat) : Env TV := ⟨P, lk [], lk [(187, z41 φ), (181, z10 φ d)], lk [], lk []⟩
theorem zao (φ d : Nat) (l a) : (z10 φ (d + 1)).F l a = fnM TV (z35 Tryz.prog φ d) φ Tryz.f181 165 44 [.val 0, .val 0, .val 0, .cmp 44] (z0v φ d) l a := by kernel_rfl
theorem zaw (φ d : Nat) : fnMO TV (z35 Tryz.prog φ d) φ Tryz.f181 165 44 (z0v φ d) := by
 unfold fnMO
 show obl _ _ _ _ _ _ _
 unfold z0v
 repeat' (first | exact trivial | (refine ⟨?_, ?_⟩) | (intro _) | kernel_rfl)
theorem z5r [Dr] (φ : Nat) : ∀ d, zbw TV Tryz.prog 181 (z10 φ d)
 | 0 => fun l a l2 sv h => absurd (show (none : Option (List (TT 44))) = some l2 from h) (fun q => by cases q)
 | d + 1 => z8o (N := z35 Tryz.prog φ d) (zk trivial ⟨(zc2 φ), (z5r φ d), trivial⟩ trivial trivial) (z0v φ d) Tryz.func181 (by kernel_rfl) (zao φ d) (zaw φ d)
def z1m (φ : Nat) : H TV (List (TT 44)) := (.seq .x (.seq .x (.seq (.body (.loop ⟨[(63, [(0, .own 0), (1, .val 0), (2, .cmp 44), (6, .val 0), (7, .val 0), (8, .val 0)]), (1, [(0, .own 0)])], [.row 165 44]⟩ (fun n z => z3d φ n z.1 z.2.1 z.2.2.1 z.2.2.2.1 z.2.2.2.2.1 z.2.2.2.2.2.1) (fun zk10 => .x))) (.seq .x (.body (.loop ⟨[(63, [(0, .own 0), (1, .val 0), (2, .cmp 44), (6, .val 0)]), (1, [(0, .own 0)])], [.row 165 44]⟩ (fun n z => z3b φ n z.1 z.2.1 z.2.2.1 z.2.2.2.1) (fun zk17 => (.seq .x (.body (.seq .x (.seq (.body (.loop ⟨[(63, [(0, .own 0), (1, .val 0), (2, .cmp 44), (6, .val 0), (7, .val 0), (8, .val 0)]), (1, [(0, .own 0)])], [.row 165 44]⟩ (fun n z => z3e φ (fun a0 a1 a2 a3 => zk17 (a0, a1, a2, a3, ())) n z.1 z.2.1 z.2.2.1 z.2.2.2.1 z.2.2.2.2.1 z.2.2.2.2.2.1) (fun zk24 => .x))) .x)))))))))))
def z3y (P : Program) (φ : Nat) : Env TV := ⟨P, lk [], lk [(180, z13 φ), (181, z10 φ φ)], lk [], lk []⟩
theorem zc9 (φ : Nat) (l a) : (z3x φ).F l a = fnM TV (z3y Tryz.prog φ) φ Tryz.f165 165 44 [.val 0, .cmp 44] (z1m φ) l a := by kernel_rfl
theorem zc6 (φ : Nat) : fnMO TV (z3y Tryz.prog φ) φ Tryz.f165 165 44 (z1m φ) := by
 unfold fnMO
 show obl _ _ _ _ _ _ _
 unfold z1m
 repeat' (first | exact trivial | (refine ⟨?_, ?_⟩) | (intro _) | kernel_rfl)
theorem zc8 [Dr] (φ : Nat) : zbw TV Tryz.prog 165 (z3x φ) := z8o (N := z3y Tryz.prog φ) (zk trivial ⟨(z83 φ), (z5r φ φ), trivial⟩ trivial trivial) (z1m φ) Tryz.func165 (by kernel_rfl) (zc9 φ) (zc6 φ)
def z1g (φ : Nat) : H TV (List (TT 44)) := .x
def z3p (P : Program) (φ : Nat) : Env TV := ⟨P, lk [], lk [(165, z3x φ)], lk [], lk []⟩
theorem zbh (φ : Nat) (l a) : (z3o φ).F l a = fnM TV (z3p Tryz.prog φ) φ Tryz.f137 165 44 [.cmp 44] (z1g φ) l a := by kernel_rfl
theorem zb8 (φ : Nat) : fnMO TV (z3p Tryz.prog φ) φ Tryz.f137 165 44 (z1g φ) := by
 unfold fnMO
 show obl _ _ _ _ _ _ _
 unfold z1g
 repeat' (first | exact trivial | (refine ⟨?_, ?_⟩) | (intro _) | kernel_rfl)
theorem zb5 [Dr] (φ : Nat) : zbw TV Tryz.prog 137 (z3o φ) := z8o (N := z3p Tryz.prog φ) (zk trivial ⟨(zc8 φ), trivial⟩ trivial trivial) (z1g φ) Tryz.func137 (by kernel_rfl) (zbh φ) (zb8 φ)
def z5q (φ : Nat) : H TV (RTup TT [.val 0]) := .x
def z87 (P : Program) (φ : Nat) : Env TV := ⟨P, lk [(40, z34 φ), (139, z5d φ), (39, zav φ)], lk [], lk [], lk []⟩
theorem zja (φ : Nat) (a) : (z7z φ).F a = fnX TV (z87 Tryz.prog φ) φ Tryz.f138 [44, 44] [.val 0] (z5q φ) a := by kernel_rfl
theorem zil (φ : Nat) : fnO TV (z87 Tryz.prog φ) φ Tryz.f138 [.val 0] (z5q φ) := by
 unfold fnO
 show obl _ _ _ _ _ _ _
 unfold z5q
 repeat' (first | exact trivial | (refine ⟨?_, ?_⟩) | (intro _) | kernel_rfl)
theorem zjb [Dr] (φ : Nat) : z1k TV Tryz.prog 138 (z7z φ) :=
 z2r (N := z87 Tryz.prog φ) (zk ⟨z56 φ, z9s φ, zdr φ, trivial⟩ trivial trivial trivial) (z5q φ) Tryz.func138 (by kernel_rfl) (zja φ) (zil φ)
theorem zga (φ : Nat) (k9 : ((List z6) -> (List (Nat -> Int)) -> Int -> Int -> (List z7) -> Option ((List z7) × Unit))) (x18 : (List z6)) (x19 : (List (Nat -> Int))) (x20 : Int) (x21 : Int) (x22 : (List z7)) (x23 : (Nat -> Int)) : z8r (z5u φ k9 x18 x19 x20 x21 x22 x23) (z7h φ k9 x18 x19 x20 x21 x22 x23) := by
 unfold z5u z7h
 repeat' (first | exact z8r.one | exact z8r.nil | refine z8r.cons ?_ ?_ | refine z8r.ck ?_ | exact z8r.same (n := 2) rfl | exact z8r.same (n := 3) rfl | exact z8r.same (n := 4) rfl | exact z8r.same (n := 6) rfl | refine z8r.bind fun _ => ?_)
def z6s (φ : Nat) : H TV (RTup TT [.val 45]) := (.seq .x (.seq .x (.seq (.seq .x (.body (.loop ⟨[(67, [(1, .val 10), (5, .own 0), (12, .val 43), (13, .val 0), (14, .val 0)])], [.row 165 44]⟩ (fun n z => z92 φ n z.1 z.2.1 z.2.2.1 z.2.2.2.1 z.2.2.2.2.1) (fun zk9 => (.seq .x (.seq .x (.seq (.body (.seq .x (.seq (.join ⟨[(67, [(1, .val 10), (5, .own 0), (8, .ptr 1 0), (9, .ptr 2 0), (12, .val 43), (13, .val 0), (14, .val 0)])], [.row 165 44, .box 57 [.val 7], .box 57 [.val 7]]⟩ (fun z => z5s φ (fun a0 a1 a2 a3 a4 => zk9 (a0, a1, a2, a3, a4, ())) z.1 z.2.1 z.2.2.1 z.2.2.2.1 z.2.2.2.2.1 z.2.2.2.2.2.1 z.2.2.2.2.2.2.1) (.alt ⟨[(67, [(1, .val 10), (5, .own 0), (7, .ptr 1 0), (12, .val 43), (13, .val 0), (14, .val 0)])], [.row 165 44, .box 200 [.val 42]]⟩ (fun z => z5u φ (fun a0 a1 a2 a3 a4 => zk9 (a0, a1, a2, a3, a4, ())) z.1 z.2.1 z.2.2.1 z.2.2.2.1 z.2.2.2.2.1 z.2.2.2.2.2.1) (fun z => z7h φ (fun a0 a1 a2 a3 a4 => zk9 (a0, a1, a2, a3, a4, ())) z.1 z.2.1 z.2.2.1 z.2.2.2.1 z.2.2.2.2.1 z.2.2.2.2.2.1))) .x))) .x))))))) .x)))
def z9y (P : Program) (φ : Nat) : Env TV := ⟨P, lk [(136, zal φ), (138, z7z φ)], lk [(137, z3o φ)], lk [], lk []⟩
theorem zl8 (φ : Nat) (a) : (z9u φ).F a = fnX TV (z9y Tryz.prog φ) φ Tryz.f98 [39, 10] [.val 45] (z6s φ) a := by kernel_rfl
theorem zly (φ : Nat) : fnO TV (z9y Tryz.prog φ) φ Tryz.f98 [.val 45] (z6s φ) := by
 unfold fnO
 show obl _ _ _ _ _ _ _
 unfold z6s
 repeat' (first | exact trivial | (refine ⟨?_, ?_⟩) | (intro _) | kernel_rfl | exact zga ..)
theorem zlh [Dr] (φ : Nat) : z1k TV Tryz.prog 98 (z9u φ) :=
 z2r (N := z9y Tryz.prog φ) (zk ⟨zlx φ, zjb φ, trivial⟩ ⟨(zb5 φ), trivial⟩ trivial trivial) (z6s φ) Tryz.func98 (by kernel_rfl) (zl8 φ) (zly φ)
def z75 (φ : Nat) : H TV (RTup TT [.val 47]) := (.seq .x (.seq .x (.seq (.seq .x (.body (.loop ⟨[(72, [(2, .val 0), (7, .own 0), (28, .val 45), (29, .val 0), (30, .val 0)])], [.row 127 46]⟩ (fun n z => z5o φ n z.1 z.2.1 z.2.2.1 z.2.2.2.1 z.2.2.2.2.1) (fun zk10 => .x)))) .x)))
def z9z (P : Program) (φ : Nat) : Env TV := ⟨P, lk [(98, z9u φ)], lk [], lk [], lk []⟩
theorem zl4 (φ : Nat) (a) : (za3 φ).F a = fnX TV (z9z Tryz.prog φ) φ Tryz.f62 [39, 10, 0] [.val 47] (z75 φ) a := by kernel_rfl
theorem zm4 (φ : Nat) : fnO TV (z9z Tryz.prog φ) φ Tryz.f62 [.val 47] (z75 φ) := by
 unfold fnO
 show obl _ _ _ _ _ _ _
 unfold z75
 repeat' (first | exact trivial | (refine ⟨?_, ?_⟩) | (intro _) | kernel_rfl)
theorem zla [Dr] (φ : Nat) : z1k TV Tryz.prog 62 (za3 φ) :=
 z2r (N := z9z Tryz.prog φ) (zk ⟨zlh φ, trivial⟩ trivial trivial trivial) (z75 φ) Tryz.func62 (by kernel_rfl) (zl4 φ) (zm4 φ)
def zaz (φ : Nat) : H TV (RTup TT [.val 0, .val 0]) := (.seq .x (.seq .x (.seq .x (.seq .x (.seq (.body (.loop ⟨[(42, [(3, .val 0), (11, .val 47), (12, .val 0)])], []⟩ (fun n z => zbm φ n z.1 z.2.1 z.2.2.1) (fun zk10 => .x))) .x)))))
def zek (P : Program) (φ : Nat) : Env TV := ⟨P, lk [(61, zae φ), (62, za3 φ)], lk [], lk [], lk []⟩
theorem zr9 (φ : Nat) (a) : (zel φ).F a = fnX TV (zek Tryz.prog φ) φ Tryz.f32 [39, 10, 0, 0] [.val 0, .val 0] (zaz φ) a := by kernel_rfl
theorem zq4 (φ : Nat) : fnO TV (zek Tryz.prog φ) φ Tryz.f32 [.val 0, .val 0] (zaz φ) := by
 unfold fnO
 show obl _ _ _ _ _ _ _
 unfold zaz
 repeat' (first | exact trivial | (refine ⟨?_, ?_⟩) | (intro _) | kernel_rfl)
theorem zqq [Dr] (φ : Nat) : z1k TV Tryz.prog 32 (zel φ) :=
 z2r (N := zek Tryz.prog φ) (zk ⟨zl9 φ, zla φ, trivial⟩ trivial trivial trivial) (zaz φ) Tryz.func32 (by kernel_rfl) (zr9 φ) (zq4 φ)
def z98 (φ : Nat) : H TV (RTup TT [.val 0, .val 0]) := (.seq .x (.seq .x (.seq .x (.seq .x (.seq (.seq .x (.body (.loop ⟨[(116, [(1, .val 10), (3, .ptr 0 0), (5, .ptr 1 0), (9, .ptr 2 0), (35, .val 5), (36, .val 0), (37, .val 0)])], [.box 51 [.val 39], .box 57 [.val 7], .box 114 [.own 3], .map 9 1 0]⟩ (fun n z => z6z φ n z.1 z.2.1 z.2.2.1 z.2.2.2.1 z.2.2.2.2.1 z.2.2.2.2.2.1 z.2.2.2.2.2.2.1) (fun zk13 => .x)))) (.seq .x (.seq (.seq .x (.body (.loop ⟨[(116, [(1, .val 10), (3, .ptr 0 0), (5, .ptr 1 0), (9, .ptr 2 0), (12, .own 3), (48, .val 10), (49, .val 0), (50, .val 0)])], [.box 51 [.val 39], .box 57 [.val 7], .box 114 [.own 4], .row 57 7, .map 9 1 0]⟩ (fun n z => zab φ n z.1 z.2.1 z.2.2.1 z.2.2.2.1 z.2.2.2.2.1 z.2.2.2.2.2.1 z.2.2.2.2.2.2.1 z.2.2.2.2.2.2.2.1) (fun zk23 => (.seq .x (.seq .x (.seq (.body (.seq .x (.seq (.ins 4 50 (.seq .x (.seq (.ins 2 78 (.seq .x (.seq (.seq .x (.body (.loop ⟨[(19, [(0, .val 5), (1, .func 51 [.ptr 0 0]), (7, .val 0), (8, .val 0)]), (9, []), (116, [(1, .val 10), (3, .ptr 1 0), (5, .ptr 2 0), (9, .ptr 0 0), (12, .own 3), (14, .ptr 4 0), (48, .val 10), (49, .val 0), (50, .val 0)])], [.box 114 [.own 5], .box 51 [.val 39], .box 57 [.val 7], .row 57 7, .box 57 [.val 7], .map 9 1 0]⟩ (fun n z => z9x φ (fun a0 a1 a2 a3 a4 a5 a6 a7 => zk23 (a0, a1, a2, a3, a4, a5, a6, a7, ())) n z.1 z.2.1 z.2.2.1 z.2.2.2.1 z.2.2.2.2.1 z.2.2.2.2.2.1 z.2.2.2.2.2.2.1 z.2.2.2.2.2.2.2.1 z.2.2.2.2.2.2.2.2.1 z.2.2.2.2.2.2.2.2.2.1 z.2.2.2.2.2.2.2.2.2.2.1 z.2.2.2.2.2.2.2.2.2.2.2.1) (fun zk36 => .x)))) .x)) .x) .x)) .x) .x))) .x))))))) (.seq (.frz [(9, some 0), (3, none), (5, none), (9, none)] .x) .x))))))))
def zcu (P : Program) (φ : Nat) : Env TV := ⟨P, lk [(49, z3l φ), (30, zec φ), (47, z7l φ), (53, z99 φ), (32, zel φ)], lk [(52, z3g φ)], lk [(51, zag φ)], lk []⟩
theorem zor (φ : Nat) (a) : (zdb φ).F a = fnX TV (zcu Tryz.prog φ) φ Tryz.f22 [39, 10, 7] [.val 0, .val 0] (z98 φ) a := by kernel_rfl
theorem zog (φ : Nat) : fnO TV (zcu Tryz.prog φ) φ Tryz.f22 [.val 0, .val 0] (z98 φ) := by
 unfold fnO
 show obl _ _ _ _ _ _ _
 unfold z98
 repeat' (first | exact trivial | (refine ⟨?_, ?_⟩) | (intro _) | kernel_rfl)
theorem zol [Dr] (φ : Nat) : z1k TV Tryz.prog 22 (zdb φ) :=
 z2r (N := zcu Tryz.prog φ) (zk ⟨z68 φ, zo3 φ, zb2 φ, zh5 φ, zqq φ, trivial⟩ ⟨(z8f φ), trivial⟩ ⟨zlt φ, trivial⟩ trivial) (z98 φ) Tryz.func22 (by kernel_rfl) (zor φ) (zog φ)
def zce (φ : Nat) : H TV (RTup TT [.val 1]) := .x
def zfs (P : Program) (φ : Nat) : Env TV := ⟨P, lk [(26, z9i φ), (25, z6u φ), (16, z8w φ), (33, zbf φ), (15, z6h φ), (13, zby φ), (12, z8s φ), (24, z9b φ), (19, z9n φ), (18, z9p φ), (34, zg7 φ), (22, zdb φ)], lk [], lk [], lk []⟩
theorem zrv (φ : Nat) (a) : (zf7 φ).F a = fnX TV (zfs Tryz.prog φ) φ Tryz.f10 [] [.val 1] (zce φ) a := by kernel_rfl
theorem zs7 (φ : Nat) : fnO TV (zfs Tryz.prog φ) φ Tryz.f10 [.val 1] (zce φ) := by
 unfold fnO
 show obl _ _ _ _ _ _ _
 unfold zce
 repeat' (first | exact trivial | (refine ⟨?_, ?_⟩) | (intro _) | kernel_rfl)
theorem zrr (φ : Nat) : z1k TV Tryz.prog 10 (zf7 φ) :=
 z2r (N := zfs Tryz.prog φ) (zk ⟨zg8 φ, zen φ, zjl φ, zn5 φ, zgu φ, znw φ, zjf φ, zh4 φ, zlp φ, zlv φ, zsz φ, zol φ, trivial⟩ trivial trivial trivial) (zce φ) Tryz.func10 (by kernel_rfl) (zrv φ) (zs7 φ)
def ze9 (φ : Nat) : H TV (RTup TT [.val 1]) := (.seq .x (.seq .x (.seq (.seq .x (.body (.loop ⟨[(21, [(0, .val 10), (3, .val 0)])], []⟩ (fun n z => z7s φ n z.1 z.2.1) (fun zk4 => .x)))) .x)))
def zi1 (P : Program) (φ : Nat) : Env TV := ⟨P, lk [], lk [], lk [], lk []⟩
theorem ztr (φ : Nat) (a) : (zhu φ).F a = fnX TV (zi1 Tryz.prog φ) φ Tryz.f11 [10] [.val 1] (ze9 φ) a := by kernel_rfl
theorem zui (φ : Nat) : fnO TV (zi1 Tryz.prog φ) φ Tryz.f11 [.val 1] (ze9 φ) := by
 unfold fnO
 show obl _ _ _ _ _ _ _
 unfold ze9
 repeat' (first | exact trivial | (refine ⟨?_, ?_⟩) | (intro _) | kernel_rfl)
theorem ztx [Dr] (φ : Nat) : z1k TV Tryz.prog 11 (zhu φ) :=
 z2r (N := zi1 Tryz.prog φ) (zk trivial trivial trivial trivial) (ze9 φ) Tryz.func11 (by kernel_rfl) (ztr φ) (zui φ)
end Px
end
section
set_option linter.unusedVariables false
set_option linter.unusedSimpArgs false
set_option maxHeartbeats 4000000
set_option maxRecDepth 100000
namespace Px
open Go Go.RowKit Go.Proofs
def z71 (φ : Nat) : H TV (RTup TT [.val 1]) := (.seq .x (.seq (.seq .x (.body (.loop ⟨[(19, [(0, .val 14), (1, .val 0), (5, .val 0)])], []⟩ (fun n z => z3k φ n z.1 z.2.1 z.2.2.1) (fun zk6 => .x)))) .x))
def za5 (P : Program) (φ : Nat) : Env TV := ⟨P, lk [], lk [], lk [], lk []⟩
theorem zm6 (φ : Nat) (a) : (z9m φ).F a = fnX TV (za5 Tryz.prog φ) φ Tryz.f27 [14, 0] [.val 1] (z71 φ) a := by kernel_rfl
theorem zlq (φ : Nat) : fnO TV (za5 Tryz.prog φ) φ Tryz.f27 [.val 1] (z71 φ) := by
 unfold fnO
 show obl _ _ _ _ _ _ _
 unfold z71
 repeat' (first | exact trivial | (refine ⟨?_, ?_⟩) | (intro _) | kernel_rfl)
theorem zlb [Dr] (φ : Nat) : z1k TV Tryz.prog 27 (z9m φ) :=
 z2r (N := za5 Tryz.prog φ) (zk trivial trivial trivial trivial) (z71 φ) Tryz.func27 (by kernel_rfl) (zm6 φ) (zlq φ)
def zef (φ : Nat) : H TV (RTup TT [.val 1]) := (.seq .x (.seq (.seq .x (.body (.loop ⟨[(18, [(0, .val 8), (1, .val 0), (5, .val 0)])], []⟩ (fun n z => z7m φ n z.1 z.2.1 z.2.2.1) (fun zk6 => .x)))) .x))
def zhl (P : Program) (φ : Nat) : Env TV := ⟨P, lk [], lk [], lk [], lk []⟩
theorem zvd (φ : Nat) (a) : (zi3 φ).F a = fnX TV (zhl Tryz.prog φ) φ Tryz.f28 [8, 0] [.val 1] (zef φ) a := by kernel_rfl
theorem zv5 (φ : Nat) : fnO TV (zhl Tryz.prog φ) φ Tryz.f28 [.val 1] (zef φ) := by
 unfold fnO
 show obl _ _ _ _ _ _ _
 unfold zef
 repeat' (first | exact trivial | (refine ⟨?_, ?_⟩) | (intro _) | kernel_rfl)
theorem zuw [Dr] (φ : Nat) : z1k TV Tryz.prog 28 (zi3 φ) :=
 z2r (N := zhl Tryz.prog φ) (zk trivial trivial trivial trivial) (zef φ) Tryz.func28 (by kernel_rfl) (zvd φ) (zv5 φ)
def z5a (φ : Nat) : H TV (RTup TT [.val 1]) := (.seq .x (.seq .x (.seq .x (.seq (.seq .x (.body (.loop ⟨[(147, [(0, .val 51), (1, .val 10), (5, .val 0)])], []⟩ (fun n z => z0b φ n z.1 z.2.1 z.2.2.1) (fun zk8 => (.seq .x (.seq (.body (.seq .x (.body (.loop ⟨[(147, [(0, .val 51), (1, .val 10), (5, .val 0), (6, .val 0)])], []⟩ (fun n z => z0u φ (fun a0 a1 a2 => zk8 (a0, a1, a2, ())) n z.1 z.2.1 z.2.2.1 z.2.2.2.1) (fun zk13 => .x))))) .x)))))) (.seq .x (.seq .x (.seq .x (.seq .x (.seq (.seq .x (.body (.loop ⟨[(147, [(0, .val 51), (7, .own 0), (8, .val 1), (9, .val 0), (10, .val 0), (11, .val 0)])], [.row 57 7]⟩ (fun n z => zg φ n z.1 z.2.1 z.2.2.1 z.2.2.2.1 z.2.2.2.2.1 z.2.2.2.2.2.1) (fun zk21 => (.seq .x (.seq (.body (.seq .x (.seq (.join ⟨[(147, [(0, .val 51), (7, .own 0), (8, .val 1), (9, .val 0), (10, .val 0), (11, .val 0)])], [.row 57 7]⟩ (fun z => zu φ (fun a0 a1 a2 a3 a4 a5 => zk21 (a0, a1, a2, a3, a4, a5, ())) z.1 z.2.1 z.2.2.1 z.2.2.2.1 z.2.2.2.2.1 z.2.2.2.2.2.1) (.seq .x .x)) .x))) .x)))))) .x)))))))))
def z7e (P : Program) (φ : Nat) : Env TV := ⟨P, lk [(10, zf7 φ), (11, zhu φ), (24, z9b φ), (26, z9i φ), (25, z6u φ), (16, z7j φ), (27, z9m φ), (19, z7x φ), (28, zi3 φ)], lk [], lk [], lk []⟩
theorem zhx (φ : Nat) (a) : (z59 φ).F a = fnX TV (z7e Tryz.prog φ) φ Tryz.f5 [51, 10] [.val 1] (z5a φ) a := by kernel_rfl
theorem zi0 (φ : Nat) : fnO TV (z7e Tryz.prog φ) φ Tryz.f5 [.val 1] (z5a φ) := by
 unfold fnO
 show obl _ _ _ _ _ _ _
 unfold z5a
 repeat' (first | exact trivial | (refine ⟨?_, ?_⟩) | (intro _) | kernel_rfl)
theorem zhi (φ : Nat) : z1k TV Tryz.prog 5 (z59 φ) :=
 z2r (N := z7e Tryz.prog φ) (zk ⟨zrr φ, ztx φ, zh4 φ, zg8 φ, zen φ, zhj φ, zlb φ, zib φ, zuw φ, trivial⟩ trivial trivial trivial) (z5a φ) Tryz.func5 (by kernel_rfl) (zhx φ) (zi0 φ)
end Px
end
section
namespace Px
open Go
set_option linter.unusedVariables false
set_option linter.unusedSimpArgs false
structure Swo {α : Type} (lt : α -> α -> Bool) : Prop where
 asym : ∀ a b, lt a b = true -> lt b a = false
 ntr : ∀ a b c, lt a b = false -> lt b c = false -> lt a c = false
def Srt {α : Type} (lt : α -> α -> Bool) (l : List α) : Prop := l.Pairwise fun a b => lt b a = false
def eqv2 {α : Type} (lt : α -> α -> Bool) (a b : α) : Bool := !lt a b && !lt b a
def Stb {α : Type} (lt : α -> α -> Bool) (l r : List α) : Prop := r.Perm l /\ ∀ a, r.filter (eqv2 lt a) = l.filter (eqv2 lt a)
section
variable {α : Type} {lt : α -> α -> Bool}
theorem Swo.irr (h : Swo lt) (a : α) : lt a a = false := by
 cases e : lt a a with
 | false => rfl
 | true => exact (h.asym a a e).symm.trans e |>.symm
theorem zme {a b : α} : eqv2 lt a b = true ↔ lt a b = false /\ lt b a = false := by simp [eqv2]
theorem Stb.refl (l : List α) : Stb lt l l := ⟨.refl _, fun _ => rfl⟩
theorem Stb.trans {a b c : List α} (h : Stb lt a b) (h' : Stb lt b c) : Stb lt a c := ⟨h'.1.trans h.1, fun x => (h'.2 x).trans (h.2 x)⟩
theorem Stb.app {a b c d : List α} (h : Stb lt a b) (h' : Stb lt c d) : Stb lt (a ++ c) (b ++ d) := ⟨h.1.append h'.1, fun x => by simp only [List.filter_append, h.2 x, h'.2 x]⟩
theorem Stb.mem {l r : List α} (h : Stb lt l r) {x : α} : x ∈ r ↔ x ∈ l := h.1.mem_iff
theorem Stb.len {l r : List α} (h : Stb lt l r) : r.length = l.length := h.1.length_eq
theorem zss (a : α) {X : List α} (h : ∀ x ∈ X, eqv2 lt a x = false) : X.filter (eqv2 lt a) = [] := by
 rw [List.filter_eq_nil_iff]; intro x hx; simp [h x hx]
theorem Stb.swap (hs : Swo lt) {X Y : List α} (h : ∀ x ∈ X, ∀ y ∈ Y, lt y x = true) : Stb lt (X ++ Y) (Y ++ X) := by
 refine ⟨List.perm_append_comm, fun a => ?_⟩
 simp only [List.filter_append]
 by_cases hx : ∃ x ∈ X, eqv2 lt a x = true
 ·obtain ⟨x, hx, ex⟩ := hx
  have : Y.filter (eqv2 lt a) = [] := zss a fun y hy => by
   cases e : eqv2 lt a y with
   | false => rfl
   | true =>
    have h1 := zme.1 e
    have h2 := zme.1 ex
    have := hs.ntr y a x h1.2 h2.1
    rw [h x hx y hy] at this; cases this
  rw [this]; simp
 ·have : X.filter (eqv2 lt a) = [] := zss a fun x hx' => by
   cases e : eqv2 lt a x with
   | false => rfl
   | true => exact absurd ⟨x, hx', e⟩ hx
  rw [this]; simp
theorem Srt.app {a b : List α} (h : Srt lt a) (h' : Srt lt b) (hc : ∀ x ∈ a, ∀ y ∈ b, lt y x = false) : Srt lt (a ++ b) := List.pairwise_append.2 ⟨h, h', hc⟩
theorem Srt.parts {a b : List α} (h : Srt lt (a ++ b)) : Srt lt a /\ Srt lt b /\ ∀ x ∈ a, ∀ y ∈ b, lt y x = false := List.pairwise_append.1 h
theorem Srt.unique (hs : Swo lt) : ∀ {r r' : List α}, Srt lt r -> Srt lt r' -> Stb lt r r' -> r = r'
 | [], r', _, _, h => by
  have := h.len; simp at this; exact this.symm
 | x :: r, r', hr, hr', h => by
  cases r' with
  | nil => have := h.len; simp at this
  | cons y r' =>
   have hr1 := List.pairwise_cons.1 hr
   have hr2 := List.pairwise_cons.1 hr'
   have h1 : lt y x = false := by
    rcases List.mem_cons.1 (h.mem.1 (List.mem_cons_self (a := y))) with e | e
    ·rw [e]; exact hs.irr _
    ·exact hr1.1 y e
   have h2 : lt x y = false := by
    rcases List.mem_cons.1 (h.mem.2 (List.mem_cons_self (a := x))) with e | e
    ·rw [e]; exact hs.irr _
    ·exact hr2.1 x e
   have e1 : eqv2 lt x x = true := zme.2 ⟨hs.irr _, hs.irr _⟩
   have e2 : eqv2 lt x y = true := zme.2 ⟨h2, h1⟩
   have hf := h.2 x
   rw [List.filter_cons_of_pos e1, List.filter_cons_of_pos e2] at hf
   have hxy : y = x := (List.cons.inj hf).1
   subst hxy
   congr 1
   refine Srt.unique hs hr1.2 hr2.2 ⟨(List.perm_cons _).1 h.1, fun a => ?_⟩
   have := h.2 a
   simp only [List.filter_cons] at this
   split at this
   ·exact (List.cons.inj this).2
   ·exact this
theorem zhk (hs : Swo lt) {A B C E R1 R2 : List α} (h1 : Srt lt (A ++ B)) (h2 : Srt lt (C ++ E)) (hA : ∀ x ∈ B, ∀ y ∈ C, lt y x = true) (hB : ∀ x ∈ A, ∀ y ∈ E, lt y x = false)
  (s1 : Srt lt R1) (t1 : Stb lt (A ++ C) R1) (s2 : Srt lt R2) (t2 : Stb lt (B ++ E) R2) : Srt lt (R1 ++ R2) /\ Stb lt ((A ++ B) ++ (C ++ E)) (R1 ++ R2) := by
 refine ⟨s1.app s2 fun u hu v hv => ?_, ?_⟩
 ·have hu := List.mem_append.1 (t1.mem.1 hu)
  have hv := List.mem_append.1 (t2.mem.1 hv)
  rcases hu with hu | hu <;> rcases hv with hv | hv
  ·exact h1.parts.2.2 u hu v hv
  ·exact hB u hu v hv
  ·exact hs.asym _ _ (hA v hv u hu)
  ·exact h2.parts.2.2 u hu v hv
 ·have : Stb lt ((A ++ B) ++ (C ++ E)) ((A ++ C) ++ (B ++ E)) := by
   have := ((Stb.refl (lt := lt) A).app (Stb.swap hs hA)).app (Stb.refl E)
   simpa [List.append_assoc] using this
  exact this.trans (t1.app t2)
theorem zjc (hs : Swo lt) {y c x b : α} (h1 : lt c y = false) (h2 : lt c b = true) (h3 : lt x b = false) : lt y x = true := by
 cases e : lt y x with
 | true => rfl
 | false =>
  have := hs.ntr _ _ _ (hs.ntr _ _ _ h1 e) h3
  rw [h2] at this; cases this
theorem zuo (hs : Swo lt) {y e x a : α} (h1 : lt y e = false) (h2 : lt e a = false) (h3 : lt a x = false) : lt y x = false := hs.ntr _ _ _ (hs.ntr _ _ _ h1 h2) h3
theorem zy0 (hs : Swo lt) {A B : List α} {x : α} (h : ∀ y ∈ B, lt x y = true) : Stb lt (A ++ B ++ [x]) (A ++ [x] ++ B) := by
 have := (Stb.refl (lt := lt) A).app (Stb.swap hs (X := B) (Y := [x]) fun z hz y hy => by simp at hy; subst hy; exact h z hz)
 simpa [List.append_assoc] using this
theorem zu2 {ρ : Type} (L : Nat -> Int -> Int -> Option ρ) (k : Int -> Option ρ) (pred : Nat -> Bool) (R : Nat) (s0 : Nat)
  (step : ∀ n s r : Nat, s0 <= s -> s < r -> r <= R -> L (n + 1) s r = if pred ((s + r) / 2) = true then L n (((s + r) / 2 + 1 : Nat)) r else L n s ((s + r) / 2 : Nat)) (done : ∀ n s : Nat, L (n + 1) s s = k s) :
  ∀ n s r : Nat, s0 <= s -> s <= r -> r <= R -> r - s < n -> ∃ c : Nat, s <= c /\ c <= r /\ (c = s \/ pred (c - 1) = true) /\ (c = r \/ pred c = false) /\ L n s r = k c := by
 intro n
 induction n with
 | zero => intro s r _ _ _ h; omega
 | succ n ih =>
  intro s r h0 h hR hn
  by_cases e : s = r
  ·subst e; exact ⟨s, Nat.le_refl _, Nat.le_refl _, .inl rfl, .inl rfl, done n s⟩
  ·rw [step n s r h0 (by omega) hR]
   cases hp : pred ((s + r) / 2) with
   | true =>
    rw [if_pos rfl]
    obtain ⟨c, h1, h2, h3, h4, h5⟩ := ih ((s + r) / 2 + 1) r (by omega) (by omega) hR (by omega)
    refine ⟨c, by omega, h2, ?_, h4, h5⟩
    rcases h3 with h3 | h3
    ·right; rw [h3]; simpa using hp
    ·exact .inr h3
   | false =>
    rw [if_neg (by simp)]
    obtain ⟨c, h1, h2, h3, h4, h5⟩ := ih s ((s + r) / 2) h0 (by omega) (by omega) (by omega)
    refine ⟨c, h1, by omega, h3, ?_, h5⟩
    rcases h4 with h4 | h4
    ·right; rw [h4]; exact hp
    ·exact .inr h4
end
section arr
variable {α : Type} [Inhabited α]
theorem zev {A B : List α} {x : α} {i : Int} (h : i = A.length) : gt (A ++ x :: B) i = x := by
 subst h; rw [z9k _ _ _ (Int.le_refl _)]; simp [gt]
omit [Inhabited α] in
theorem zky {A B : List α} {x y : α} {i : Int} (h : i = A.length) : z0l (A ++ x :: B) i y = A ++ y :: B := by
 subst h; simp [z0l]
theorem zzd {n : Int} (h0 : 0 <= n) (h : n <= 4611686018427387904) : W ((U (W n)).fdiv 2) = n / 2 := by
 rw [W_id (x := n) (by omega) (by omega), U_id h0 (by omega), Int.fdiv_eq_ediv_of_nonneg _ (by omega), W_id (by omega) (by omega)]
end arr
def Cmp {α : Type} (D : α -> Prop) (y : α -> α -> Option Int) (lt : α -> α -> Bool) : Prop := ∀ a b, D a -> D b -> ∃ z, y a b = some z /\ decide (z < 0) = lt a b
theorem zba {α : Type} (l : List α) : l = [] \/ ∃ S w, l = S ++ [w] := by
 rcases List.eq_nil_or_concat l with h | ⟨S, w, h⟩
 ·exact .inl h
 ·exact .inr ⟨S, w, by rw [h, List.concat_eq_append]⟩
inductive Runs {α : Type} (lt : α -> α -> Bool) (bs : Nat) : List α -> Prop
 | last {l : List α} (h : l.length <= bs) (hs : Srt lt l) : Runs lt bs l
 | cons {b r : List α} (h : b.length = bs) (hs : Srt lt b) (hr : Runs lt bs r) : Runs lt bs (b ++ r)
theorem Runs.small {α : Type} {lt : α -> α -> Bool} {bs : Nat} {l : List α} (h : Runs lt bs l) (hl : l.length <= bs) : Srt lt l := by
 cases h with
 | last _ hs => exact hs
 | cons h hs hr =>
  rename_i b r
  have : r = [] := List.eq_nil_of_length_eq_zero (by simp at hl; omega)
  rw [this, List.append_nil]; exact hs
theorem Runs.big {α : Type} {lt : α -> α -> Bool} {bs : Nat} {l : List α} (h : Runs lt bs l) (hl : bs < l.length) : ∃ b r, l = b ++ r /\ b.length = bs /\ Srt lt b /\ Runs lt bs r /\ r ≠ [] := by
 cases h with
 | last h _ => omega
 | cons h hs hr =>
  rename_i b r
  exact ⟨b, r, rfl, h, hs, hr, by intro e; subst e; simp at hl; omega⟩
end Px
end
section
namespace Px
open Go
set_option linter.unusedVariables false
set_option linter.unusedSimpArgs false
set_option maxHeartbeats 1000000
section
variable {α : Type} [Inhabited α]
def zj7 (φ : Nat) (k10 : (Int -> Int -> (α -> α -> Option Int) -> Int -> (List α) -> Option (List α))) : Nat -> Int -> Int -> (α -> α -> Option Int) -> Int -> Int -> (List α) -> Option (List α)
 | 0, _, _, _, _, _, _ => none
 | n17 + 1, x11, x12, x13, x14, x15, x16 => (ck (((decide ((x11 : Int) < x15)) = true) -> (0 : Int) <= x15 /\ x15 < (x16.length : Int)) (ck (((decide ((x11 : Int) < x15)) = true) -> (0 : Int) <= (W (x15 - 1)) /\ (W (x15 - 1)) < (x16.length : Int)) ((z1j (0 : Int) ((decide ((x11 : Int) < x15)) = true) (x13 (gt x16 x15) (gt x16 (W (x15 - 1))))).bind fun y18 => (if ((decide ((x11 : Int) < x15)) && (decide ((y18 : Int) < 0))) = true then (ck ((0 : Int) <= (W (x15 - 1)) /\ (W (x15 - 1)) < (x16.length : Int)) (ck ((0 : Int) <= x15 /\ x15 < (x16.length : Int)) (ck ((0 : Int) <= x15 /\ x15 < (x16.length : Int)) (ck ((0 : Int) <= (W (x15 - 1)) /\ (W (x15 - 1)) < (((z0l x16 x15 (gt x16 (W (x15 - 1))))).length : Int)) ((zj7 φ k10 n17) x11 x12 x13 x14 (W (x15 - 1)) ((z0l ((z0l x16 x15 (gt x16 (W (x15 - 1))))) (W (x15 - 1)) (gt x16 x15)))))))) else (k10 x11 x12 x13 (W (x14 + 1)) x16)))))
def ze5 (φ : Nat) : Nat -> Int -> Int -> (α -> α -> Option Int) -> Int -> (List α) -> Option (List α)
 | 0, _, _, _, _, _ => none
 | n10 + 1, x5, x6, x7, x8, x9 => (if (decide ((x8 : Int) < x6)) = true then (zj7 φ (ze5 φ n10) φ x5 x6 x7 x8 x8 x9) else (some x9))
def gins (φ : Nat) (x1 : (List α)) (x2 : Int) (x3 : Int) (x4 : (α -> α -> Option Int)) : Option (List α) := (ze5 φ φ x2 x3 x4 (W (x2 + 1)) x1)
def zfq (φ : Nat) : Nat -> Int -> Int -> Int -> Int -> (List α) -> Option (List α)
 | 0, _, _, _, _, _ => none
 | n11 + 1, x6, x7, x8, x9, x10 => (if (decide ((x9 : Int) < x8)) = true then (ck ((0 : Int) <= (W (x7 + x9)) /\ (W (x7 + x9)) < (x10.length : Int)) (ck ((0 : Int) <= (W (x6 + x9)) /\ (W (x6 + x9)) < (x10.length : Int)) (ck ((0 : Int) <= (W (x6 + x9)) /\ (W (x6 + x9)) < (x10.length : Int)) (ck ((0 : Int) <= (W (x7 + x9)) /\ (W (x7 + x9)) < (((z0l x10 (W (x6 + x9)) (gt x10 (W (x7 + x9))))).length : Int)) ((zfq φ n11) x6 x7 x8 (W (x9 + 1)) ((z0l ((z0l x10 (W (x6 + x9)) (gt x10 (W (x7 + x9))))) (W (x7 + x9)) (gt x10 (W (x6 + x9)))))))))) else (some x10))
def zyx (φ : Nat) (x1 : (List α)) (x2 : Int) (x3 : Int) (x4 : Int) (x5 : (α -> α -> Option Int)) : Option (List α) := (zfq φ φ x2 x3 x4 0 x1)
def zj4 (φ : Nat) : Nat -> Int -> (α -> α -> Option Int) -> Int -> Int -> (List α) -> Option (List α)
 | 0, _, _, _, _, _ => none
 | n11 + 1, x6, x7, x8, x9, x10 => (if ((x8 : Int) != x9) = true then (if (decide ((x9 : Int) < x8)) = true then ((zyx φ x10 (W (x6 - x8)) x6 x9 x7).bind fun y12 => ((zj4 φ n11) x6 x7 (W (x8 - x9)) x9 y12)) else ((zyx φ x10 (W (x6 - x8)) ((W ((W (x6 + x9)) - x8))) x8 x7).bind fun y13 => ((zj4 φ n11) x6 x7 x8 (W (x9 - x8)) y13))) else ((zyx φ x10 (W (x6 - x8)) x6 x8 x7).bind fun y14 => (some y14)))
def grot (φ : Nat) (x1 : (List α)) (x2 : Int) (x3 : Int) (x4 : Int) (x5 : (α -> α -> Option Int)) : Option (List α) := (zj4 φ φ x3 x5 (W (x3 - x2)) (W (x4 - x3)) x1)
def zgk (φ : Nat) : Nat -> Int -> Int -> (List α) -> Option (List α)
 | 0, _, _, _ => none
 | n16 + 1, x13, x14, x15 => (if (decide ((x14 : Int) < (W (x13 - 1)))) = true then (ck ((0 : Int) <= (W (x14 + 1)) /\ (W (x14 + 1)) < (x15.length : Int)) (ck ((0 : Int) <= x14 /\ x14 < (x15.length : Int)) (ck ((0 : Int) <= x14 /\ x14 < (x15.length : Int)) (ck ((0 : Int) <= (W (x14 + 1)) /\ (W (x14 + 1)) < (((z0l x15 x14 (gt x15 (W (x14 + 1))))).length : Int)) ((zgk φ n16) x13 (W (x14 + 1)) ((z0l ((z0l x15 x14 (gt x15 (W (x14 + 1))))) (W (x14 + 1)) (gt x15 x14)))))))) else (some x15))
def zaq (φ : Nat) : Nat -> Int -> (α -> α -> Option Int) -> Int -> Int -> (List α) -> Option (List α)
 | 0, _, _, _, _, _ => none
 | n11 + 1, x6, x7, x8, x9, x10 => (if (decide ((x8 : Int) < x9)) = true then (if 0 <= (1 : Int) then (ck ((0 : Int) <= (W ((((U ((W (x8 + x9)))) : Int).fdiv (2 ^ (min (1 : Int).toNat 64))))) /\ (W ((((U ((W (x8 + x9)))) : Int).fdiv (2 ^ (min (1 : Int).toNat 64))))) < (x10.length : Int)) (ck ((0 : Int) <= x6 /\ x6 < (x10.length : Int)) ((x7 (((gt x10 ((W ((((U ((W (x8 + x9)))) : Int).fdiv (2 ^ (min (1 : Int).toNat 64))))))))) (gt x10 x6)).bind fun y12 => (if (decide ((y12 : Int) < 0)) = true then ((zaq φ n11) x6 x7 ((W ((W ((((U ((W (x8 + x9)))) : Int).fdiv (2 ^ (min (1 : Int).toNat 64))))) + 1))) x9 x10) else ((zaq φ n11) x6 x7 x8 ((W ((((U ((W (x8 + x9)))) : Int).fdiv (2 ^ (min (1 : Int).toNat 64)))))) x10))))) else none) else (zgk φ φ x8 x6 x10))
def zgd (φ : Nat) : Nat -> Int -> Int -> (List α) -> Option (List α)
 | 0, _, _, _ => none
 | n27 + 1, x24, x25, x26 => (if (decide ((x24 : Int) < x25)) = true then (ck ((0 : Int) <= (W (x25 - 1)) /\ (W (x25 - 1)) < (x26.length : Int)) (ck ((0 : Int) <= x25 /\ x25 < (x26.length : Int)) (ck ((0 : Int) <= x25 /\ x25 < (x26.length : Int)) (ck ((0 : Int) <= (W (x25 - 1)) /\ (W (x25 - 1)) < (((z0l x26 x25 (gt x26 (W (x25 - 1))))).length : Int)) ((zgd φ n27) x24 (W (x25 - 1)) ((z0l ((z0l x26 x25 (gt x26 (W (x25 - 1))))) (W (x25 - 1)) (gt x26 x25)))))))) else (some x26))
def zau (φ : Nat) : Nat -> Int -> (α -> α -> Option Int) -> Int -> Int -> (List α) -> Option (List α)
 | 0, _, _, _, _, _ => none
 | n22 + 1, x17, x18, x19, x20, x21 => (if (decide ((x19 : Int) < x20)) = true then (if 0 <= (1 : Int) then (ck ((0 : Int) <= x17 /\ x17 < (x21.length : Int)) (ck ((0 : Int) <= (W ((((U ((W (x19 + x20)))) : Int).fdiv (2 ^ (min (1 : Int).toNat 64))))) /\ (W ((((U ((W (x19 + x20)))) : Int).fdiv (2 ^ (min (1 : Int).toNat 64))))) < (x21.length : Int)) ((x18 (gt x21 x17) (((gt x21 ((W ((((U ((W (x19 + x20)))) : Int).fdiv (2 ^ (min (1 : Int).toNat 64)))))))))).bind fun y23 => (if (!(decide ((y23 : Int) < 0))) = true then ((zau φ n22) x17 x18 ((W ((W ((((U ((W (x19 + x20)))) : Int).fdiv (2 ^ (min (1 : Int).toNat 64))))) + 1))) x20 x21) else ((zau φ n22) x17 x18 x19 ((W ((((U ((W (x19 + x20)))) : Int).fdiv (2 ^ (min (1 : Int).toNat 64)))))) x21))))) else none) else (zgd φ φ x19 x17 x21))
def zie (φ : Nat) (k0 : ((List α) -> Int -> Int -> Int -> (α -> α -> Option Int) -> Option (List α))) (x58 : Int) (x59 : (α -> α -> Option Int)) (x60 : Int) (x61 : Int) (x62 : (List α)) : Option (List α) := (if ((decide ((x60 : Int) < x61)) && (decide ((x61 : Int) < x58))) = true then ((k0 x62 x60 x61 x58 x59).bind fun y64 => (some y64)) else (some x62))
def zdu (φ : Nat) (k0 : ((List α) -> Int -> Int -> Int -> (α -> α -> Option Int) -> Option (List α))) (x50 : Int) (x51 : Int) (x52 : (α -> α -> Option Int)) (x53 : Int) (x54 : Int) (x55 : Int) (x56 : (List α)) : Option (List α) := (if ((decide ((x50 : Int) < x54)) && (decide ((x54 : Int) < x53))) = true then ((k0 x56 x50 x54 x53 x52).bind fun y65 => (zie φ k0 x51 x52 x53 x55 y65)) else (zie φ k0 x51 x52 x53 x55 x56))
def zas (φ : Nat) (k0 : ((List α) -> Int -> Int -> Int -> (α -> α -> Option Int) -> Option (List α))) : Nat -> Int -> Int -> Int -> (α -> α -> Option Int) -> Int -> Int -> Int -> Int -> Int -> (List α) -> Option (List α)
 | 0, _, _, _, _, _, _, _, _, _, _ => none
 | n48 + 1, x38, x39, x40, x41, x42, x43, x44, x45, x46, x47 => (if (decide ((x44 : Int) < x45)) = true then (if 0 <= (1 : Int) then (ck ((0 : Int) <= (W (x46 - (W ((((U ((W (x44 + x45)))) : Int).fdiv (2 ^ (min (1 : Int).toNat 64))))))) /\ (W (x46 - (W ((((U ((W (x44 + x45)))) : Int).fdiv (2 ^ (min (1 : Int).toNat 64))))))) < (x47.length : Int)) (ck ((0 : Int) <= (W ((((U ((W (x44 + x45)))) : Int).fdiv (2 ^ (min (1 : Int).toNat 64))))) /\ (W ((((U ((W (x44 + x45)))) : Int).fdiv (2 ^ (min (1 : Int).toNat 64))))) < (x47.length : Int)) ((x41 (((gt x47 ((W (x46 - (W ((((U ((W (x44 + x45)))) : Int).fdiv (2 ^ (min (1 : Int).toNat 64))))))))))) (((gt x47 ((W ((((U ((W (x44 + x45)))) : Int).fdiv (2 ^ (min (1 : Int).toNat 64)))))))))).bind fun y49 => (if (!(decide ((y49 : Int) < 0))) = true then ((zas φ k0 n48) x38 x39 x40 x41 x42 x43 ((W ((W ((((U ((W (x44 + x45)))) : Int).fdiv (2 ^ (min (1 : Int).toNat 64))))) + 1))) x45 x46 x47) else ((zas φ k0 n48) x38 x39 x40 x41 x42 x43 x44 ((W ((((U ((W (x44 + x45)))) : Int).fdiv (2 ^ (min (1 : Int).toNat 64)))))) x46 x47))))) else none) else (if ((decide ((x44 : Int) < x39)) && (decide ((x39 : Int) < (W (x43 - x44))))) = true then ((grot φ x47 x44 x39 (W (x43 - x44)) x41).bind fun y66 => (zdu φ k0 x38 x40 x41 x42 x44 (W (x43 - x44)) y66)) else (zdu φ k0 x38 x40 x41 x42 x44 (W (x43 - x44)) x47)))
def zgj (φ : Nat) (k0 : ((List α) -> Int -> Int -> Int -> (α -> α -> Option Int) -> Option (List α))) (x28 : Int) (x29 : Int) (x30 : Int) (x31 : (α -> α -> Option Int)) (x32 : Int) (x33 : Int) (x34 : Int) (x35 : Int) (x36 : (List α)) : Option (List α) := (zas φ k0 φ x28 x29 x30 x31 x32 x33 x34 x35 (W (x33 - 1)) x36)
def gsym (φ : Nat) : Nat -> (List α) -> Int -> Int -> Int -> (α -> α -> Option Int) -> Option (List α)
 | 0, _, _, _, _, _ => none
 | d + 1, x1, x2, x3, x4, x5 => (if (((W (x3 - x2)) : Int) == 1) = true then (zaq φ φ x2 x5 x3 x4 x1) else (if (((W (x4 - x3)) : Int) == 1) = true then (zau φ φ x3 x5 x2 x3 x1) else (if 0 <= (1 : Int) then (if (decide (((W ((((U ((W (x2 + x4)))) : Int).fdiv (2 ^ (min (1 : Int).toNat 64))))) : Int) < x3)) = true then (zgj φ (gsym φ d) x2 x3 x4 x5 ((W ((((U ((W (x2 + x4)))) : Int).fdiv (2 ^ (min (1 : Int).toNat 64)))))) ((W ((W ((((U ((W (x2 + x4)))) : Int).fdiv (2 ^ (min (1 : Int).toNat 64))))) + x3))) ((W ((W ((W ((((U ((W (x2 + x4)))) : Int).fdiv (2 ^ (min (1 : Int).toNat 64))))) + x3)) - x4))) ((W ((((U ((W (x2 + x4)))) : Int).fdiv (2 ^ (min (1 : Int).toNat 64)))))) x1) else (zgj φ (gsym φ d) x2 x3 x4 x5 ((W ((((U ((W (x2 + x4)))) : Int).fdiv (2 ^ (min (1 : Int).toNat 64)))))) ((W ((W ((((U ((W (x2 + x4)))) : Int).fdiv (2 ^ (min (1 : Int).toNat 64))))) + x3))) x2 x3 x1)) else none)))
def zj1 (φ : Nat) (k17 : (Int -> (α -> α -> Option Int) -> Int -> (List α) -> Option (List α))) : Nat -> Int -> (α -> α -> Option Int) -> Int -> Int -> Int -> (List α) -> Option (List α)
 | 0, _, _, _, _, _, _ => none
 | n24 + 1, x18, x19, x20, x21, x22, x23 => (if (decide ((x22 : Int) <= x18)) = true then ((gsym φ φ x23 x21 (W (x21 + x20)) x22 x19).bind fun y25 => ((zj1 φ k17 n24) x18 x19 x20 x22 ((W (x22 + (W (2 * x20))))) y25)) else (if (decide (((W (x21 + x20)) : Int) < x18)) = true then ((gsym φ φ x23 x21 (W (x21 + x20)) x18 x19).bind fun y26 => (k17 x18 x19 (W (x20 * 2)) y26)) else (k17 x18 x19 (W (x20 * 2)) x23)))
def z9f (φ : Nat) : Nat -> Int -> (α -> α -> Option Int) -> Int -> (List α) -> Option (List α)
 | 0, _, _, _, _ => none
 | n17 + 1, x13, x14, x15, x16 => (if (decide ((x15 : Int) < x13)) = true then (zj1 φ (z9f φ n17) φ x13 x14 x15 0 (W (2 * x15)) x16) else (some x16))
def zfv (φ : Nat) : Nat -> Int -> (α -> α -> Option Int) -> Int -> Int -> Int -> (List α) -> Option (List α)
 | 0, _, _, _, _, _, _ => none
 | n10 + 1, x4, x5, x6, x7, x8, x9 => (if (decide ((x8 : Int) <= x4)) = true then ((gins φ x9 x7 x8 x5).bind fun y11 => ((zfv φ n10) x4 x5 x6 x8 (W (x8 + x6)) y11)) else ((gins φ x9 x7 x4 x5).bind fun y12 => (z9f φ φ x4 x5 x6 y12)))
def ybd (φ : Nat) (x1 : (List α)) (x2 : Int) (x3 : (α -> α -> Option Int)) : Option (List α) := (zfv φ φ x2 x3 20 0 20 x1)
def yai (φ : Nat) (x1 : (List α)) (x2 : (α -> α -> Option Int)) : Option (List α) := ((ybd φ x1 (x1.length : Int) x2).bind fun y3 => (some y3))
theorem yc1 {β : Type} {z : β} {p : Prop} [Decidable p] {x : Option β} (h : p) : z1j z p x = x := if_pos h
variable {D : α -> Prop} {lt : α -> α -> Bool} {y : α -> α -> Option Int}
theorem y7f (hy : Cmp D y lt) (φ : Nat) (k : Int -> Int -> (α -> α -> Option Int) -> Int -> List α -> Option (List α)) (b i0 : Int) (P : List α) (x : α) (hx : D x) : ∀ (n : Nat) (S1 S2 : List α), (∀ z ∈ S1, D z) -> P.length + S1.length + S2.length <= 1000000 -> S1.length < n ->
  ∃ A B, S1 = A ++ B /\ (∀ z ∈ B, lt x z = true) /\ (A = [] \/ ∃ A' z, A = A' ++ [z] /\ lt x z = false) /\
   zj7 φ k n (P.length : Int) b y i0 ((P.length : Int) + S1.length) (P ++ S1 ++ x :: S2) = k (P.length : Int) b y (W (i0 + 1)) (P ++ A ++ x :: (B ++ S2)) := by
 intro n
 induction n with
 | zero => intro S1 S2 _ _ h; omega
 | succ n ih =>
  intro S1 S2 hD hl hn
  rcases List.eq_nil_or_concat S1 with rfl | ⟨S, z, rfl⟩
  ·refine ⟨[], [], rfl, by simp, .inl rfl, ?_⟩
   have h0 : decide ((P.length : Int) < (P.length : Int) + (([] : List α).length : Int)) = false := by simp
   rw [zj7, h0]
   simp [ck, z1j]
  ·simp only [List.concat_eq_append] at hD hl hn ⊢
   simp only [List.length_append, List.length_cons, List.length_nil] at hl hn
   have e1 : P ++ (S ++ [z]) ++ x :: S2 = (P ++ S ++ [z]) ++ x :: S2 := by simp
   have e2 : P ++ (S ++ [z]) ++ x :: S2 = (P ++ S) ++ z :: (x :: S2) := by simp
   have g1 : gt (P ++ (S ++ [z]) ++ x :: S2) ((P.length : Int) + ((S ++ [z]).length : Int)) = x := by
    rw [e1]; exact zev (by simp <;> omega)
   have hw : W ((P.length : Int) + ((S ++ [z]).length : Int) - 1) = (P.length : Int) + S.length := by
    rw [W_id (by simp; omega) (by simp; omega)]; simp; omega
   have g2 : gt (P ++ (S ++ [z]) ++ x :: S2) ((P.length : Int) + (S.length : Int)) = z := by
    rw [e2]; exact zev (by simp)
   have h0 : decide ((P.length : Int) < (P.length : Int) + ((S ++ [z]).length : Int)) = true := by simp; omega
   have hlen : ((P ++ (S ++ [z]) ++ x :: S2).length : Int) = P.length + S.length + 1 + 1 + S2.length := by simp; omega
   obtain ⟨w, hw1, hw2⟩ := hy x z hx (hD z (by simp))
   have s1 : z0l (P ++ (S ++ [z]) ++ x :: S2) ((P.length : Int) + ((S ++ [z]).length : Int)) z = (P ++ S) ++ z :: (z :: S2) := by
    rw [e1, zky (by simp <;> omega)]; simp
   have s2 : z0l ((P ++ S) ++ z :: (z :: S2)) ((P.length : Int) + (S.length : Int)) x = P ++ S ++ x :: (z :: S2) := zky (by simp)
   rw [zj7, hw, h0, g1, g2, hw1, hlen]
   rw [z04 (fun _ => ⟨by omega, by simp; omega⟩), z04 (fun _ => ⟨by omega, by omega⟩), yc1 rfl]
   simp only [Option.bind_some, hw2, Bool.true_and]
   cases hlt : lt x z with
   | true =>
    rw [if_pos rfl, z04 ⟨by omega, by omega⟩, z04 ⟨by omega, by simp; omega⟩, z04 ⟨by omega, by simp; omega⟩, s1]
    rw [z04 ⟨by omega, by simp; omega⟩, s2]
    obtain ⟨A, B, q1, q2, q3, q4⟩ := ih S (z :: S2) (fun u hu => hD u (by simp [hu])) (by simp; omega) (by omega)
    refine ⟨A, B ++ [z], by rw [q1]; simp, ?_, q3, ?_⟩
    ·intro u hu
     rcases List.mem_append.1 hu with h | h
     ·exact q2 u h
     ·simp at h; rw [h]; exact hlt
    ·rw [q4]; simp
   | false =>
    rw [if_neg (by simp)]
    exact ⟨S ++ [z], [], by simp, by simp, .inr ⟨S, z, rfl, hlt⟩, by simp⟩
theorem y3q (hs : Swo lt) (hy : Cmp D y lt) (φ : Nat) (P Q : List α) : ∀ (n : Nat) (S R : List α), S ≠ [] -> Srt lt S -> (∀ z ∈ S, D z) -> (∀ z ∈ R, D z) -> P.length + S.length + R.length + Q.length <= 1000000 -> P.length + S.length + R.length < φ -> R.length < n ->
  ∃ S', Srt lt S' /\ Stb lt (S ++ R) S' /\ ze5 φ n (P.length : Int) ((P.length : Int) + S.length + R.length) y ((P.length : Int) + S.length) (P ++ S ++ R ++ Q) = some (P ++ S' ++ Q) := by
 intro n
 induction n with
 | zero => intro S R _ _ _ _ _ _ h; omega
 | succ n ih =>
  intro S R hne hS hD hD' hl hφ hn
  cases R with
  | nil =>
   refine ⟨S, hS, by simpa using Stb.refl S, ?_⟩
   rw [ze5, if_neg (by simp)]
   simp
  | cons x R =>
   simp only [List.length_cons] at hl hφ hn
   rw [ze5, if_pos (by simp; omega)]
   obtain ⟨A, B, q1, q2, q3, q4⟩ := y7f hy φ (ze5 φ n) ((P.length : Int) + S.length + (x :: R).length) ((P.length : Int) + S.length) P x (hD' x (by simp)) φ S (R ++ Q) hD (by simp; omega) (by omega)
   rw [show P ++ S ++ x :: R ++ Q = P ++ S ++ x :: (R ++ Q) by simp, q4]
   have hA : ∀ u ∈ A, lt x u = false := by
    rcases q3 with rfl | ⟨A', z, rfl, hz⟩
    ·simp
    ·intro u hu
     rcases List.mem_append.1 hu with h | h
     ·subst q1
      have := (hS.parts.1).parts.2.2 u h z (by simp)
      exact hs.ntr _ _ _ hz this
     ·simp at h; rw [h]; exact hz
   have hS2 : Srt lt (A ++ x :: B) := by
    subst q1
    refine hS.parts.1.app (List.pairwise_cons.2 ⟨fun u hu => hs.asym _ _ (q2 u hu), hS.parts.2.1⟩) fun u hu v hv => ?_
    rcases List.mem_cons.1 hv with h | h
    ·subst h; exact hA u hu
    ·exact hS.parts.2.2 u hu v h
   obtain ⟨S', p1, p2, p3⟩ := ih (A ++ x :: B) R (by simp) hS2 (fun z hz => by
    subst q1
    simp only [List.mem_append, List.mem_cons] at hz
    rcases hz with h | h | h
    ·exact hD z (by simp [h])
    ·subst h; exact hD' _ (by simp)
    ·exact hD z (by simp [h])) (fun z hz => hD' z (by simp [hz])) (by subst q1; simp at hl ⊢; omega) (by subst q1; simp at hφ ⊢; omega) (by omega)
   refine ⟨S', p1, ?_, ?_⟩
   ·have h1 : Stb lt (S ++ [x]) (A ++ [x] ++ B) := by subst q1; exact zy0 hs q2
    have := h1.app (Stb.refl R)
    refine Stb.trans ?_ (Stb.trans this ?_)
    ·simpa using Stb.refl (lt := lt) (S ++ x :: R)
    ·simpa using p2
   ·rw [<- p3]
    have e1 : W ((P.length : Int) + S.length + 1) = (P.length : Int) + S.length + 1 := W_id (by omega) (by omega)
    have hSl : S.length = A.length + B.length := by rw [q1]; simp
    have e2 : (P.length : Int) + S.length + 1 = P.length + (A ++ x :: B).length := by simp; omega
    have e3 : (P.length : Int) + S.length + (x :: R).length = P.length + (A ++ x :: B).length + R.length := by simp; omega
    have e4 : P ++ A ++ x :: (B ++ (R ++ Q)) = P ++ (A ++ x :: B) ++ R ++ Q := by simp
    rw [e1, e2, e3, e4]
theorem zzb (hs : Swo lt) (hy : Cmp D y lt) (φ : Nat) (P X Q : List α) (hD : ∀ z ∈ X, D z) (hl : P.length + X.length + Q.length <= 1000000) (hφ : P.length + X.length < φ) :
  ∃ X', Srt lt X' /\ Stb lt X X' /\ gins φ (P ++ X ++ Q) (P.length : Int) ((P.length : Int) + X.length) y = some (P ++ X' ++ Q) := by
 unfold gins
 rw [W_id (x := (P.length : Int) + 1) (by omega) (by omega)]
 cases X with
 | nil =>
  refine ⟨[], List.Pairwise.nil, Stb.refl _, ?_⟩
  obtain ⟨n, rfl⟩ : ∃ n, φ = n + 1 := ⟨φ - 1, by omega⟩
  rw [ze5, if_neg (by simp; omega)]
 | cons x R =>
  simp only [List.length_cons] at hl hφ
  obtain ⟨S', p1, p2, p3⟩ := y3q hs hy φ P Q φ [x] R (by simp) (List.pairwise_singleton _ _) (fun z hz => hD z (by simp at hz; simp [hz])) (fun z hz => hD z (by simp [hz])) (by simp; omega) (by simp; omega) (by omega)
  refine ⟨S', p1, by simpa using p2, ?_⟩
  rw [<- p3]
  simp only [List.append_assoc, List.cons_append, List.length_cons, List.length_nil, List.nil_append]
  congr 1
  simp; omega
theorem yaw (φ : Nat) (P Z Q : List α) (c : Nat) : ∀ (n : Nat) (X1 X2 Y1 Y2 : List α), X1.length = Y1.length -> X2.length = Y2.length -> c = X1.length + X2.length -> P.length + c + Z.length + c + Q.length <= 1000000 -> X2.length < n ->
  zfq φ n (P.length : Int) ((P.length : Int) + c + Z.length) (c : Int) (X1.length : Int) (P ++ Y1 ++ X2 ++ Z ++ X1 ++ Y2 ++ Q) = some (P ++ Y1 ++ Y2 ++ Z ++ X1 ++ X2 ++ Q) := by
 intro n
 induction n with
 | zero => intro X1 X2 Y1 Y2 _ _ _ _ h; omega
 | succ n ih =>
  intro X1 X2 Y1 Y2 h1 h2 hc hl hn
  cases X2 with
  | nil =>
   have : Y2 = [] := List.eq_nil_of_length_eq_zero (by simpa using h2.symm)
   subst this
   simp only [List.length_nil, Nat.add_zero] at hc
   rw [zfq, if_neg (by simp; omega)]
  | cons x X2 =>
   cases Y2 with
   | nil => simp at h2
   | cons w Y2 =>
    simp only [List.length_cons, Nat.add_right_cancel_iff] at h2 hc hn
    have w1 : W ((P.length : Int) + c + Z.length + X1.length) = (P.length : Int) + c + Z.length + X1.length := W_id (by omega) (by omega)
    have w2 : W ((P.length : Int) + X1.length) = (P.length : Int) + X1.length := W_id (by omega) (by omega)
    have w3 : W ((X1.length : Int) + 1) = (X1.length : Int) + 1 := W_id (by omega) (by omega)
    have e1 : P ++ Y1 ++ x :: X2 ++ Z ++ X1 ++ w :: Y2 ++ Q = (P ++ Y1) ++ x :: (X2 ++ Z ++ X1 ++ w :: Y2 ++ Q) := by simp
    have e2 : P ++ Y1 ++ x :: X2 ++ Z ++ X1 ++ w :: Y2 ++ Q = (P ++ Y1 ++ x :: X2 ++ Z ++ X1) ++ w :: (Y2 ++ Q) := by simp
    have g1 : gt (P ++ Y1 ++ x :: X2 ++ Z ++ X1 ++ w :: Y2 ++ Q) ((P.length : Int) + X1.length) = x := by rw [e1]; exact zev (by simp; omega)
    have g2 : gt (P ++ Y1 ++ x :: X2 ++ Z ++ X1 ++ w :: Y2 ++ Q) ((P.length : Int) + c + Z.length + X1.length) = w := by rw [e2]; exact zev (by simp; omega)
    have s1 : z0l (P ++ Y1 ++ x :: X2 ++ Z ++ X1 ++ w :: Y2 ++ Q) ((P.length : Int) + X1.length) w = (P ++ Y1) ++ w :: (X2 ++ Z ++ X1 ++ w :: Y2 ++ Q) := by rw [e1]; exact zky (by simp; omega)
    have e3 : (P ++ Y1) ++ w :: (X2 ++ Z ++ X1 ++ w :: Y2 ++ Q) = (P ++ Y1 ++ w :: X2 ++ Z ++ X1) ++ w :: (Y2 ++ Q) := by simp
    have s2 : z0l ((P ++ Y1 ++ w :: X2 ++ Z ++ X1) ++ w :: (Y2 ++ Q)) ((P.length : Int) + c + Z.length + X1.length) x = (P ++ Y1 ++ w :: X2 ++ Z ++ X1) ++ x :: (Y2 ++ Q) := zky (by simp; omega)
    have e4 : (P ++ Y1 ++ w :: X2 ++ Z ++ X1) ++ x :: (Y2 ++ Q) = P ++ (Y1 ++ [w]) ++ X2 ++ Z ++ (X1 ++ [x]) ++ Y2 ++ Q := by simp
    have hlen : ((P ++ Y1 ++ x :: X2 ++ Z ++ X1 ++ w :: Y2 ++ Q).length : Int) = P.length + c + Z.length + c + Q.length := by simp; omega
    have hlen2 : (((P ++ Y1 ++ w :: X2 ++ Z ++ X1) ++ w :: (Y2 ++ Q)).length : Int) = P.length + c + Z.length + c + Q.length := by simp; omega
    rw [zfq, if_pos (by simp; omega), w1, w2, w3, g1, g2, s1, e3, s2, e4, hlen, hlen2]
    rw [z04 ⟨by omega, by omega⟩, z04 ⟨by omega, by omega⟩, z04 ⟨by omega, by omega⟩, z04 ⟨by omega, by omega⟩]
    have := ih (X1 ++ [x]) X2 (Y1 ++ [w]) Y2 (by simp [h1]) h2 (by simp; omega) hl (by omega)
    have e5 : (((X1 ++ [x]).length : Nat) : Int) = (X1.length : Int) + 1 := by simp
    rw [e5] at this
    rw [this]
    simp
theorem zps (φ : Nat) (P X Z Y Q : List α) (y : α -> α -> Option Int) (h : X.length = Y.length) (hl : P.length + X.length + Z.length + X.length + Q.length <= 1000000) (hφ : X.length < φ) :
  zyx φ (P ++ X ++ Z ++ Y ++ Q) (P.length : Int) ((P.length : Int) + X.length + Z.length) (X.length : Int) y = some (P ++ Y ++ Z ++ X ++ Q) := by
 have := yaw φ P Z Q X.length φ [] X [] Y rfl h (by simp) hl hφ
 simpa [zyx] using this
theorem ycc (φ : Nat) (y : α -> α -> Option Int) : ∀ (n : Nat) (P X Y Q : List α), X ≠ [] -> Y ≠ [] -> P.length + X.length + Y.length + Q.length <= 1000000 -> X.length + Y.length <= n -> X.length + Y.length < φ ->
  zj4 φ n ((P.length : Int) + X.length) y (X.length : Int) (Y.length : Int) (P ++ X ++ Y ++ Q) = some (P ++ Y ++ X ++ Q) := by
 intro n
 induction n with
 | zero => intro P X Y Q hX hY _ h; have := List.length_pos_iff.2 hX; omega
 | succ n ih =>
  intro P X Y Q hX hY hl hn hφ
  have hX0 := List.length_pos_iff.2 hX
  have hY0 := List.length_pos_iff.2 hY
  have w1 : W ((P.length : Int) + X.length - X.length) = (P.length : Int) := by rw [W_id (by omega) (by omega)]; omega
  rw [zj4, w1]
  by_cases he : X.length = Y.length
  ·rw [if_neg (by simp [he])]
   have := zps φ P X [] Y Q y he (by simp; omega) (by omega)
   simp only [List.append_nil, List.length_nil, Int.ofNat_zero, Int.add_zero] at this
   rw [this]; rfl
  ·rw [if_pos (by simp; omega)]
   by_cases hlt : Y.length < X.length
   ·rw [if_pos (by simp; omega)]
    obtain ⟨X1, X2, rfl, h1⟩ : ∃ X1 X2, X = X1 ++ X2 /\ X1.length = Y.length := ⟨X.take Y.length, X.drop Y.length, (List.take_append_drop _ _).symm, by simp; omega⟩
    simp only [List.length_append] at hl hn hφ hlt hX0 he
    have e1 : P ++ (X1 ++ X2) ++ Y ++ Q = P ++ X1 ++ X2 ++ Y ++ Q := by simp
    have e2 : (P.length : Int) + ((X1 ++ X2).length : Nat) = (P.length : Int) + X1.length + X2.length := by simp; omega
    rw [e1, e2, <- h1, zps φ P X1 X2 Y Q y h1 (by omega) (by omega)]
    simp only [Option.bind_some]
    have w2 : W (((X1 ++ X2).length : Int) - X1.length) = (X2.length : Int) := by simp; rw [W_id (by omega) (by omega)]; omega
    rw [w2]
    have := ih (P ++ Y) X2 X1 Q (by intro e; subst e; simp at hlt; omega) (by intro e; subst e; simp at h1; omega) (by simp; omega) (by omega) (by omega)
    have e3 : (((P ++ Y).length : Nat) : Int) + X2.length = (P.length : Int) + X1.length + X2.length := by simp; omega
    rw [e3] at this
    rw [this]
    simp
   ·rw [if_neg (by simp; omega)]
    obtain ⟨Y1, Y2, rfl, h1⟩ : ∃ Y1 Y2, Y = Y1 ++ Y2 /\ Y2.length = X.length := ⟨Y.take (Y.length - X.length), Y.drop (Y.length - X.length), (List.take_append_drop _ _).symm, by simp; omega⟩
    simp only [List.length_append] at hl hn hφ hlt hY0 he
    have e1 : P ++ X ++ (Y1 ++ Y2) ++ Q = P ++ X ++ Y1 ++ Y2 ++ Q := by simp
    have w3 : W ((P.length : Int) + X.length + ((Y1 ++ Y2).length : Nat)) = (P.length : Int) + X.length + Y1.length + Y2.length := by simp; rw [W_id (by omega) (by omega)]; omega
    have w4 : W ((P.length : Int) + X.length + Y1.length + Y2.length - X.length) = (P.length : Int) + X.length + Y1.length := by rw [W_id (by omega) (by omega)]; omega
    have w5 : W (((Y1 ++ Y2).length : Int) - X.length) = (Y1.length : Int) := by simp; rw [W_id (by omega) (by omega)]; omega
    rw [e1, w3, w4, w5, zps φ P X Y1 Y2 Q y h1.symm (by omega) (by omega)]
    simp only [Option.bind_some]
    have := ih P Y2 Y1 (X ++ Q) (by intro e; subst e; simp at h1; omega) (by intro e; subst e; simp at h1 hlt he; omega) (by simp; omega) (by omega) (by omega)
    rw [h1] at this
    have e2 : P ++ Y2 ++ Y1 ++ X ++ Q = P ++ Y2 ++ Y1 ++ (X ++ Q) := by simp
    rw [e2, this]
    simp
theorem y9s (φ : Nat) (P X Y Q : List α) (y : α -> α -> Option Int) (hX : X ≠ []) (hY : Y ≠ []) (hl : P.length + X.length + Y.length + Q.length <= 1000000) (hφ : X.length + Y.length < φ) :
  grot φ (P ++ X ++ Y ++ Q) (P.length : Int) ((P.length : Int) + X.length) ((P.length : Int) + X.length + Y.length) y = some (P ++ Y ++ X ++ Q) := by
 have := ycc φ y φ P X Y Q hX hY hl (by omega) hφ
 rw [<- this]
 unfold grot
 have w1 : W ((P.length : Int) + X.length - P.length) = (X.length : Int) := by rw [W_id (by omega) (by omega)]; omega
 have w2 : W ((P.length : Int) + X.length + Y.length - ((P.length : Int) + X.length)) = (Y.length : Int) := by rw [W_id (by omega) (by omega)]; omega
 rw [w1, w2]
end
end Px
end
section
namespace Px
open Go
set_option linter.unusedVariables false
set_option linter.unusedSimpArgs false
set_option maxHeartbeats 4000000
section
variable {α : Type} [Inhabited α]
variable {D : α -> Prop} {lt : α -> α -> Bool} {y : α -> α -> Option Int}
theorem p21 : (2 : Int) ^ (min (1 : Int).toNat 64) = 2 := by decide
theorem y4g (φ : Nat) (x : α) : ∀ (n : Nat) (P C E : List α), P.length + C.length + E.length <= 999999 -> C.length < n ->
  zgk φ n ((P.length : Int) + C.length + 1) (P.length : Int) (P ++ x :: (C ++ E)) = some (P ++ C ++ x :: E) := by
 intro n
 induction n with
 | zero => intro P C E _ h; omega
 | succ n ih =>
  intro P C E hl hn
  have w0 : W ((P.length : Int) + C.length + 1 - 1) = (P.length : Int) + C.length := by rw [W_id (by omega) (by omega)]; omega
  rw [zgk, w0]
  cases C with
  | nil => rw [if_neg (by simp)]; simp
  | cons w C =>
   simp only [List.length_cons] at hl hn
   have w1 : W ((P.length : Int) + 1) = (P.length : Int) + 1 := W_id (by omega) (by omega)
   have e1 : P ++ x :: (w :: C ++ E) = (P ++ [x]) ++ w :: (C ++ E) := by simp
   have g1 : gt (P ++ x :: (w :: C ++ E)) (P.length : Int) = x := zev rfl
   have g2 : gt (P ++ x :: (w :: C ++ E)) ((P.length : Int) + 1) = w := by rw [e1]; exact zev (by simp)
   have s1 : z0l (P ++ x :: (w :: C ++ E)) (P.length : Int) w = P ++ w :: (w :: C ++ E) := zky rfl
   have e2 : P ++ w :: (w :: C ++ E) = (P ++ [w]) ++ w :: (C ++ E) := by simp
   have s2 : z0l ((P ++ [w]) ++ w :: (C ++ E)) ((P.length : Int) + 1) x = (P ++ [w]) ++ x :: (C ++ E) := zky (by simp)
   have hlen : ((P ++ x :: (w :: C ++ E)).length : Int) = P.length + C.length + E.length + 2 := by simp; omega
   have hlen2 : (((P ++ [w]) ++ w :: (C ++ E)).length : Int) = P.length + C.length + E.length + 2 := by simp; omega
   rw [if_pos (by simp; omega), w1, g1, g2, s1, e2, s2, hlen, hlen2, z04 ⟨by omega, by omega⟩, z04 ⟨by omega, by omega⟩, z04 ⟨by omega, by omega⟩, z04 ⟨by omega, by omega⟩]
   have := ih (P ++ [w]) C E (by simp; omega) (by omega)
   have e3 : (((P ++ [w]).length : Nat) : Int) = (P.length : Int) + 1 := by simp
   have e4 : (P.length : Int) + ((w :: C).length : Nat) + 1 = (P.length : Int) + 1 + C.length + 1 := by simp; omega
   rw [e3] at this
   rw [e4, this]
   simp
theorem zxe (φ : Nat) (x : α) (P : List α) : ∀ (n : Nat) (C E : List α), P.length + C.length + E.length <= 999999 -> C.length < n ->
  zgd φ n (P.length : Int) ((P.length : Int) + C.length) (P ++ C ++ x :: E) = some (P ++ x :: (C ++ E)) := by
 intro n
 induction n with
 | zero => intro C E _ h; omega
 | succ n ih =>
  intro C E hl hn
  rw [zgd]
  rcases zba C with rfl | ⟨S, z, rfl⟩
  ·rw [if_neg (by simp)]; simp
  ·simp only [List.length_append, List.length_cons, List.length_nil] at hl hn
   have w1 : W ((P.length : Int) + ((S ++ [z]).length : Nat) - 1) = (P.length : Int) + S.length := by
    rw [W_id (by simp; omega) (by simp; omega)]; simp; omega
   have e1 : P ++ (S ++ [z]) ++ x :: E = (P ++ S ++ [z]) ++ x :: E := by simp
   have e2 : P ++ (S ++ [z]) ++ x :: E = (P ++ S) ++ z :: (x :: E) := by simp
   have g1 : gt (P ++ (S ++ [z]) ++ x :: E) ((P.length : Int) + ((S ++ [z]).length : Nat)) = x := by rw [e1]; exact zev (by simp <;> omega)
   have g2 : gt (P ++ (S ++ [z]) ++ x :: E) ((P.length : Int) + S.length) = z := by rw [e2]; exact zev (by simp)
   have s1 : z0l (P ++ (S ++ [z]) ++ x :: E) ((P.length : Int) + ((S ++ [z]).length : Nat)) z = (P ++ S) ++ z :: (z :: E) := by rw [e1, zky (by simp <;> omega)]; simp
   have s2 : z0l ((P ++ S) ++ z :: (z :: E)) ((P.length : Int) + S.length) x = P ++ S ++ x :: (z :: E) := zky (by simp)
   have hlen : ((P ++ (S ++ [z]) ++ x :: E).length : Int) = P.length + S.length + E.length + 2 := by simp; omega
   have hlen2 : (((P ++ S) ++ z :: (z :: E)).length : Int) = P.length + S.length + E.length + 2 := by simp; omega
   rw [if_pos (by simp; omega), w1, g1, g2, s1, s2, hlen, hlen2, z04 ⟨by omega, by omega⟩, z04 ⟨by simp; omega, by simp; omega⟩, z04 ⟨by simp; omega, by simp; omega⟩, z04 ⟨by omega, by omega⟩]
   rw [ih S (z :: E) (by simp; omega) (by omega)]
   simp
theorem zu4 (hs : Swo lt) (hy : Cmp D y lt) (φ : Nat) (P L Q : List α) (x : α) (hx : D x) (hD : ∀ z ∈ L, D z) (hS : Srt lt L) (hl : P.length + L.length + Q.length <= 999998) (hφ : P.length + L.length + 2 < φ) :
  ∃ R, Srt lt R /\ Stb lt (x :: L) R /\ zaq φ φ (P.length : Int) y ((P.length : Int) + 1) ((P.length : Int) + 1 + L.length) (P ++ x :: (L ++ Q)) = some (P ++ R ++ Q) := by
 have gx : gt (P ++ x :: (L ++ Q)) (P.length : Int) = x := zev rfl
 have hlen : ((P ++ x :: (L ++ Q)).length : Int) = P.length + L.length + Q.length + 1 := by simp; omega
 have gL : ∀ i : Nat, P.length + 1 <= i -> i < P.length + 1 + L.length -> gt (P ++ x :: (L ++ Q)) (i : Int) = gt L ((i - (P.length + 1) : Nat) : Int) := by
  intro i h1 h2
  have e : P ++ x :: (L ++ Q) = (P ++ [x]) ++ (L ++ Q) := by simp
  rw [e, z9k _ _ _ (by simp; omega), ze1 _ _ _ (by simp; omega) (by simp; omega)]
  congr 1; simp; omega
 obtain ⟨c, h1, h2, h3, h4, h5⟩ := zu2 (fun n s r => zaq φ n (P.length : Int) y s r (P ++ x :: (L ++ Q)))
  (fun s => zgk φ φ s (P.length : Int) (P ++ x :: (L ++ Q))) (fun h => lt (gt (P ++ x :: (L ++ Q)) (h : Int)) x) (P.length + 1 + L.length) (P.length + 1)
  (by
   intro n s r h0 hlt hR
   have hm : (W ((U (W ((s : Int) + r))).fdiv 2)) = (((s + r) / 2 : Nat) : Int) := by rw [zzd (by omega) (by omega)]; omega
   have hm1 : W ((((s + r) / 2 : Nat) : Int) + 1) = (((s + r) / 2 + 1 : Nat) : Int) := by rw [W_id (by omega) (by omega)]; simp
   obtain ⟨w, hw1, hw2⟩ := hy (gt (P ++ x :: (L ++ Q)) (((s + r) / 2 : Nat) : Int)) x (by
    rw [gL _ (by omega) (by omega)]; exact hD _ (zgx (by omega) (by omega))) hx
   show zaq φ (n + 1) _ _ _ _ _ = _
   rw [zaq, if_pos (by simp; omega), if_pos (by decide), p21, hm, hm1, hlen, gx, z04 ⟨by omega, by omega⟩, z04 ⟨by omega, by omega⟩, hw1]
   simp only [Option.bind_some, hw2])
  (by
   intro n s
   show zaq φ (n + 1) _ _ _ _ _ = _
   rw [zaq, if_neg (by simp)]) φ (P.length + 1) (P.length + 1 + L.length) (Nat.le_refl _) (by omega) (Nat.le_refl _) (by omega)
 obtain ⟨C, E, rfl, hC⟩ : ∃ C E, L = C ++ E /\ C.length = c - (P.length + 1) := ⟨L.take (c - (P.length + 1)), L.drop (c - (P.length + 1)), (List.take_append_drop _ _).symm, by simp; omega⟩
 simp only [List.length_append] at hl hφ h2 gL
 have hCx : ∀ z ∈ C, lt z x = true := by
  intro z hz
  rcases zba C with rfl | ⟨S, w, rfl⟩
  ·cases hz
  ·simp only [List.length_append, List.length_cons, List.length_nil] at hC hz hS gL h2
   have hp : lt w x = true := by
    rcases h3 with h3 | h3
    ·omega
    ·rw [gL _ (by omega) (by omega)] at h3
     have e : S ++ [w] ++ E = S ++ w :: E := by simp
     rw [e, zev (by omega)] at h3
     exact h3
   rcases List.mem_append.1 hz with h | h
   ·exact zjc hs (hS.parts.1.parts.2.2 z h w (by simp)) hp (hs.irr x)
   ·simp at h; rw [h]; exact hp
 have hEx : ∀ z ∈ E, lt z x = false := by
  intro z hz
  cases E with
  | nil => cases hz
  | cons w E =>
   simp only [List.length_cons] at h2 gL h4
   have hp : lt w x = false := by
    rcases h4 with h4 | h4
    ·simp at h4; omega
    ·rw [gL _ (by omega) (by omega), zev (by omega)] at h4
     exact h4
   rcases List.mem_cons.1 hz with h | h
   ·rw [h]; exact hp
   ·exact hs.ntr _ _ _ ((List.pairwise_cons.1 hS.parts.2.1).1 z h) hp
 have hm := zhk hs (A := []) (B := [x]) (C := C) (E := E) (R1 := C) (R2 := x :: E) (List.pairwise_singleton _ _) hS (by simpa using hCx) (by simp) hS.parts.1 (by simpa using Stb.refl C) (List.pairwise_cons.2 ⟨hEx, hS.parts.2.1⟩) (by simpa using Stb.refl (x :: E))
 refine ⟨C ++ x :: E, hm.1, by simpa using hm.2, ?_⟩
 have e5 : ((P.length : Int) + 1 + ((C ++ E).length : Nat)) = ((P.length + 1 + (C ++ E).length : Nat) : Int) := by simp
 have e6 : ((P.length : Int) + 1) = ((P.length + 1 : Nat) : Int) := by simp
 rw [e5, e6]
 refine h5.trans ?_
 show zgk φ φ _ _ _ = _
 have e7 : (c : Int) = (P.length : Int) + C.length + 1 := by omega
 have e8 : P ++ x :: (C ++ E ++ Q) = P ++ x :: (C ++ (E ++ Q)) := by simp
 rw [e7, e8, y4g φ x φ P C (E ++ Q) (by simp; omega) (by omega)]
 simp
theorem zxy (hs : Swo lt) (hy : Cmp D y lt) (φ : Nat) (P L Q : List α) (x : α) (hx : D x) (hD : ∀ z ∈ L, D z) (hS : Srt lt L) (hl : P.length + L.length + Q.length <= 999998) (hφ : P.length + L.length + 2 < φ) :
  ∃ R, Srt lt R /\ Stb lt (L ++ [x]) R /\ zau φ φ ((P.length : Int) + L.length) y (P.length : Int) ((P.length : Int) + L.length) (P ++ L ++ x :: Q) = some (P ++ R ++ Q) := by
 have gx : gt (P ++ L ++ x :: Q) ((P.length : Int) + L.length) = x := zev (by simp)
 have hlen : ((P ++ L ++ x :: Q).length : Int) = P.length + L.length + Q.length + 1 := by simp; omega
 have gL : ∀ i : Nat, P.length <= i -> i < P.length + L.length -> gt (P ++ L ++ x :: Q) (i : Int) = gt L ((i - P.length : Nat) : Int) := by
  intro i h1 h2
  rw [List.append_assoc, z9k _ _ _ (by omega), ze1 _ _ _ (by omega) (by omega)]
  congr 1; omega
 obtain ⟨c, h1, h2, h3, h4, h5⟩ := zu2 (fun n s r => zau φ n ((P.length : Int) + L.length) y s r (P ++ L ++ x :: Q))
  (fun s => zgd φ φ s ((P.length : Int) + L.length) (P ++ L ++ x :: Q)) (fun h => !lt x (gt (P ++ L ++ x :: Q) (h : Int))) (P.length + L.length) P.length
  (by
   intro n s r h0 hlt hR
   have hm : (W ((U (W ((s : Int) + r))).fdiv 2)) = (((s + r) / 2 : Nat) : Int) := by rw [zzd (by omega) (by omega)]; omega
   have hm1 : W ((((s + r) / 2 : Nat) : Int) + 1) = (((s + r) / 2 + 1 : Nat) : Int) := by rw [W_id (by omega) (by omega)]; simp
   obtain ⟨w, hw1, hw2⟩ := hy x (gt (P ++ L ++ x :: Q) (((s + r) / 2 : Nat) : Int)) hx (by
    rw [gL _ (by omega) (by omega)]; exact hD _ (zgx (by omega) (by omega)))
   show zau φ (n + 1) _ _ _ _ _ = _
   rw [zau, if_pos (by simp; omega), if_pos (by decide), p21, hm, hm1, hlen, gx, z04 ⟨by omega, by omega⟩, z04 ⟨by omega, by omega⟩, hw1]
   simp only [Option.bind_some, hw2])
  (by
   intro n s
   show zau φ (n + 1) _ _ _ _ _ = _
   rw [zau, if_neg (by simp)]) φ P.length (P.length + L.length) (Nat.le_refl _) (by omega) (Nat.le_refl _) (by omega)
 obtain ⟨A, B, rfl, hC⟩ : ∃ A B, L = A ++ B /\ A.length = c - P.length := ⟨L.take (c - P.length), L.drop (c - P.length), (List.take_append_drop _ _).symm, by simp; omega⟩
 simp only [List.length_append] at hl hφ h2 gL
 have hA : ∀ z ∈ A, lt x z = false := by
  intro z hz
  rcases zba A with rfl | ⟨S, w, rfl⟩
  ·cases hz
  ·simp only [List.length_append, List.length_cons, List.length_nil] at hC hz hS gL h2
   have hp : lt x w = false := by
    rcases h3 with h3 | h3
    ·omega
    ·rw [gL _ (by omega) (by omega)] at h3
     have e : S ++ [w] ++ B = S ++ w :: B := by simp
     rw [e, zev (by omega)] at h3
     simpa using h3
   rcases List.mem_append.1 hz with h | h
   ·exact hs.ntr _ _ _ hp (hS.parts.1.parts.2.2 z h w (by simp))
   ·simp at h; rw [h]; exact hp
 have hB : ∀ z ∈ B, lt x z = true := by
  intro z hz
  cases B with
  | nil => cases hz
  | cons w B =>
   simp only [List.length_cons] at h2 gL h4
   have hp : lt x w = true := by
    rcases h4 with h4 | h4
    ·simp at h4; omega
    ·rw [gL _ (by omega) (by omega), zev (by omega)] at h4
     simpa using h4
   rcases List.mem_cons.1 hz with h | h
   ·rw [h]; exact hp
   ·exact zjc hs (hs.irr x) hp ((List.pairwise_cons.1 hS.parts.2.1).1 z h)
 have hm := zhk hs (A := A) (B := B) (C := [x]) (E := []) (R1 := A ++ [x]) (R2 := B) hS (by rw [List.append_nil]; exact List.pairwise_singleton _ x) (by simpa using hB) (by simp)
  (hS.parts.1.app (List.pairwise_singleton _ _) (by simpa using hA)) (Stb.refl _) hS.parts.2.1 (by simpa using Stb.refl B)
 refine ⟨A ++ [x] ++ B, hm.1, by simpa using hm.2, ?_⟩
 have e5 : ((P.length : Int) + ((A ++ B).length : Nat)) = ((P.length + (A ++ B).length : Nat) : Int) := by simp
 rw [e5] at h5 ⊢
 refine h5.trans ?_
 show zgd φ φ _ _ _ = _
 have e7 : (c : Int) = (((P ++ A).length : Nat) : Int) := by simp; omega
 have e8 : P ++ (A ++ B) ++ x :: Q = (P ++ A) ++ B ++ x :: Q := by simp
 have e9 : ((P.length + (A ++ B).length : Nat) : Int) = (((P ++ A).length : Nat) : Int) + B.length := by simp; omega
 rw [e7, e8, e9, zxe φ x (P ++ A) φ B Q (by simp; omega) (by omega)]
 simp
def zzu (φ : Nat) (k0 : List α -> Int -> Int -> Int -> (α -> α -> Option Int) -> Option (List α)) (a m b : Int) (y : α -> α -> Option Int) (mid n s : Int) (l : List α) : Option (List α) :=
 (if ((decide ((s : Int) < m)) && (decide ((m : Int) < (W (n - s))))) = true then ((grot φ l s m (W (n - s)) y).bind fun y66 => (zdu φ k0 a b y mid s (W (n - s)) y66)) else (zdu φ k0 a b y mid s (W (n - s)) l))
theorem y8r (hs : Swo lt) (hy : Cmp D y lt) (φ : Nat) (k0 : List α -> Int -> Int -> Int -> (α -> α -> Option Int) -> Option (List α)) (P L1 L2 Q : List α) (hD1 : ∀ z ∈ L1, D z) (hD2 : ∀ z ∈ L2, D z) (hS1 : Srt lt L1) (hS2 : Srt lt L2)
  (a m b mid s0 r0 : Nat) (ha : a = P.length) (hm : m = a + L1.length) (hb : b = m + L2.length) (hmid : mid = (a + b) / 2) (hl : b + Q.length <= 999998) (hφ : b < φ)
  (h1 : 1 <= L1.length) (h2 : 1 <= L2.length) (hs0 : (mid < m /\ s0 = mid + m - b /\ r0 = mid) \/ (m <= mid /\ s0 = a /\ r0 = m)) :
  ∃ A B C E, L1 = A ++ B /\ L2 = C ++ E /\ mid + m - (a + A.length) = m + C.length /\ (∀ x ∈ B, ∀ y ∈ C, lt y x = true) /\ (∀ x ∈ A, ∀ y ∈ E, lt y x = false) /\
   zas φ k0 φ (a : Int) (m : Int) (b : Int) y (mid : Int) ((mid + m : Nat) : Int) (s0 : Int) (r0 : Int) ((mid + m - 1 : Nat) : Int) (P ++ L1 ++ L2 ++ Q) = zzu φ k0 (a : Int) (m : Int) (b : Int) y (mid : Int) ((mid + m : Nat) : Int) ((a + A.length : Nat) : Int) (P ++ L1 ++ L2 ++ Q) := by
 have g1 : ∀ i : Nat, a <= i -> i < m -> gt (P ++ L1 ++ L2 ++ Q) (i : Int) = gt L1 ((i - a : Nat) : Int) := by
  intro i q1 q2
  have e : P ++ L1 ++ L2 ++ Q = P ++ (L1 ++ (L2 ++ Q)) := by simp
  rw [e, z9k _ _ _ (by omega), ze1 _ _ _ (by omega) (by omega)]
  congr 1; omega
 have g2 : ∀ i : Nat, m <= i -> i < b -> gt (P ++ L1 ++ L2 ++ Q) (i : Int) = gt L2 ((i - m : Nat) : Int) := by
  intro i q1 q2
  have e : P ++ L1 ++ L2 ++ Q = (P ++ L1) ++ (L2 ++ Q) := by simp
  rw [e, z9k _ _ _ (by simp; omega), ze1 _ _ _ (by simp; omega) (by simp; omega)]
  congr 1; simp; omega
 have hlen : ((P ++ L1 ++ L2 ++ Q).length : Int) = b + Q.length := by simp; omega
 have hW : W ((U (W ((a : Int) + b))).fdiv 2) = (mid : Int) := by rw [zzd (by omega) (by omega)]; omega
 have hn : W ((mid : Int) + m) = ((mid + m : Nat) : Int) := by rw [W_id (by omega) (by omega)]; simp
 have hp : W (((mid + m : Nat) : Int) - 1) = ((mid + m - 1 : Nat) : Int) := by rw [W_id (by omega) (by omega)]; omega
 have hmb : mid <= b := by omega
 have ham : a <= mid := by omega
 obtain ⟨c, h3, h4, h5, h6, h7⟩ := zu2 (fun n s r => zas φ k0 n (a : Int) (m : Int) (b : Int) y (mid : Int) ((mid + m : Nat) : Int) s r ((mid + m - 1 : Nat) : Int) (P ++ L1 ++ L2 ++ Q)) (fun s => zzu φ k0 (a : Int) (m : Int) (b : Int) y (mid : Int) ((mid + m : Nat) : Int) s (P ++ L1 ++ L2 ++ Q))
  (fun c => !lt (gt (P ++ L1 ++ L2 ++ Q) ((mid + m - 1 - c : Nat) : Int)) (gt (P ++ L1 ++ L2 ++ Q) (c : Int))) r0 s0
  (by
   intro n s r q0 hlt hR
   have hm' : (W ((U (W ((s : Int) + r))).fdiv 2)) = (((s + r) / 2 : Nat) : Int) := by rw [zzd (by omega) (by omega)]; omega
   have hm1 : W ((((s + r) / 2 : Nat) : Int) + 1) = (((s + r) / 2 + 1 : Nat) : Int) := by rw [W_id (by omega) (by omega)]; simp
   have hpc : W (((mid + m - 1 : Nat) : Int) - (((s + r) / 2 : Nat) : Int)) = ((mid + m - 1 - (s + r) / 2 : Nat) : Int) := by rw [W_id (by omega) (by omega)]; omega
   obtain ⟨w, hw1, hw2⟩ := hy (gt (P ++ L1 ++ L2 ++ Q) ((mid + m - 1 - (s + r) / 2 : Nat) : Int)) (gt (P ++ L1 ++ L2 ++ Q) (((s + r) / 2 : Nat) : Int))
    (by rw [g2 _ (by omega) (by omega)]; exact hD2 _ (zgx (by omega) (by omega))) (by rw [g1 _ (by omega) (by omega)]; exact hD1 _ (zgx (by omega) (by omega)))
   show zas φ k0 (n + 1) _ _ _ _ _ _ _ _ _ _ = _
   rw [zas, if_pos (by simp; omega), if_pos (by decide), p21, hm', hm1, hpc, hlen, z04 ⟨by omega, by omega⟩, z04 ⟨by omega, by omega⟩, hw1]
   simp only [Option.bind_some, hw2])
  (by
   intro n s
   show zas φ k0 (n + 1) _ _ _ _ _ _ _ _ _ _ = _
   rw [zas, if_neg (by simp)]
   rfl) φ s0 r0 (Nat.le_refl _) (by omega) (Nat.le_refl _) (by omega)
 obtain ⟨A, B, rfl, hA⟩ : ∃ A B, L1 = A ++ B /\ A.length = c - a := ⟨L1.take (c - a), L1.drop (c - a), (List.take_append_drop _ _).symm, by simp; omega⟩
 obtain ⟨C, E, rfl, hC⟩ : ∃ C E, L2 = C ++ E /\ C.length = mid - c := ⟨L2.take (mid - c), L2.drop (mid - c), (List.take_append_drop _ _).symm, by simp; omega⟩
 simp only [List.length_append] at hm hb g1 g2
 refine ⟨A, B, C, E, rfl, rfl, by omega, ?_, ?_, ?_⟩
 ·intro x hx z hz
  rcases zba C with rfl | ⟨S, w, rfl⟩
  ·cases hz
  ·cases B with
   | nil => cases hx
   | cons x0 B =>
    simp only [List.length_append, List.length_cons, List.length_nil] at hC hm hb g1 g2 hA
    have hp : lt w x0 = true := by
     rcases h6 with h6 | h6
     ·omega
     ·rw [g1 c (by omega) (by omega), g2 (mid + m - 1 - c) (by omega) (by omega)] at h6
      have e : S ++ [w] ++ E = S ++ w :: E := by simp
      rw [e, zev (by omega), zev (by omega)] at h6
      simpa using h6
    have hz1 : lt w z = false := by
     rcases List.mem_append.1 hz with h | h
     ·exact hS2.parts.1.parts.2.2 z h w (by simp)
     ·simp at h; rw [h]; exact hs.irr _
    have hx1 : lt x x0 = false := by
     rcases List.mem_cons.1 hx with h | h
     ·rw [h]; exact hs.irr _
     ·exact (List.pairwise_cons.1 hS1.parts.2.1).1 x h
    exact zjc hs hz1 hp hx1
 ·intro x hx z hz
  rcases zba A with rfl | ⟨S, w, rfl⟩
  ·cases hx
  ·cases E with
   | nil => cases hz
   | cons e0 E =>
    simp only [List.length_append, List.length_cons, List.length_nil] at hC hm hb g1 g2 hA
    have hp : lt e0 w = false := by
     rcases h5 with h5 | h5
     ·omega
     ·have e1 : mid + m - 1 - (c - 1) = mid + m - c := by omega
      rw [e1, g1 (c - 1) (by omega) (by omega), g2 (mid + m - c) (by omega) (by omega)] at h5
      have e : S ++ [w] ++ B = S ++ w :: B := by simp
      rw [e, zev (by omega), zev (by omega)] at h5
      simpa using h5
    have hz1 : lt z e0 = false := by
     rcases List.mem_cons.1 hz with h | h
     ·rw [h]; exact hs.irr _
     ·exact (List.pairwise_cons.1 hS2.parts.2.1).1 z h
    have hx1 : lt w x = false := by
     rcases List.mem_append.1 hx with h | h
     ·exact hS1.parts.1.parts.2.2 x h w (by simp)
     ·simp at h; rw [h]; exact hs.irr _
    exact zuo hs hz1 hp hx1
 ·refine h7.trans ?_
  have e : (c : Int) = ((a + A.length : Nat) : Int) := by omega
  show zzu φ k0 _ _ _ _ _ _ _ _ = _
  rw [e]
theorem zsh (hs : Swo lt) (hy : Cmp D y lt) (φ : Nat) : ∀ (d : Nat) (P L1 L2 Q : List α), (∀ z ∈ L1, D z) -> (∀ z ∈ L2, D z) -> Srt lt L1 -> Srt lt L2 -> L1 ≠ [] -> L2 ≠ [] ->
  P.length + L1.length + L2.length + Q.length <= 999998 -> P.length + L1.length + L2.length + 3 < φ -> L1.length + L2.length <= d ->
  ∃ R, Srt lt R /\ Stb lt (L1 ++ L2) R /\ gsym φ d (P ++ L1 ++ L2 ++ Q) (P.length : Int) ((P.length : Int) + L1.length) ((P.length : Int) + L1.length + L2.length) y = some (P ++ R ++ Q) := by
 intro d
 induction d with
 | zero => intro P L1 L2 Q _ _ _ _ h1 _ _ _ h; have := List.length_pos_iff.2 h1; omega
 | succ d ih =>
  intro P L1 L2 Q hD1 hD2 hS1 hS2 hn1 hn2 hl hφ hd
  have hp1 := List.length_pos_iff.2 hn1
  have hp2 := List.length_pos_iff.2 hn2
  rw [gsym]
  have w1 : W ((P.length : Int) + L1.length - P.length) = (L1.length : Int) := by rw [W_id (by omega) (by omega)]; omega
  have w2 : W ((P.length : Int) + L1.length + L2.length - ((P.length : Int) + L1.length)) = (L2.length : Int) := by rw [W_id (by omega) (by omega)]; omega
  rw [w1, w2]
  by_cases q1 : L1.length = 1
  ·rw [if_pos (by simp [q1])]
   match L1, q1 with
   | [x], _ =>
    obtain ⟨R, r1, r2, r3⟩ := zu4 hs hy φ P L2 Q x (hD1 x (by simp)) hD2 hS2 (by simp at hl; omega) (by simp at hφ; omega)
    refine ⟨R, r1, r2, ?_⟩
    rw [<- r3]
    simp
  ·rw [if_neg (by simp; omega)]
   by_cases q2 : L2.length = 1
   ·rw [if_pos (by simp [q2])]
    match L2, q2 with
    | [x], _ =>
     obtain ⟨R, r1, r2, r3⟩ := zxy hs hy φ P L1 Q x (hD2 x (by simp)) hD1 hS1 (by simp at hl; omega) (by simp at hφ; omega)
     refine ⟨R, r1, r2, ?_⟩
     rw [<- r3]
     simp
   ·rw [if_neg (by simp; omega)]
    obtain ⟨a, ha⟩ : ∃ a, a = P.length := ⟨_, rfl⟩
    obtain ⟨m, hm⟩ : ∃ m, m = a + L1.length := ⟨_, rfl⟩
    obtain ⟨b, hb⟩ : ∃ b, b = m + L2.length := ⟨_, rfl⟩
    obtain ⟨mid, hmid⟩ : ∃ mid, mid = (a + b) / 2 := ⟨_, rfl⟩
    have ea : (P.length : Int) = (a : Int) := by omega
    have em : (P.length : Int) + L1.length = (m : Int) := by omega
    have eb : (P.length : Int) + L1.length + L2.length = (b : Int) := by omega
    rw [eb, em, ea]
    have hW : W ((U (W ((a : Int) + b))).fdiv 2) = (mid : Int) := by rw [zzd (by omega) (by omega)]; omega
    have hn : W ((mid : Int) + m) = ((mid + m : Nat) : Int) := by rw [W_id (by omega) (by omega)]; simp
    rw [if_pos (show (0 : Int) <= 1 by decide), p21, hW, hn]
    have key : ∃ s0 r0 : Nat, ((mid < m /\ s0 = mid + m - b /\ r0 = mid) \/ (m <= mid /\ s0 = a /\ r0 = m)) /\
      (if decide ((mid : Int) < m) = true then zgj φ (gsym φ d) (a : Int) (m : Int) (b : Int) y (mid : Int) ((mid + m : Nat) : Int) (W (((mid + m : Nat) : Int) - b)) (mid : Int) (P ++ L1 ++ L2 ++ Q)
       else zgj φ (gsym φ d) (a : Int) (m : Int) (b : Int) y (mid : Int) ((mid + m : Nat) : Int) (a : Int) (m : Int) (P ++ L1 ++ L2 ++ Q)) =
      zgj φ (gsym φ d) (a : Int) (m : Int) (b : Int) y (mid : Int) ((mid + m : Nat) : Int) (s0 : Int) (r0 : Int) (P ++ L1 ++ L2 ++ Q) := by
     by_cases q : mid < m
     ·refine ⟨mid + m - b, mid, .inl ⟨q, rfl, rfl⟩, ?_⟩
      have : W (((mid + m : Nat) : Int) - b) = ((mid + m - b : Nat) : Int) := by rw [W_id (by omega) (by omega)]; omega
      rw [if_pos (by simp; omega), this]
     ·refine ⟨a, m, .inr ⟨by omega, rfl, rfl⟩, ?_⟩
      rw [if_neg (by simp; omega)]
    obtain ⟨s0, r0, hk, e⟩ := key
    rw [e]
    unfold zgj
    have hp : W (((mid + m : Nat) : Int) - 1) = ((mid + m - 1 : Nat) : Int) := by rw [W_id (by omega) (by omega)]; omega
    rw [hp]
    obtain ⟨A, B, C, E, rfl, rfl, hc, hA, hB, hL⟩ := y8r hs hy φ (gsym φ d) P L1 L2 Q hD1 hD2 hS1 hS2 a m b mid s0 r0 ha hm hb hmid (by omega) (by omega) (by omega) (by omega) hk
    rw [hL]
    simp only [List.length_append] at hm hb hl hφ hp1 hp2 q1 q2
    have hcm : mid = a + A.length + C.length := by omega
    have hend : W (((mid + m : Nat) : Int) - ((a + A.length : Nat) : Int)) = ((m + C.length : Nat) : Int) := by rw [W_id (by omega) (by omega)]; omega
    have step1 : zzu φ (gsym φ d) (a : Int) (m : Int) (b : Int) y (mid : Int) ((mid + m : Nat) : Int) ((a + A.length : Nat) : Int) (P ++ (A ++ B) ++ (C ++ E) ++ Q) =
      zdu φ (gsym φ d) (a : Int) (b : Int) y (mid : Int) ((a + A.length : Nat) : Int) ((m + C.length : Nat) : Int) (P ++ A ++ C ++ B ++ E ++ Q) := by
     unfold zzu
     rw [hend]
     by_cases hBC : B = [] \/ C = []
     ·rw [if_neg (by
       rcases hBC with rfl | rfl
       ·simp at hm ⊢; omega
       ·simp)]
      rcases hBC with rfl | rfl <;> simp
     ·obtain ⟨hB0, hC0⟩ := not_or.1 hBC
      have b0 := List.length_pos_iff.2 hB0
      have c0 := List.length_pos_iff.2 hC0
      rw [if_pos (by simp; omega)]
      have := y9s φ (P ++ A) B C (E ++ Q) y hB0 hC0 (by simp; omega) (by omega)
      have e1 : P ++ (A ++ B) ++ (C ++ E) ++ Q = P ++ A ++ B ++ C ++ (E ++ Q) := by simp
      have e2 : ((a + A.length : Nat) : Int) = ((P ++ A).length : Nat) := by simp; omega
      have e3 : (m : Int) = ((P ++ A).length : Nat) + (B.length : Int) := by simp; omega
      have e4 : ((m + C.length : Nat) : Int) = ((P ++ A).length : Nat) + (B.length : Int) + C.length := by simp; omega
      rw [e1]
      conv => lhs; arg 1; rw [e4, e2, e3]
      rw [this]
      simp only [Option.bind_some]
      congr 1
      simp
    rw [step1]
    have step2 : ∃ R1, Srt lt R1 /\ Stb lt (A ++ C) R1 /\ zdu φ (gsym φ d) (a : Int) (b : Int) y (mid : Int) ((a + A.length : Nat) : Int) ((m + C.length : Nat) : Int) (P ++ A ++ C ++ B ++ E ++ Q) =
      zie φ (gsym φ d) (b : Int) y (mid : Int) ((m + C.length : Nat) : Int) (P ++ R1 ++ B ++ E ++ Q) := by
     unfold zdu
     by_cases hAC : A = [] \/ C = []
     ·refine ⟨A ++ C, ?_, Stb.refl _, ?_⟩
      ·rcases hAC with rfl | rfl
       ·simpa using hS2.parts.1
       ·simpa using hS1.parts.1
      ·rw [if_neg (by
        rcases hAC with rfl | rfl
        ·simp
        ·simp at hcm ⊢; omega)]
       simp
     ·obtain ⟨hA0, hC0⟩ := not_or.1 hAC
      have a0 := List.length_pos_iff.2 hA0
      have c0 := List.length_pos_iff.2 hC0
      obtain ⟨R1, r1, r2, r3⟩ := ih P A C (B ++ E ++ Q) (fun z hz => hD1 z (by simp [hz])) (fun z hz => hD2 z (by simp [hz])) hS1.parts.1 hS2.parts.1 hA0 hC0 (by simp; omega) (by omega) (by omega)
      refine ⟨R1, r1, r2, ?_⟩
      rw [if_pos (by simp; omega)]
      have e1 : P ++ A ++ C ++ B ++ E ++ Q = P ++ A ++ C ++ (B ++ E ++ Q) := by simp
      have e2 : ((a + A.length : Nat) : Int) = (P.length : Int) + A.length := by simp; omega
      have e3 : (mid : Int) = (P.length : Int) + A.length + C.length := by omega
      rw [e1]
      conv => lhs; arg 1; rw [e3, e2, <- ea]
      rw [r3]
      simp
    obtain ⟨R1, r1, r2, e2⟩ := step2
    rw [e2]
    have hR1 : R1.length = A.length + C.length := by rw [r2.len]; simp
    have step3 : ∃ R2, Srt lt R2 /\ Stb lt (B ++ E) R2 /\ zie φ (gsym φ d) (b : Int) y (mid : Int) ((m + C.length : Nat) : Int) (P ++ R1 ++ B ++ E ++ Q) = some (P ++ (R1 ++ R2) ++ Q) := by
     unfold zie
     by_cases hBE : B = [] \/ E = []
     ·refine ⟨B ++ E, ?_, Stb.refl _, ?_⟩
      ·rcases hBE with rfl | rfl
       ·simpa using hS2.parts.2.1
       ·simpa using hS1.parts.2.1
      ·rw [if_neg (by
        rcases hBE with rfl | rfl
        ·simp at hm ⊢; omega
        ·simp at hb ⊢; omega)]
       simp
     ·obtain ⟨hB0, hE0⟩ := not_or.1 hBE
      have b0 := List.length_pos_iff.2 hB0
      have c0 := List.length_pos_iff.2 hE0
      obtain ⟨R2, p1, p2, p3⟩ := ih (P ++ R1) B E Q (fun z hz => hD1 z (by simp [hz])) (fun z hz => hD2 z (by simp [hz])) hS1.parts.2.1 hS2.parts.2.1 hB0 hE0 (by simp; omega) (by simp; omega) (by omega)
      refine ⟨R2, p1, p2, ?_⟩
      rw [if_pos (by simp; omega)]
      have e1 : (mid : Int) = ((P ++ R1).length : Nat) := by simp; omega
      have e3 : ((m + C.length : Nat) : Int) = ((P ++ R1).length : Nat) + (B.length : Int) := by simp; omega
      have e4 : (b : Int) = ((P ++ R1).length : Nat) + (B.length : Int) + E.length := by simp; omega
      conv => lhs; arg 1; rw [e4, e3, e1]
      rw [p3]
      simp
    obtain ⟨R2, p1, p2, e3⟩ := step3
    rw [e3]
    have hm' := zhk hs hS1 hS2 hA hB r1 r2 p1 p2
    exact ⟨R1 ++ R2, hm'.1, hm'.2, rfl⟩
theorem zxi (hs : Swo lt) (hy : Cmp D y lt) (φ N : Nat) (hN : N <= 900000) (hφ : N < φ) :
  ∀ (n : Nat) (X Y : List α), (∀ z ∈ Y, D z) -> X.length + Y.length = N -> Y.length < n ->
  ∃ Y1 Y2 Y1', Y = Y1 ++ Y2 /\ Runs lt 20 (Y1' ++ []) /\ Y2.length < 20 /\ Stb lt Y1 Y1' /\ (∀ T, Runs lt 20 T -> Runs lt 20 (Y1' ++ T)) /\
   zfv φ n (N : Int) y 20 (X.length : Int) ((X.length : Int) + 20) (X ++ Y) = ((gins φ (X ++ Y1' ++ Y2) ((X.length : Int) + Y1.length) (N : Int) y).bind fun y12 => z9f φ φ (N : Int) y 20 y12) := by
 intro n
 induction n with
 | zero => intro X Y _ _ h; omega
 | succ n ih =>
  intro X Y hD hl hn
  rw [zfv]
  by_cases h : Y.length < 20
  ·refine ⟨[], Y, [], rfl, .last (by simp) List.Pairwise.nil, h, Stb.refl _, fun T hT => hT, ?_⟩
   rw [if_neg (by simp; omega)]
   simp
  ·obtain ⟨B, Z, rfl, hB⟩ : ∃ B Z, Y = B ++ Z /\ B.length = 20 := ⟨Y.take 20, Y.drop 20, (List.take_append_drop _ _).symm, by simp; omega⟩
   simp only [List.length_append] at hl hn h
   rw [if_pos (by simp; omega)]
   obtain ⟨B', b1, b2, b3⟩ := zzb hs hy φ X B Z (fun z hz => hD z (by simp [hz])) (by omega) (by omega)
   rw [hB] at b3
   have e1 : X ++ (B ++ Z) = X ++ B ++ Z := by simp
   have e2 : ((20 : Nat) : Int) = 20 := rfl
   rw [e2] at b3
   rw [e1, b3]
   simp only [Option.bind_some]
   have hB' : B'.length = 20 := by rw [b2.len, hB]
   have w1 : W ((X.length : Int) + 20 + 20) = (X.length : Int) + 20 + 20 := W_id (by omega) (by omega)
   have e3 : (X.length : Int) + 20 = ((X ++ B').length : Nat) := by simp [hB']
   rw [w1]
   obtain ⟨Y1, Y2, Y1', q1, q2, q3, q4, q5, q6⟩ := ih (X ++ B') Z (fun z hz => hD z (by simp [hz])) (by simp; omega) (by omega)
   rw [<- e3] at q6
   refine ⟨B ++ Y1, Y2, B' ++ Y1', by rw [q1]; simp, ?_, q3, b2.app q4, fun T hT => ?_, ?_⟩
   ·rw [List.append_assoc]; exact .cons hB' b1 q2
   ·rw [List.append_assoc]; exact .cons hB' b1 (q5 T hT)
   ·rw [q6]
    have e4 : (X.length : Int) + 20 + Y1.length = (X.length : Int) + ((B ++ Y1).length : Nat) := by simp; omega
    rw [e4]
    simp
theorem yco (hs : Swo lt) (hy : Cmp D y lt) (φ N bs : Nat) (k : Int -> (α -> α -> Option Int) -> Int -> List α -> Option (List α)) (hN : N <= 900000) (hφ : 2 * N + 3 < φ) (hb0 : 0 < bs) (hb : bs <= 900000) :
  ∀ (n : Nat) (X Y : List α), (∀ z ∈ Y, D z) -> Runs lt bs Y -> X.length + Y.length = N -> Y.length < n ->
  ∃ Y', Runs lt (bs * 2) Y' /\ Stb lt Y Y' /\ zj1 φ k n (N : Int) y (bs : Int) (X.length : Int) ((X.length : Int) + 2 * bs) (X ++ Y) = k (N : Int) y ((bs * 2 : Nat) : Int) (X ++ Y') := by
 intro n
 induction n with
 | zero => intro X Y _ _ _ h; omega
 | succ n ih =>
  intro X Y hD hR hl hn
  have w1 : W ((X.length : Int) + bs) = (X.length : Int) + bs := W_id (by omega) (by omega)
  have w2 : W ((bs : Int) * 2) = ((bs * 2 : Nat) : Int) := by rw [W_id (by omega) (by omega)]; simp
  have w3 : W (2 * (bs : Int)) = 2 * (bs : Int) := W_id (by omega) (by omega)
  have w4 : W ((X.length : Int) + 2 * bs + 2 * bs) = (X.length : Int) + 2 * bs + 2 * bs := W_id (by omega) (by omega)
  rw [zj1, w1, w3, w4]
  by_cases h : 2 * bs <= Y.length
  ·rw [if_pos (by simp; omega)]
   obtain ⟨B1, r, rfl, h1, s1, hr, hne⟩ := hR.big (by omega)
   simp only [List.length_append] at hl hn h
   obtain ⟨B2, Z, rfl, h2, s2, hZ⟩ : ∃ B2 Z, r = B2 ++ Z /\ B2.length = bs /\ Srt lt B2 /\ Runs lt bs Z := by
    by_cases q : r.length = bs
    ·exact ⟨r, [], by simp, q, hr.small (by omega), .last (by simp) List.Pairwise.nil⟩
    ·obtain ⟨b, r', e, q1, q2, q3, _⟩ := hr.big (by omega)
     exact ⟨b, r', e, q1, q2, q3⟩
   simp only [List.length_append] at hl hn h
   obtain ⟨R, r1, r2, r3⟩ := zsh hs hy φ φ X B1 B2 Z (fun z hz => hD z (by simp [hz])) (fun z hz => hD z (by simp [hz])) s1 s2 (by intro e; subst e; simp at h1; omega) (by intro e; subst e; simp at h2; omega) (by omega) (by omega) (by omega)
   have hRl : R.length = 2 * bs := by rw [r2.len]; simp; omega
   have e1 : X ++ (B1 ++ (B2 ++ Z)) = X ++ B1 ++ B2 ++ Z := by simp
   have e2 : (X.length : Int) + bs = (X.length : Int) + B1.length := by omega
   have e3 : (X.length : Int) + 2 * bs = (X.length : Int) + B1.length + B2.length := by omega
   have e4 : (X.length : Int) + 2 * bs = ((X ++ R).length : Nat) := by simp; omega
   obtain ⟨Y', p1, p2, p3⟩ := ih (X ++ R) Z (fun z hz => hD z (by simp [hz])) hZ (by simp; omega) (by omega)
   refine ⟨R ++ Y', .cons (by omega) r1 p1, ?_, ?_⟩
   ·have := r2.app p2
    simpa using this
   ·rw [e1]
    conv => lhs; arg 1; rw [e2, e3]
    rw [r3]
    simp only [Option.bind_some]
    rw [e4, p3]
    simp
  ·rw [if_neg (by simp; omega)]
   rw [w2]
   by_cases q : bs < Y.length
   ·rw [if_pos (by simp; omega)]
    obtain ⟨B1, B2, rfl, h1, s1, hr, hne⟩ := hR.big q
    simp only [List.length_append] at hl hn h
    obtain ⟨R, r1, r2, r3⟩ := zsh hs hy φ φ X B1 B2 [] (fun z hz => hD z (by simp [hz])) (fun z hz => hD z (by simp [hz])) s1 (hr.small (by omega)) (by intro e; subst e; simp at h1; omega) hne (by simp; omega) (by omega) (by omega)
    have e1 : X ++ (B1 ++ B2) = X ++ B1 ++ B2 ++ [] := by simp
    have e2 : (X.length : Int) + bs = (X.length : Int) + B1.length := by omega
    have e3 : (N : Int) = (X.length : Int) + B1.length + B2.length := by omega
    refine ⟨R, .last (by rw [r2.len]; simp; omega) r1, r2, ?_⟩
    rw [e1, e2, e3, r3]
    simp
   ·rw [if_neg (by simp; omega)]
    exact ⟨Y, .last (by omega) (hR.small (by omega)), Stb.refl _, rfl⟩
theorem ya0 (hs : Swo lt) (hy : Cmp D y lt) (φ N : Nat) (hN : N <= 400000) (hφ : 2 * N + 3 < φ) :
  ∀ (n bs : Nat) (Y : List α), (∀ z ∈ Y, D z) -> Runs lt bs Y -> Y.length = N -> 0 < bs -> bs <= 900000 -> N - bs < n ->
  ∃ Y', Srt lt Y' /\ Stb lt Y Y' /\ z9f φ n (N : Int) y (bs : Int) Y = some Y' := by
 intro n
 induction n with
 | zero => intro bs Y _ _ _ _ _ h; omega
 | succ n ih =>
  intro bs Y hD hR hl hb0 hb hn
  rw [z9f]
  by_cases h : bs < N
  ·rw [if_pos (by simp; omega), W_id (x := 2 * (bs : Int)) (by omega) (by omega)]
   obtain ⟨Y', p1, p2, p3⟩ := yco hs hy φ N bs (z9f φ n) (by omega) hφ hb0 hb φ [] Y hD hR (by simpa using hl) (by omega)
   obtain ⟨Y'', q1, q2, q3⟩ := ih (bs * 2) Y' (fun z hz => hD z (p2.mem.1 hz)) p1 (by rw [p2.len, hl]) (by omega) (by omega) (by omega)
   refine ⟨Y'', q1, p2.trans q2, ?_⟩
   rw [<- q3]
   simpa using p3
  ·rw [if_neg (by simp; omega)]
   exact ⟨Y, hR.small (by omega), Stb.refl _, rfl⟩
theorem y3c (hs : Swo lt) (hy : Cmp D y lt) (φ : Nat) (v : List α) (hD : ∀ z ∈ v, D z) (hN : v.length <= 400000) (hφ : 2 * v.length + 3 < φ) :
  ∃ r, Srt lt r /\ Stb lt v r /\ yai φ v y = some r := by
 unfold yai ybd
 obtain ⟨Y1, Y2, Y1', q1, q2, q3, q4, q5, q6⟩ := zxi hs hy φ v.length (by omega) (by omega) φ [] v hD (by simp) (by omega)
 have q6' : zfv φ φ (v.length : Int) y 20 0 20 v = ((gins φ (Y1' ++ Y2) (Y1.length : Int) (v.length : Int) y).bind fun y12 => z9f φ φ (v.length : Int) y 20 y12) := by simpa using q6
 rw [q6']
 have hl : v.length = Y1.length + Y2.length := by rw [q1]; simp
 have hl1 : Y1'.length = Y1.length := q4.len
 obtain ⟨Y2', p1, p2, p3⟩ := zzb hs hy φ Y1' Y2 [] (fun z hz => hD z (by rw [q1]; simp [hz])) (by simp; omega) (by omega)
 simp only [List.append_nil] at p3
 have e1 : (Y1.length : Int) = Y1'.length := by omega
 have e2 : (v.length : Int) = (Y1'.length : Int) + Y2.length := by omega
 have p3' : gins φ (Y1' ++ Y2) (Y1.length : Int) (v.length : Int) y = some (Y1' ++ Y2') := by rw [e1, e2]; exact p3
 have hst : Stb lt v (Y1' ++ Y2') := by rw [q1]; exact q4.app p2
 obtain ⟨r, r1, r2, r3⟩ := ya0 hs hy φ v.length hN hφ φ 20 (Y1' ++ Y2') (fun z hz => hD z (hst.mem.1 hz)) (q5 _ (.last (by rw [p2.len]; omega) p1)) hst.len (by omega) (by omega) (by omega)
 refine ⟨r, r1, hst.trans r2, ?_⟩
 rw [p3']
 simp only [Option.bind_some]
 have r3' : z9f φ φ (v.length : Int) y 20 (Y1' ++ Y2') = some r := r3
 rw [r3']
 rfl
end
end Px
end
section
namespace Px
open Go
set_option linter.unusedVariables false
set_option linter.unusedSimpArgs false
set_option maxRecDepth 100000
theorem ztj {n b : Nat} (h : n <= 100000) (hb : b <= 1000) : fits n b := by
 unfold fits
 exact Nat.le_trans (Nat.mul_le_mul h hb) (by omega)
theorem y4u (φ : Nat) (v : List z6) (y : z6 -> z6 -> Option Int) : z2q φ v y = yai φ v y := by kernel_rfl
def y8e (a b : Ref) : Bool := decide (a.railway < b.railway) || (decide (a.railway = b.railway) && decide (a.no < b.no))
def ztz (a b : z6) : Bool := decide (a.item.to < b.item.to) || (decide (a.item.to = b.item.to) && y8e a.ref b.ref)
theorem y0n {a b : Ref} : y8e a b = true ↔ a.railway < b.railway \/ (a.railway = b.railway /\ a.no < b.no) := by simp [y8e]
theorem zmk {a b : z6} : ztz a b = true ↔ a.item.to < b.item.to \/ (a.item.to = b.item.to /\ (a.ref.railway < b.ref.railway \/ (a.ref.railway = b.ref.railway /\ a.ref.no < b.ref.no))) := by
 simp [ztz, y0n]
theorem zpy {a b : z6} : ztz a b = false ↔ ¬ (a.item.to < b.item.to \/ (a.item.to = b.item.to /\ (a.ref.railway < b.ref.railway \/ (a.ref.railway = b.ref.railway /\ a.ref.no < b.ref.no)))) := by
 rw [<- zmk]; simp
theorem zir : Swo ztz where
 asym := fun a b h => by rw [zpy]; rw [zmk] at h; omega
 ntr := fun a b c h1 h2 => by rw [zpy] at *; omega
theorem ybq {α : Type} {lt : α -> α -> Bool} (h : Swo lt) : Sort.SWO lt where
 irrefl := fun a => h.irr a
 trans := fun a b c h1 h2 => by
  cases h3 : lt a c with
  | true => rfl
  | false =>
   have h4 := h.asym _ _ h2
   rw [h.ntr a c b h3 h4] at h1; cases h1
 ntrans := fun a b c h1 h2 => h.ntr a b c h1 h2
theorem y2h (φ : Nat) (h : 3 <= φ) (a b : z6) : z9l φ a b = some (or2 (cmpI a.ref.railway b.ref.railway) (cmpI a.ref.no b.ref.no), ()) := by
 unfold z9l
 simp only [zkd, Option.bind_some]
 rw [yaf φ h]; rfl
theorem y7i (φ : Nat) (h : 3 <= φ) : Cmp (fun _ => True) (fun a b => (z4w φ a b).bind fun r => (some r.1)) ztz := by
 intro a b _ _
 refine ⟨or2 (cmpI a.item.to b.item.to) (or2 (cmpI a.ref.railway b.ref.railway) (cmpI a.ref.no b.ref.no)), ?_, ?_⟩
 ·simp only [z4w, zkd, y2h φ h, Option.bind_some]
  rw [yaf φ h]; rfl
 ·rw [Bool.eq_iff_iff, decide_eq_true_eq, y1f, y1f, znc, znc, znc, zun, zun, zmk]
section
variable {α : Type} {lt : α -> α -> Bool}
theorem y8y (hs : Swo lt) {a x y : α} (h1 : eqv2 lt a x = true) (h2 : eqv2 lt a y = true) : lt y x = false := by
 simp only [eqv2, Bool.and_eq_true, Bool.not_eq_true'] at h1 h2
 exact hs.ntr y a x h2.2 h1.1
theorem zwr (hs : Swo lt) (a x : α) : ∀ r : List α, (insL lt x r).filter (eqv2 lt a) = (x :: r).filter (eqv2 lt a)
 | [] => rfl
 | y :: r => by
  simp only [insL]
  cases h : lt y x with
  | false => rfl
  | true =>
   simp only [cond_true]
   rw [List.filter_cons, zwr hs a x r]
   cases h1 : eqv2 lt a x <;> cases h2 : eqv2 lt a y <;> simp [List.filter_cons, h1, h2]
   rw [y8y hs h1 h2] at h; cases h
theorem znq (hs : Swo lt) : ∀ l : List α, Stb lt l (zfr lt l)
 | [] => Stb.refl _
 | x :: l => by
  refine ⟨z5e _ _, fun a => ?_⟩
  show (insL lt x (zfr lt l)).filter _ = _
  rw [zwr hs, List.filter_cons, List.filter_cons, (znq hs l).2 a]
theorem zrx (hs : Swo lt) (l : List α) : Srt lt (zfr lt l) := z9e (ybq hs) l
theorem zo7 (hs : Swo lt) {l r : List α} (h1 : Srt lt r) (h2 : Stb lt l r) : r = zfr lt l := by
 refine Srt.unique hs h1 (zrx hs l) ⟨(z5e _ _).trans h2.1.symm, fun a => ?_⟩
 rw [(znq hs l).2 a, h2.2 a]
end
def zjz (at_ : Int) (r : z6) : Bool := ((r.item.kind : Int) == 9) && decide ((r.item.to : Int) <= at_)
def hist (l : List z6) (at_ : Int) : List z6 := zfr ztz (l.filter (zjz at_))
theorem zmi (l : List z6) (at_ : Int) : (hist l at_).length <= l.length := by
 unfold hist; rw [(z5e _ _).length_eq]; exact List.length_filter_le _ _
theorem zr3 {l : List z6} {at_ : Int} {r : z6} : r ∈ hist l at_ ↔ r ∈ l /\ zjz at_ r = true := by
 unfold hist; rw [(z5e _ _).mem_iff, List.mem_filter]
abbrev Cmps := List (z1 × List (Int × Bool))
def ofP (p : Part) : z1 := ⟨p.kind, p.serial⟩
def zmo (w : Int) (M : Cmps) (p : Part) : Cmps :=
 if p.fitted = false then (match cget kl_9 M (ofP p) with
  | some s => cset kl_9 M (ofP p) (cdel kl_0 s w)
  | none => M)
 else (match cget kl_9 M (ofP p) with
  | some s => cset kl_9 M (ofP p) (cset kl_0 s w true)
  | none => cset kl_9 (cset kl_9 M (ofP p) (default : List (Int × Bool))) (ofP p) (cset kl_0 ([] : List (Int × Bool)) w true))
def zug (M : Cmps) (r : z6) : Cmps := r.item.parts.foldl (zmo r.item.wagon) M
def zpu (rs : List z6) : Cmps := rs.foldl zug []
theorem zu6 {α : Type} (p : α -> Bool) (l : List α) : ∀ acc : List α, l.foldl (fun s r => if p r = true then s ++ [r] else s) acc = acc ++ l.filter p := by
 induction l with
 | nil => intro acc; simp
 | cons a l ih =>
  intro acc
  rw [List.foldl_cons, ih, List.filter_cons]
  cases p a <;> simp
theorem zmz (φ : Nat) (k14) (at1 i1 : Int) (r : z6) (rs : List z6) (hp : r.item.parts.length <= 1000) (n : Nat) (hn : r.item.parts.length < n) (M : Cmps) :
  zo φ k14 n at1 i1 r.item.parts (r.item.parts.length : Int) 0 M r rs = k14 at1 (W (i1 + 1)) (zug M r) rs := by
 refine (zdm (fun n i M => zo φ k14 n at1 i1 r.item.parts (r.item.parts.length : Int) i M r rs) (fun M => k14 at1 (W (i1 + 1)) M rs) r.item.parts (zmo r.item.wagon) (fun _ _ => True) ?_ ?_ n M trivial hn).1
 ·intro n i M hi _
  refine ⟨?_, trivial⟩
  rw [zo, if_pos (by simp; omega), z04 ⟨by omega, by omega⟩, W_id (x := (i : Int) + 1) (by omega) (by omega)]
  simp only [z9g, Option.bind_some]
  show _ = zo φ k14 n at1 i1 r.item.parts (r.item.parts.length : Int) ((i : Int) + 1) (zmo r.item.wagon M (gt r.item.parts (i : Int))) r rs
  unfold zmo ofP
  cases hf : (gt r.item.parts (i : Int)).fitted with
  | false =>
   simp only [Bool.not_false, if_true]
   cases hc : cget kl_9 M (⟨(gt r.item.parts (i : Int)).kind, (gt r.item.parts (i : Int)).serial⟩ : z1) with
   | none => simp [ck]
   | some s => simp [ck]
  | true =>
   simp only [Bool.not_true, Bool.false_eq_true, if_false]
   cases hc : cget kl_9 M (⟨(gt r.item.parts (i : Int)).kind, (gt r.item.parts (i : Int)).serial⟩ : z1) with
   | none => simp [ck]
   | some s => simp [ck]
 ·intro n M _
  rw [zo, if_neg (by simp)]
theorem znl (φ : Nat) (hφ : 1000 < φ) (rs : List z6) (hl : rs.length <= 1000) (hp : ∀ r ∈ rs, r.item.parts.length <= 1000) (n : Nat) (hn : rs.length < n) :
  z09 φ n (rs.length : Int) 0 [] rs = some (zpu rs, ()) := by
 refine (zdm (fun n i M => z09 φ n (rs.length : Int) i M rs) (fun M => some (M, ())) rs zug (fun _ _ => True) ?_ ?_ n [] trivial hn).1
 ·intro n i M hi _
  refine ⟨?_, trivial⟩
  rw [z09, if_pos (by simp; omega), z04 ⟨by omega, by omega⟩]
  have hg := zgx (l := rs) (i := (i : Int)) (by omega) (by omega)
  rw [zmz φ _ _ _ _ rs (hp _ hg) φ (by have := hp _ hg; omega), W_id (x := (i : Int) + 1) (by omega) (by omega)]
 ·intro n M _
  rw [z09, if_neg (by simp)]
theorem zuy (φ : Nat) (hφ : 10000 < φ) (l : List z6) (at_ : Int) (hl : l.length <= 1000) (hp : ∀ r ∈ l, r.item.parts.length <= 1000) : z11 φ l at_ = some (zpu (hist l at_), ()) := by
 unfold z11
 refine (zdm (fun n i acc => z1a φ n at_ l (l.length : Int) i acc) (fun acc => (z2q φ acc (fun a b => (z4w φ a b).bind fun r => (some r.1))).bind fun y9 => (z09 φ φ (y9.length : Int) 0 (([] : (List (z1 × (List (Int × Bool)))))) y9)) l (fun s r => if zjz at_ r = true then s ++ [r] else s) (fun i s => s.length <= i) ?_ ?_ φ [] (by simp) (by omega)).1.trans ?_
 ·intro n i acc hi ha
  refine ⟨?_, ?_⟩
  ·rw [z1a, if_pos (by simp; omega), z04 ⟨by omega, by omega⟩, W_id (x := (i : Int) + 1) (by omega) (by omega)]
   show (if zjz at_ (gt l (i : Int)) = true then _ else _) = _
   cases h : zjz at_ (gt l (i : Int)) with
   | false => simp
   | true =>
    simp only [if_true]
    rw [z04 (ztj (by simp; omega) (by omega))]
  ·show (if zjz at_ (gt l (i : Int)) = true then _ else _ : List z6).length <= _
   split
   ·simp; omega
   ·omega
 ·intro n acc _
  rw [z1a, if_neg (by simp)]
 ·rw [zu6, List.nil_append, y4u]
  have hfl : (l.filter (zjz at_)).length <= 1000 := Nat.le_trans (List.length_filter_le _ _) hl
  obtain ⟨r, h1, h2, h3⟩ := y3c zir (y7i φ (by omega)) φ (l.filter (zjz at_)) (fun _ _ => trivial) (by omega) (by omega)
  have hr : r = hist l at_ := zo7 zir h1 h2
  subst hr
  rw [h3, Option.bind_some]
  have hlen := zmi l at_
  exact znl φ (by omega) _ (by omega) (fun r hr => hp r (zr3.1 hr).1) φ (by omega)
end Px
end
section
namespace Px
open Go
set_option linter.unusedVariables false
set_option linter.unusedSimpArgs false
def zxl (s : List Int) (w : Int) : List Int := s.filter (fun x => decide (x < w)) ++ w :: s.filter (fun x => decide (w < x))
def zj2 (s : List Int) (w : Int) : List Int := s.filter (fun x => x != w)
abbrev Inc (s : List Int) : Prop := s.Pairwise fun a b => a < b
theorem y1g {a b : List Int} (ha : Inc a) (hb : Inc b) (h : ∀ x, x ∈ a ↔ x ∈ b) : a = b := by
 have na : a.Nodup := ha.imp fun h => by omega
 have nb : b.Nodup := hb.imp fun h => by omega
 refine List.Perm.eq_of_pairwise (le := fun a b : Int => a <= b) (fun a b _ _ h1 h2 => by omega) (ha.imp fun h => by omega) (hb.imp fun h => by omega) ?_
 exact (List.perm_ext_iff_of_nodup na nb).2 h
theorem zia {s : List Int} {w x : Int} : x ∈ zxl s w ↔ x = w \/ x ∈ s := by
 unfold zxl
 simp only [List.mem_append, List.mem_filter, List.mem_cons, decide_eq_true_eq]
 constructor
 ·rintro (h | h | h)
  ·exact .inr h.1
  ·exact .inl h
  ·exact .inr h.1
 ·rintro (h | h)
  ·exact .inr (.inl h)
  ·rcases Int.lt_trichotomy x w with q | q | q
   ·exact .inl ⟨h, q⟩
   ·exact .inr (.inl q)
   ·exact .inr (.inr ⟨h, q⟩)
theorem y0r {s : List Int} (h : Inc s) (w : Int) : Inc (zxl s w) := by
 unfold zxl Inc
 rw [List.pairwise_append]
 refine ⟨h.filter _, List.pairwise_cons.2 ⟨fun x hx => ?_, h.filter _⟩, fun a ha b hb => ?_⟩
 ·simpa using (List.mem_filter.1 hx).2
 ·have h1 : a < w := by simpa using (List.mem_filter.1 ha).2
  rcases List.mem_cons.1 hb with rfl | hb
  ·exact h1
  ·have h2 : w < b := by simpa using (List.mem_filter.1 hb).2
   omega
theorem zl2 {s : List Int} {w x : Int} : x ∈ zj2 s w ↔ x ∈ s /\ x ≠ w := by simp [zj2]
theorem zsg {s : List Int} (h : Inc s) (w : Int) : Inc (zj2 s w) := h.filter _
theorem ybx {a b : Int} : ltI (kl_0 a) (kl_0 b) = true ↔ a < b := by
 show ltI [a] [b] = true ↔ _
 simp only [ltI]
 by_cases h : a < b
 ·simp [h]
 ·by_cases h2 : a = b
  ·simp [h2]
  ·simp [h, h2]
theorem zgo {s : List (Int × Bool)} (h : Srt' kl_0 s) : Inc (s.map (·.1)) := List.pairwise_map.2 (List.Pairwise.imp (fun {a b} q => ybx.1 q) h)
theorem y1z {a b : Int} (h : kl_0 a = kl_0 b) : a = b := by
 have h : [a] = [b] := h
 cases h; rfl
theorem y9y {a b : z1} (h : kl_9 a = kl_9 b) : a = b := by
 obtain ⟨a1, a2⟩ := a
 obtain ⟨b1, b2⟩ := b
 have h : [a1, a2] = [b1, b2] := h
 cases h; rfl
theorem zq3 {s : List (Int × Bool)} (h : Srt' kl_0 s) (w : Int) (v : Bool) : (cset kl_0 s w v).map (·.1) = zxl (s.map (·.1)) w := by
 refine y1g (zgo (h.set w v)) (y0r (zgo h) w) fun x => ?_
 rw [zia]
 simp only [List.mem_map]
 constructor
 ·rintro ⟨p, hp, rfl⟩
  rcases (z4c h).1 hp with rfl | ⟨hp, _⟩
  ·exact .inl rfl
  ·exact .inr ⟨p, hp, rfl⟩
 ·rintro (rfl | ⟨p, hp, rfl⟩)
  ·exact ⟨_, (z4c h).2 (.inl rfl), rfl⟩
  ·by_cases e : p.1 = w
   ·exact ⟨(w, v), (z4c h).2 (.inl rfl), e.symm⟩
   ·exact ⟨p, (z4c h).2 (.inr ⟨hp, fun q => e (y1z q).symm⟩), rfl⟩
theorem y2k {s : List (Int × Bool)} (h : Srt' kl_0 s) (w : Int) : (cdel kl_0 s w).map (·.1) = zj2 (s.map (·.1)) w := by
 refine y1g (zgo (h.del w)) (zsg (zgo h) w) fun x => ?_
 rw [zl2, zbv h.ndp]
 simp only [List.mem_map, List.mem_filter, Bool.not_eq_true', beq_eq_false_iff_ne]
 constructor
 ·rintro ⟨p, ⟨hp, hn⟩, rfl⟩
  exact ⟨⟨p, hp, rfl⟩, fun e => hn (by rw [e])⟩
 ·rintro ⟨⟨p, hp, rfl⟩, hn⟩
  exact ⟨p, ⟨hp, fun e => hn (y1z e).symm⟩, rfl⟩
instance : DecidableEq z1 := fun a b => decidable_of_iff (a.kind = b.kind /\ a.serial = b.serial) ⟨fun h => by cases a; cases b; cases h.1; cases h.2; rfl, fun h => by rw [h]; exact ⟨rfl, rfl⟩⟩
def OkS (s : List (Int × Bool)) : Prop := Srt' kl_0 s /\ ∀ q ∈ s, q.2 = true
theorem OkS.nil : OkS [] := ⟨List.Pairwise.nil, fun q hq => by cases hq⟩
theorem OkS.set {s : List (Int × Bool)} (h : OkS s) (w : Int) : OkS (cset kl_0 s w true) :=
 ⟨h.1.set w true, fun q hq => by
  rcases (z4c h.1).1 hq with rfl | ⟨hq, _⟩
  ·rfl
  ·exact h.2 q hq⟩
theorem OkS.del {s : List (Int × Bool)} (h : OkS s) (w : Int) : OkS (cdel kl_0 s w) :=
 ⟨h.1.del w, fun q hq => h.2 q ((zpo s w).subset hq)⟩
structure OkM (M : Cmps) : Prop where
 srt : Srt' kl_9 M
 vals : ∀ p ∈ M, OkS p.2
def wk (M : Cmps) (c : z1) : List (Int × Bool) := (cget kl_9 M c).getD (default : List (Int × Bool))
theorem OkM.nil : OkM [] := ⟨List.Pairwise.nil, fun q hq => by cases hq⟩
theorem OkM.set {M : Cmps} (h : OkM M) (c : z1) {s : List (Int × Bool)} (hs : OkS s) : OkM (cset kl_9 M c s) :=
 ⟨h.srt.set c s, fun q hq => by
  rcases (z4c h.srt).1 hq with rfl | ⟨hq, _⟩
  ·exact hs
  ·exact h.vals q hq⟩
theorem OkM.get {M : Cmps} (h : OkM M) {c : z1} {s : List (Int × Bool)} (hc : cget kl_9 M c = some s) : OkS s := by
 obtain ⟨a, hm, _⟩ := ze6 hc
 exact h.vals _ hm
theorem OkM.wk {M : Cmps} (h : OkM M) (c : z1) : OkS (wk M c) := by
 unfold Px.wk
 cases hc : cget kl_9 M c with
 | none => exact OkS.nil
 | some s => exact h.get hc
theorem OkM.step {M : Cmps} (h : OkM M) (w : Int) (p : Part) : OkM (zmo w M p) := by
 unfold zmo
 split
 ·split
  ·rename_i s hc; exact h.set _ ((h.get hc).del w)
  ·exact h
 ·split
  ·rename_i s hc; exact h.set _ ((h.get hc).set w)
  ·exact (h.set _ OkS.nil).set _ (OkS.nil.set w)
theorem zx1 {M : Cmps} (h : Srt' kl_9 M) (c d : z1) (s : List (Int × Bool)) : wk (cset kl_9 M c s) d = if d = c then s else wk M d := by
 unfold wk
 rw [zx9 h]
 by_cases e : d = c
 ·subst e; simp
 ·have : (kl_9 d == kl_9 c) = false := by rw [beq_eq_false_iff_ne]; exact fun q => e (y9y q)
  rw [this, if_neg e]; rfl
def zr1 (c : z1) (w : Int) (s : List Int) (p : Part) : List Int := if ofP p = c then (if p.fitted = true then zxl s w else zj2 s w) else s
theorem yag {M : Cmps} (h : OkM M) (w : Int) (p : Part) (c : z1) : (wk (zmo w M p) c).map (·.1) = zr1 c w ((wk M c).map (·.1)) p := by
 unfold zmo zr1
 cases hf : p.fitted with
 | false =>
  simp only [if_true]
  split
  ·rename_i s hc
   rw [zx1 h.srt]
   by_cases e : c = ofP p
   ·rw [if_pos e, if_pos e.symm, if_neg (by simp), y2k (h.get hc).1]
    have : wk M c = s := by unfold wk; rw [e, hc]; rfl
    rw [this]
   ·rw [if_neg e, if_neg (fun q => e q.symm)]
  ·rename_i hc
   by_cases e : c = ofP p
   ·rw [if_pos e.symm, if_neg (by simp)]
    have : wk M c = [] := by unfold wk; rw [e, hc]; rfl
    rw [this]; rfl
   ·rw [if_neg (fun q => e q.symm)]
 | true =>
  simp only [Bool.true_eq_false, if_false]
  split
  ·rename_i s hc
   rw [zx1 h.srt]
   by_cases e : c = ofP p
   ·rw [if_pos e, if_pos e.symm, if_pos trivial, zq3 (h.get hc).1]
    have : wk M c = s := by unfold wk; rw [e, hc]; rfl
    rw [this]
   ·rw [if_neg e, if_neg (fun q => e q.symm)]
  ·rename_i hc
   rw [zx1 (h.srt.set _ _), zx1 h.srt]
   by_cases e : c = ofP p
   ·rw [if_pos e, if_pos e.symm, if_pos trivial, zq3 OkS.nil.1]
    have : wk M c = [] := by unfold wk; rw [e, hc]; rfl
    rw [this]
   ·rw [if_neg e, if_neg e, if_neg (fun q => e q.symm)]
def posR (c : z1) (s : List Int) (r : z6) : List Int := r.item.parts.foldl (zr1 c r.item.wagon) s
def posW (c : z1) (rs : List z6) : List Int := rs.foldl (posR c) []
theorem zwe (w : Int) (c : z1) : ∀ (ps : List Part) (M : Cmps), OkM M -> OkM (ps.foldl (zmo w) M) /\ (wk (ps.foldl (zmo w) M) c).map (·.1) = ps.foldl (zr1 c w) ((wk M c).map (·.1))
 | [], M, h => ⟨h, rfl⟩
 | p :: ps, M, h => by
  have := zwe w c ps (zmo w M p) (h.step w p)
  rw [yag h] at this
  exact this
theorem zup (c : z1) : ∀ (rs : List z6) (M : Cmps), OkM M -> OkM (rs.foldl zug M) /\ (wk (rs.foldl zug M) c).map (·.1) = rs.foldl (posR c) ((wk M c).map (·.1))
 | [], M, h => ⟨h, rfl⟩
 | r :: rs, M, h => by
  have h1 := zwe r.item.wagon c r.item.parts M h
  have := zup c rs (zug M r) h1.1
  show _ /\ _ = rs.foldl (posR c) (posR c _ r)
  rw [show posR c ((wk M c).map (·.1)) r = (wk (zug M r) c).map (·.1) from h1.2.symm]
  exact this
theorem zww (rs : List z6) : OkM (zpu rs) := (zup ⟨0, 0⟩ rs [] OkM.nil).1
theorem zf6 (rs : List z6) (c : z1) : (wk (zpu rs) c).map (·.1) = posW c rs := (zup c rs [] OkM.nil).2
theorem y2o (c : z1) (rs : List z6) : Inc (posW c rs) := by
 rw [<- zf6]; exact zgo ((zww rs).wk c).1
theorem zrt (c : z1) (w : Int) : ∀ (ps : List Part) (s : List Int) (x : Int), x ∈ ps.foldl (zr1 c w) s -> x = w \/ x ∈ s
 | [], s, x, h => .inr h
 | p :: ps, s, x, h => by
  rcases zrt c w ps _ x h with q | q
  ·exact .inl q
  ·unfold zr1 at q
   split at q
   ·split at q
    ·exact zia.1 q
    ·exact .inr (zl2.1 q).1
   ·exact .inr q
theorem zwx (c : z1) : ∀ (rs : List z6) (s : List Int) (x : Int), x ∈ rs.foldl (posR c) s -> x ∈ s \/ ∃ r ∈ rs, x = r.item.wagon
 | [], s, x, h => .inl h
 | r :: rs, s, x, h => by
  rcases zwx c rs _ x h with q | ⟨r', hr, q⟩
  ·rcases zrt c _ _ _ x q with q | q
   ·exact .inr ⟨r, by simp, q⟩
   ·exact .inl q
  ·exact .inr ⟨r', by simp [hr], q⟩
theorem zjq {c : z1} {rs : List z6} {x : Int} (h : x ∈ posW c rs) : ∃ r ∈ rs, x = r.item.wagon := by
 rcases zwx c rs [] x h with q | q
 ·cases q
 ·exact q
theorem zhw : ∀ {a : List Int} {b : List Int}, Inc a -> (∀ x ∈ a, x ∈ b) -> a.length <= b.length
 | [], b, _, _ => Nat.zero_le _
 | x :: a, b, ha, h => by
  have hx := h x (by simp)
  have h2 := List.pairwise_cons.1 ha
  have := zhw (a := a) (b := b.erase x) h2.2 fun y hy => (List.mem_erase_of_ne (fun e => by have := h2.1 y hy; omega)).2 (h y (by simp [hy]))
  rw [List.length_erase_of_mem hx] at this
  have := List.length_pos_of_mem hx
  simp only [List.length_cons]; omega
theorem zr4 (c : z1) (rs : List z6) : (posW c rs).length <= rs.length := by
 have := zhw (y2o c rs) (b := rs.map fun r => r.item.wagon) fun x hx => by
  obtain ⟨r, hr, e⟩ := zjq hx
  exact List.mem_map.2 ⟨r, hr, e.symm⟩
 simpa using this
end Px
end
section
namespace Px
open Go
set_option linter.unusedVariables false
set_option linter.unusedSimpArgs false
structure FewP (l : List z6) : Prop where
 len : l.length <= 100
 parts : ∀ r ∈ l, r.item.parts.length <= 40
 wagon : ∀ r ∈ l, -9223372036854775808 <= r.item.wagon /\ r.item.wagon < 9223372036854775808
theorem FewP.carriers {l : List z6} (h : FewP l) (φ : Nat) (hφ : 10000 < φ) (at_ : Int) : z11 φ l at_ = some (zpu (hist l at_), ()) :=
 zuy φ hφ l at_ (by have := h.len; omega) (fun r hr => by have := h.parts r hr; omega)
theorem zp9 {l : List z6} (h : FewP l) {c : z1} {at_ x : Int} (hx : x ∈ posW c (hist l at_)) : -9223372036854775808 <= x /\ x < 9223372036854775808 := by
 obtain ⟨r, hr, rfl⟩ := zjq hx
 exact h.wagon r (zr3.1 hr).1
theorem y6e {s : List (Int × Bool)} (h : ∀ x ∈ s.map (·.1), -9223372036854775808 <= x /\ x < 9223372036854775808) (hl : s.length <= 100000) : soK kl_0 s = true := by
 unfold soK
 rw [Bool.and_eq_true]
 refine ⟨List.all_eq_true.2 fun p hp => ?_, Nat.ble_eq_true_of_le (by omega)⟩
 obtain ⟨h1, h2⟩ := h p.1 (List.mem_map.2 ⟨p, hp, rfl⟩)
 show inI [p.1] = true
 simp [inI, h1, h2]
def carL (c : z1) (ws : List Int) : List z1v := ws.map fun w => ⟨⟨c.kind, c.serial, true⟩, w, ((ws.length : Int) : Int) == 1⟩
theorem y2x {α β : Type} (f : α -> β) (l : List α) : ∀ acc : List β, l.foldl (fun s r => s ++ [f r]) acc = acc ++ l.map f := by
 induction l with
 | nil => intro acc; simp
 | cons a l ih => intro acc; rw [List.foldl_cons, ih]; simp
theorem zv7 {l : List z6} (h : FewP l) (φ : Nat) (hφ : 10000 < φ) (k s at_ : Int) : z03 φ l k s at_ = some (carL ⟨k, s⟩ (posW ⟨k, s⟩ (hist l at_)), ()) := by
 unfold z03
 rw [h.carriers φ hφ, Option.bind_some]
 simp only
 have hk := zf6 (hist l at_) ⟨k, s⟩
 unfold wk at hk
 generalize hS : (cget kl_9 (zpu (hist l at_)) (⟨k, s⟩ : z1)).getD (default : List (Int × Bool)) = S at hk ⊢
 have hlen : S.length <= 100 := by
  have h1 := congrArg List.length hk
  rw [List.length_map] at h1
  have := zr4 ⟨k, s⟩ (hist l at_)
  have := zmi l at_
  have := h.len
  omega
 rw [z04 (y6e (fun x hx => zp9 h (c := ⟨k, s⟩) (at_ := at_) (by rw [<- hk]; exact hx)) (by omega))]
 have hW : (List.map (fun p : Int × Bool => p.1) S) = posW ⟨k, s⟩ (hist l at_) := hk
 rw [hW]
 have hSl : S.length = (posW ⟨k, s⟩ (hist l at_)).length := by rw [<- hk, List.length_map]
 generalize posW ⟨k, s⟩ (hist l at_) = ws at *
 refine (zdm (fun n i acc => z1x φ n S (ws.length : Int) i acc ⟨k, s⟩ ws) (fun acc => some (acc, ())) ws (fun acc w => acc ++ [(⟨⟨k, s, true⟩, w, ((ws.length : Int) : Int) == 1⟩ : z1v)]) (fun i acc => acc.length = i) ?_ ?_ φ [] rfl (by omega)).1.trans ?_
 ·intro n i acc hi ha
  refine ⟨?_, by simp [ha]⟩
  rw [z1x, if_pos (by simp; omega), z04 ⟨by omega, by omega⟩, W_id (x := (i : Int) + 1) (by omega) (by omega)]
  simp only [zy, Option.bind_some]
  rw [z04 (ztj (by simp; omega) (by omega)), hSl]
 ·intro n acc _
  rw [z1x, if_neg (by simp)]
 ·rw [y2x, List.nil_append]; rfl
theorem zqs {l : List z6} (h : FewP l) (φ : Nat) (hφ : 10000 < φ) (k s at_ : Int) : z65 φ l k s at_ = some (carL ⟨k, s⟩ (posW ⟨k, s⟩ (hist l at_)), ()) := by
 have : z65 φ l k s at_ = z03 φ l k s at_ := by kernel_rfl
 rw [this, zv7 h φ hφ]
def prt (c : z1) : Part := ⟨c.kind, c.serial, true⟩
end Px
end
section
namespace Px
open Go
set_option linter.unusedVariables false
set_option linter.unusedSimpArgs false
def cpM (m s : List (Int × Bool)) : List (Int × Bool) := s.foldl (fun m e => cset kl_0 m e.1 e.2) m
theorem y7d : ∀ {s m : List (Int × Bool)}, OkS m -> (∀ q ∈ s, q.2 = true) -> OkS (cpM m s) /\ ∀ x, x ∈ (cpM m s).map (·.1) ↔ x ∈ m.map (·.1) \/ x ∈ s.map (·.1)
 | [], m, h, _ => ⟨h, fun x => by simp [cpM]⟩
 | e :: s, m, h, hs => by
  have he : e.2 = true := hs e (by simp)
  have h1 : OkS (cset kl_0 m e.1 e.2) := by rw [he]; exact h.set e.1
  obtain ⟨h2, h3⟩ := y7d (s := s) h1 fun q hq => hs q (by simp [hq])
  refine ⟨h2, fun x => (h3 x).trans ?_⟩
  rw [zq3 h.1, zia]
  simp only [List.map_cons, List.mem_cons]
  constructor
  ·rintro ((q | q) | q)
   ·exact .inr (.inl q)
   ·exact .inl q
   ·exact .inr (.inr q)
  ·rintro (q | q | q)
   ·exact .inl (.inr q)
   ·exact .inl (.inl q)
   ·exact .inr q
theorem zh3 (φ : Nat) (k20) : ∀ (s : List (Int × Bool)) (n : Nat) (a b c d e f g i) (m : List (Int × Bool)), s.length < n -> zn φ k20 n a b c d e f g i m s = k20 a b c d e f g (W (i + 1)) (cpM m s)
 | [], n + 1, a, b, c, d, e, f, g, i, m, _ => rfl
 | x :: s, n + 1, a, b, c, d, e, f, g, i, m, h => by
  simp only [List.length_cons] at h
  simp only [zn, z1b]
  rw [zh3 φ k20 s n _ _ _ _ _ _ _ _ _ (by omega)]
  rfl
def zt9 (at_ : Int) (r : z6) : Bool := ((r.item.kind : Int) == 10) && decide ((r.time : Int) <= at_)
def blkR (at_ : Int) (M : Cmps) (m : List (Int × Bool)) (r : z6) : List (Int × Bool) := if zt9 at_ r = true then r.item.parts.foldl (fun m p => cpM m (wk M (ofP p))) m else m
theorem zoo (φ : Nat) (k10) (at_ : Int) (M : Cmps) (l : List z6) (ln i : Int) (ps : List Part) (hp : ps.length <= 1000) (hM : ∀ c, (wk M c).length < φ) (n : Nat) (hn : ps.length < n) (m : List (Int × Bool)) :
  z0j φ k10 n at_ M l ln i ps (ps.length : Int) 0 m = k10 at_ M l ln (W (i + 1)) (ps.foldl (fun m p => cpM m (wk M (ofP p))) m) := by
 refine (zdm (fun n j m => z0j φ k10 n at_ M l ln i ps (ps.length : Int) j m) (fun m => k10 at_ M l ln (W (i + 1)) m) ps (fun m p => cpM m (wk M (ofP p))) (fun _ _ => True) ?_ ?_ n m trivial hn).1
 ·intro n j m hj _
  refine ⟨?_, trivial⟩
  rw [z0j, if_pos (by simp; omega), z04 ⟨by omega, by omega⟩]
  simp only [z9g, Option.bind_some]
  show zn φ (z0j φ k10 n) φ at_ M l ln i ps (ps.length : Int) (j : Int) m (wk M (ofP (gt ps (j : Int)))) = _
  rw [zh3 φ _ _ φ _ _ _ _ _ _ _ _ _ (hM _), W_id (x := (j : Int) + 1) (by omega) (by omega)]
 ·intro n m _
  rw [z0j, if_neg (by simp)]
theorem zsq (φ : Nat) {l : List z6} (h : FewP l) (hφ : 10000 < φ) (at_ : Int) (M : Cmps) (hM : ∀ c, (wk M c).length < φ) :
  z0d φ φ at_ M l (l.length : Int) 0 [] = ck (soK kl_0 (l.foldl (blkR at_ M) []) = true) (some ((l.foldl (blkR at_ M) []).map (·.1), ())) := by
 have hl := h.len
 refine (zdm (fun n i m => z0d φ n at_ M l (l.length : Int) i m) (fun m => ck (soK kl_0 m = true) (some (m.map (·.1), ()))) l (blkR at_ M) (fun _ _ => True) ?_ ?_ φ [] trivial (by omega)).1
 ·intro n i m hi _
  refine ⟨?_, trivial⟩
  rw [z0d, if_pos (by simp; omega), z04 ⟨by omega, by omega⟩]
  have hg := zgx (l := l) (i := (i : Int)) (by omega) (by omega)
  rw [W_id (x := (i : Int) + 1) (by omega) (by omega)]
  unfold blkR zt9
  by_cases hk : ((gt l (i : Int)).item.kind : Int) = 10
  ·by_cases ht : ((gt l (i : Int)).time : Int) <= at_
   ·rw [if_neg (by simp; omega), if_pos (by simp [hk, ht]), zoo φ _ at_ M l _ _ _ (by have := h.parts _ hg; omega) hM φ (by have := h.parts _ hg; omega), W_id (x := (i : Int) + 1) (by omega) (by omega)]
   ·rw [if_pos (by simp; omega), if_neg (by simp; omega)]
  ·rw [if_pos (by simp [hk]), if_neg (by simp [hk])]
 ·intro n m _
  rw [z0d, if_neg (by simp)]
theorem ztb {M : Cmps} (hM : OkM M) : ∀ (ps : List Part) {m : List (Int × Bool)}, OkS m -> OkS (ps.foldl (fun m p => cpM m (wk M (ofP p))) m) /\ ∀ x, x ∈ (ps.foldl (fun m p => cpM m (wk M (ofP p))) m).map (·.1) ↔ x ∈ m.map (·.1) \/ ∃ p ∈ ps, x ∈ (wk M (ofP p)).map (·.1)
 | [], m, h => ⟨h, fun x => by simp⟩
 | p :: ps, m, h => by
  obtain ⟨h1, h2⟩ := y7d h (hM.wk (ofP p)).2
  obtain ⟨h3, h4⟩ := ztb hM ps h1
  refine ⟨h3, fun x => (h4 x).trans ?_⟩
  rw [h2 x]
  constructor
  ·rintro ((q | q) | ⟨p', hp, q⟩)
   ·exact .inl q
   ·exact .inr ⟨p, by simp, q⟩
   ·exact .inr ⟨p', by simp [hp], q⟩
  ·rintro (q | ⟨p', hp, q⟩)
   ·exact .inl (.inl q)
   ·rcases List.mem_cons.1 hp with rfl | hp
    ·exact .inl (.inr q)
    ·exact .inr ⟨p', hp, q⟩
theorem zwl (at_ : Int) {M : Cmps} (hM : OkM M) : ∀ (rs : List z6) {m : List (Int × Bool)}, OkS m -> OkS (rs.foldl (blkR at_ M) m) /\
  ∀ x, x ∈ (rs.foldl (blkR at_ M) m).map (·.1) ↔ x ∈ m.map (·.1) \/ ∃ r ∈ rs, zt9 at_ r = true /\ ∃ p ∈ r.item.parts, x ∈ (wk M (ofP p)).map (·.1)
 | [], m, h => ⟨h, fun x => by simp⟩
 | r :: rs, m, h => by
  have h1 : OkS (blkR at_ M m r) /\ ∀ x, x ∈ (blkR at_ M m r).map (·.1) ↔ x ∈ m.map (·.1) \/ (zt9 at_ r = true /\ ∃ p ∈ r.item.parts, x ∈ (wk M (ofP p)).map (·.1)) := by
   unfold blkR
   cases hr : zt9 at_ r with
   | false => simp only [Bool.false_eq_true, if_false]; exact ⟨h, fun x => by simp⟩
   | true =>
    simp only [if_true]
    obtain ⟨q1, q2⟩ := ztb hM r.item.parts h
    exact ⟨q1, fun x => (q2 x).trans (by simp)⟩
  obtain ⟨h3, h4⟩ := zwl at_ hM rs h1.1
  refine ⟨h3, fun x => (h4 x).trans ?_⟩
  rw [h1.2 x]
  constructor
  ·rintro ((q | q) | ⟨r', hr, q⟩)
   ·exact .inl q
   ·exact .inr ⟨r, by simp, q⟩
   ·exact .inr ⟨r', by simp [hr], q⟩
  ·rintro (q | ⟨r', hr, q⟩)
   ·exact .inl (.inl q)
   ·rcases List.mem_cons.1 hr with rfl | hr
    ·exact .inl (.inr q)
    ·exact .inr ⟨r', hr, q⟩
theorem zxo {l : List z6} (h : FewP l) (φ : Nat) (hφ : 10000 < φ) (at_ : Int) : ∃ b, zh φ l at_ = some (b, ()) /\ Inc b /\ b.length <= 100 /\
  ∀ x, x ∈ b ↔ ∃ r ∈ l, zt9 at_ r = true /\ ∃ p ∈ r.item.parts, x ∈ posW (ofP p) (hist l at_) := by
 unfold zh
 rw [h.carriers φ hφ, Option.bind_some]
 simp only
 have hM := zww (hist l at_)
 have hw : ∀ c, (wk (zpu (hist l at_)) c).length < φ := fun c => by
  have h1 := congrArg List.length (zf6 (hist l at_) c)
  rw [List.length_map] at h1
  have := zr4 c (hist l at_)
  have := zmi l at_
  have := h.len
  omega
 rw [zsq φ h hφ at_ _ hw]
 obtain ⟨h1, h2⟩ := zwl at_ hM l OkS.nil
 have hx : ∀ x, x ∈ (l.foldl (blkR at_ (zpu (hist l at_))) []).map (·.1) ↔ ∃ r ∈ l, zt9 at_ r = true /\ ∃ p ∈ r.item.parts, x ∈ posW (ofP p) (hist l at_) := by
  intro x
  rw [h2 x]
  simp only [List.map_nil, List.not_mem_nil, false_or]
  constructor
  ·rintro ⟨r, hr, q, p, hp, hx⟩; exact ⟨r, hr, q, p, hp, by rw [<- zf6]; exact hx⟩
  ·rintro ⟨r, hr, q, p, hp, hx⟩; exact ⟨r, hr, q, p, hp, by rw [zf6]; exact hx⟩
 have hinc := zgo h1.1
 generalize l.foldl (blkR at_ (zpu (hist l at_))) [] = m at *
 have hlen : m.length <= 100 := by
  have := zhw hinc (b := l.map fun r => r.item.wagon) fun x hxx => by
   obtain ⟨r, _, _, p, _, hp⟩ := (hx x).1 hxx
   obtain ⟨r', hr', e⟩ := zjq hp
   exact List.mem_map.2 ⟨r', (zr3.1 hr').1, e.symm⟩
  rw [List.length_map, List.length_map] at this
  have := h.len
  omega
 rw [z04 (y6e (fun x hxx => by
  obtain ⟨r, _, _, p, _, hp⟩ := (hx x).1 hxx
  exact zp9 h hp) (by omega))]
 exact ⟨_, rfl, hinc, by rw [List.length_map]; exact hlen, hx⟩
theorem zoe (φ : Nat) (l : List z6) (at_ : Int) : z9r φ l at_ = zh φ l at_ := by kernel_rfl
end Px
end
section
namespace Px
open Go
set_option linter.unusedVariables false
set_option linter.unusedSimpArgs false
set_option maxRecDepth 100000
theorem ybm : zgl 100000000 = some (true, ()) := by kernel_rfl
theorem y3y (φ : Nat) (hφ : 1000 < φ) (l : List z6) : ∃ b, zi8 φ l = some (b, ()) /\ (b = true -> l.length <= 30 /\ ∀ r ∈ l, r.item.parts.length <= 20) := by
 unfold zi8
 by_cases h : l.length <= 30
 ·rw [if_neg (by simp; omega)]
  refine ⟨l.all (fun r => decide (r.item.parts.length <= 20)), ?_, fun hb => ⟨h, fun r hr => by simpa using List.all_eq_true.1 hb r hr⟩⟩
  refine zei (fun n i (s : Unit) => z7s φ n l i) l.length (fun i _ => (l.take i).all (fun r => decide (r.item.parts.length <= 20)) = true) (fun o => o = some (l.all (fun r => decide (r.item.parts.length <= 20)), ())) ?_ ?_ φ () rfl (by omega)
  ·intro n i s hi hs hk
   rw [z7s, if_pos (by simp; omega), z04 ⟨by omega, by omega⟩, W_id (x := (i : Int) + 1) (by omega) (by omega)]
   by_cases hp : (gt l (i : Int)).item.parts.length <= 20
   ·rw [if_neg (by simp; omega)]
    exact hk () (by rw [zr6 _ _ _ hi, hs]; simp [hp])
   ·rw [if_pos (by simp; omega)]
    have : l.all (fun r => decide (r.item.parts.length <= 20)) = false := by
     rw [List.all_eq_false]
     exact ⟨_, zgx (l := l) (i := (i : Int)) (by omega) (by omega), by simpa using hp⟩
    rw [this]
  ·intro n s hs
   rw [List.take_length] at hs
   rw [z7s, if_neg (by simp), hs]
 ·rw [if_pos (by simp; omega)]
  exact ⟨_, rfl, fun h => by cases h⟩
theorem zz0 {l : List z6} (h : rdN TV 30 10 l) : ∀ r ∈ l, -9223372036854775808 <= r.item.wagon /\ r.item.wagon < 9223372036854775808 := by
 intro r hr
 have h1 : RL (rdN TV 29 7) l := h
 have h2 : rdN TV 29 7 r := h1.1 r hr
 have h3 : RI .i64 r.item.wagon := h2.2.2.2.2.2.1
 have e1 : IntKind.i64.min = -9223372036854775808 := rfl
 have e2 : IntKind.i64.max = 9223372036854775807 := rfl
 unfold RI at h3
 rw [e1, e2] at h3
 omega
theorem zuk (φ : Nat) (hφ : 1000 < φ) (c : z1) (ws : List Int) (hl : ws.length <= 500) (w : Int) : z6p φ (carL c ws) w = some (ws.contains w, ()) := by
 unfold z6p
 have hlen : (carL c ws).length = ws.length := by unfold carL; rw [List.length_map]
 have hgt : ∀ i : Nat, i < ws.length -> (gt (carL c ws) (i : Int)).wagon = gt ws (i : Int) := by
  intro i hi
  rw [y0k (by omega), y0k hi]
  unfold carL
  simp
 refine zei (fun n i (s : Unit) => z3k φ n (carL c ws) w i) (carL c ws).length (fun i _ => (ws.take i).contains w = false) (fun o => o = some (ws.contains w, ())) ?_ ?_ φ () (by simp) (by omega)
 ·intro n i s hi hs hk
  rw [z3k, if_pos (by simp; omega), z04 ⟨by omega, by omega⟩, W_id (x := (i : Int) + 1) (by omega) (by omega), hgt i (by omega)]
  by_cases h : gt ws (i : Int) = w
  ·rw [if_pos (by simp [h])]
   have : ws.contains w = true := by
    rw [List.contains_eq_mem, decide_eq_true_eq, <- h]
    exact zgx (by omega) (by omega)
   rw [this]
  ·rw [if_neg (by simp [h])]
   exact hk () (by rw [zfg ws i (by omega)]; simp only [List.contains_eq_mem, decide_eq_false_iff_not, List.mem_append, List.mem_singleton] at hs ⊢; rintro (q | q); exact hs q; exact h q.symm)
 ·intro n s hs
  rw [z3k, if_neg (by simp)]
  rw [hlen, List.take_length] at hs
  rw [hs]
theorem yc2 (φ : Nat) (hφ : 1000 < φ) (ws : List Int) (hl : ws.length <= 500) (w : Int) : ziu φ ws w = some (ws.contains w, ()) := by
 unfold ziu
 refine zei (fun n i (s : Unit) => z7m φ n ws w i) ws.length (fun i _ => (ws.take i).contains w = false) (fun o => o = some (ws.contains w, ())) ?_ ?_ φ () (by simp) (by omega)
 ·intro n i s hi hs hk
  rw [z7m, if_pos (by simp; omega), z04 ⟨by omega, by omega⟩, W_id (x := (i : Int) + 1) (by omega) (by omega)]
  by_cases h : gt ws (i : Int) = w
  ·rw [if_pos (by simp [h])]
   have : ws.contains w = true := by
    rw [List.contains_eq_mem, decide_eq_true_eq, <- h]
    exact zgx (by omega) (by omega)
   rw [this]
  ·rw [if_neg (by simp [h])]
   exact hk () (by rw [zfg ws i (by omega)]; simp only [List.contains_eq_mem, decide_eq_false_iff_not, List.mem_append, List.mem_singleton] at hs ⊢; rintro (q | q); exact hs q; exact h q.symm)
 ·intro n s hs
  rw [z7m, if_neg (by simp)]
  rw [List.take_length] at hs
  rw [hs]
end Px
end
section
namespace Px
open Go
set_option linter.unusedVariables false
set_option linter.unusedSimpArgs false
def ownB (c : z1) (r : z6) : Bool := r.item.parts.any fun p => decide (p.kind = c.kind) && decide (p.serial = c.serial)
theorem zxg {c : z1} {r : z6} (h : ownB c r = false) (s : List Int) : posR c s r = s := by
 unfold posR ownB at *
 rw [List.any_eq_false] at h
 generalize r.item.parts = ps at *
 induction ps generalizing s with
 | nil => rfl
 | cons p ps ih =>
  rw [List.foldl_cons]
  have h1 := h p (by simp)
  have : zr1 c r.item.wagon s p = s := by
   unfold zr1
   rw [if_neg]
   intro q
   exact h1 (by rw [<- q]; simp [ofP])
  rw [this]
  exact ih s fun p' hp => h p' (by simp [hp])
theorem zhm (c : z1) : ∀ (rs : List z6) (s : List Int), (rs.filter (ownB c)).foldl (posR c) s = rs.foldl (posR c) s
 | [], s => rfl
 | r :: rs, s => by
  rw [List.filter_cons]
  cases h : ownB c r with
  | true => simp only [if_true, List.foldl_cons]; exact zhm c rs _
  | false => simp only [Bool.false_eq_true, if_false, List.foldl_cons]; rw [zxg h]; exact zhm c rs _
end Px
end
section
namespace Px
open Go
set_option linter.unusedVariables false
set_option linter.unusedSimpArgs false
theorem and7 (a : Int) : 0 <= W ((BitVec.ofInt 64 a &&& BitVec.ofInt 64 7).toNat : Int) /\ W ((BitVec.ofInt 64 a &&& BitVec.ofInt 64 7).toNat : Int) <= 7 := by
 have h : (BitVec.ofInt 64 a &&& BitVec.ofInt 64 7).toNat <= 7 := by
  rw [BitVec.toNat_and]
  exact Nat.and_le_right
 rw [W_id (by omega) (by omega)]; omega
theorem yd7 (a : Int) : 0 <= W ((BitVec.ofInt 64 a &&& BitVec.ofInt 64 15).toNat : Int) /\ W ((BitVec.ofInt 64 a &&& BitVec.ofInt 64 15).toNat : Int) <= 15 := by
 have h : (BitVec.ofInt 64 a &&& BitVec.ofInt 64 15).toNat <= 15 := by
  rw [BitVec.toNat_and]
  exact Nat.and_le_right
 rw [W_id (by omega) (by omega)]; omega
def rep (no w t : Int) (f : Bool) : z6 := ⟨(⟨0, no⟩ : Ref), (⟨0, 0⟩ : Ref), 0, (⟨9, (⟨0, 0⟩ : Ref), w, 2, 0, 0, W (t - 10), t, 2, 0, 0, 0, 0, (⟨#[]⟩ : ByteArray), [(⟨2, 7, f⟩ : Part)]⟩ : Item)⟩
def rcl : z6 := ⟨(⟨1, 9⟩ : Ref), (⟨0, 0⟩ : Ref), 0, (⟨10, (⟨0, 0⟩ : Ref), 0, 0, 4, 0, 0, 0, 0, 0, 0, 0, 0, (⟨#[]⟩ : ByteArray), [(⟨2, 7, false⟩ : Part)]⟩ : Item)⟩
def cB : z1 := ⟨2, 7⟩
structure FI (other : List z6) (i : Nat) (on : Bool) (w t : Int) (l O : List z6) : Prop where
 l_eq : l = rcl :: other ++ O
 len : O.length <= i
 t_rng : 0 <= t /\ t <= 7 * i
 w_rng : 0 <= w /\ w <= 15
 own : ∀ r ∈ O, ∃ no w' t' f, r = rep no w' t' f /\ no <= i /\ t' <= t /\ 0 <= w' /\ w' <= 15
 srt : Srt ztz O
 last : on = true -> ∃ O' no t', O = O' ++ [rep no w t' true]
structure OthP (other : List z6) : Prop where
 len : other.length <= 30
 parts : ∀ r ∈ other, r.item.parts.length <= 20
 wagon : ∀ r ∈ other, -9223372036854775808 <= r.item.wagon /\ r.item.wagon < 9223372036854775808
 own : ∀ r ∈ other, ownB cB r = false
theorem FI.few {other : List z6} {i : Nat} {on : Bool} {w t : Int} {l O : List z6} (h : FI other i on w t l O) (ho : OthP other) (hi : i <= 20) : FewP l := by
 have h1 := h.len
 have h2 := ho.len
 refine ⟨by rw [h.l_eq]; simp; omega, fun r hr => ?_, fun r hr => ?_⟩
 ·rw [h.l_eq] at hr
  rcases List.mem_append.1 hr with q | q
  ·rcases List.mem_cons.1 q with rfl | q
   ·simp [rcl]
   ·have := ho.parts r q; omega
  ·obtain ⟨no, w', t', f, rfl, _⟩ := h.own r q
   simp [rep]
 ·rw [h.l_eq] at hr
  rcases List.mem_append.1 hr with q | q
  ·rcases List.mem_cons.1 q with rfl | q
   ·simp [rcl]
   ·exact ho.wagon r q
  ·obtain ⟨no, w', t', f, rfl, _, _, h1, h2⟩ := h.own r q
   simp only [rep]; omega
theorem ztp {α : Type} {lt : α -> α -> Bool} (hs : Swo lt) (q : α -> Bool) (L : List α) : (zfr lt L).filter q = zfr lt (L.filter q) := by
 refine zo7 hs ((zrx hs L).filter _) ⟨(z5e _ _).filter _, fun a => ?_⟩
 rw [List.filter_filter, List.filter_filter, <- List.filter_filter, <- List.filter_filter]
 have := (znq hs L).2 a
 rw [List.filter_filter, List.filter_filter]
 have e : ∀ M : List α, M.filter (fun x => eqv2 lt a x && q x) = (M.filter (eqv2 lt a)).filter q := fun M => by rw [List.filter_filter]; exact List.filter_congr fun x _ => Bool.and_comm _ _
 rw [e, e, this]
theorem FI.pos {other : List z6} {i : Nat} {on : Bool} {w t : Int} {l O : List z6} (h : FI other i on w t l O) (ho : OthP other) : posW cB (hist l t) = O.foldl (posR cB) [] := by
 have e1 : (hist l t).filter (ownB cB) = O := by
  unfold hist
  rw [ztp zir]
  have e2 : (l.filter (zjz t)).filter (ownB cB) = O := by
   rw [h.l_eq, List.filter_append, List.filter_append]
   have q1 : ((rcl :: other).filter (zjz t)).filter (ownB cB) = [] := by
    rw [List.filter_filter, List.filter_eq_nil_iff]
    intro r hr
    rcases List.mem_cons.1 hr with rfl | hr
    ·simp [zjz, rcl]
    ·simp [ho.own r hr]
   have q2 : (O.filter (zjz t)).filter (ownB cB) = O := by
    rw [List.filter_filter, List.filter_eq_self]
    intro r hr
    obtain ⟨no, w', t', f, rfl, _, ht, _⟩ := h.own r hr
    simp [zjz, rep, ownB, cB, ht]
   rw [q1, q2]; rfl
  rw [e2]
  exact (zo7 zir h.srt (Stb.refl _)).symm
 have := zhm cB (hist l t) []
 rw [e1] at this
 exact this.symm
theorem FI.finds {other : List z6} {i : Nat} {w t : Int} {l O : List z6} (h : FI other i true w t l O) (ho : OthP other) : w ∈ posW cB (hist l t) := by
 rw [h.pos ho]
 obtain ⟨O', no, t', e⟩ := h.last rfl
 rw [e, List.foldl_append]
 show w ∈ posR cB _ (rep no w t' true)
 unfold posR rep zr1 ofP cB
 simp only [List.foldl_cons, List.foldl_nil, if_true]
 exact zia.2 (.inl rfl)
theorem zwn (φ : Nat) (hφ : 10000 < φ) (k) (acts : List z32) {other : List z6} {i : Nat} {on : Bool} {w t : Int} {l O : List z6} (h : FI other i on w t l O) (ho : OthP other) (hi : i <= 20) (i1 : Int) :
  zu φ k acts on w t i1 l = k acts on w t (W (i1 + 1)) l := by
 unfold zu
 cases on with
 | false => rw [if_neg (by simp)]
 | true =>
  have hF := h.few ho hi
  have hlen := hF.len
  have hfind := h.finds ho
  have hw : (posW cB (hist l t)).length <= 500 := by
   have := zr4 cB (hist l t)
   have := zmi l t
   omega
  rw [if_pos rfl, zqs hF φ hφ, Option.bind_some]
  show ((z6p φ (carL cB (posW cB (hist l t))) w).bind _) = _
  rw [zuk φ (by omega) cB _ hw w, Option.bind_some]
  have hc : (posW cB (hist l t)).contains w = true := by rw [List.contains_eq_mem, decide_eq_true_eq]; exact hfind
  rw [if_pos (by rw [hc]; rfl), zoe]
  obtain ⟨b, hb, _, hbl, hbm⟩ := zxo hF φ hφ t
  rw [hb, Option.bind_some]
  simp only
  rw [yc2 φ (by omega) b (by omega) w, Option.bind_some]
  have hm : b.contains w = true := by
   rw [List.contains_eq_mem, decide_eq_true_eq, hbm]
   refine ⟨rcl, by rw [h.l_eq]; simp, ?_, ⟨2, 7, false⟩, by simp [rcl], hfind⟩
   have := h.t_rng.1
   simp [zt9, rcl, this]
  rw [if_neg (by rw [hm]; simp)]
theorem zsa (φ : Nat) (hφ : 10000 < φ) (acts : List z32) (ha : acts.length <= 20) {other : List z6} (ho : OthP other) : zg φ φ acts false 0 0 0 ([rcl] ++ other) = some (true, ()) := by
 refine zei (fun n i (s : Bool × Int × Int × List z6) => zg φ n acts s.1 s.2.1 s.2.2.1 i s.2.2.2) acts.length (fun i s => ∃ O, FI other i s.1 s.2.1 s.2.2.1 s.2.2.2 O) (fun o => o = some (true, ())) ?_ ?_ φ (false, 0, 0, [rcl] ++ other) ⟨[], by simp, by simp, by simp, by simp, (fun r hr => by cases hr), List.Pairwise.nil, (fun h => by cases h)⟩ (by omega)
 ·rintro n i ⟨on, w, t, l⟩ hi ⟨O, h⟩ hk
  simp only at h hk ⊢
  have hlen := h.len
  have htr := h.t_rng
  obtain ⟨a0, a1⟩ := and7 (gt acts (i : Int)).after
  obtain ⟨b0, b1⟩ := yd7 (gt acts (i : Int)).wagon
  have hll : l.length <= 100 := (h.few ho (by omega)).len
  rw [zg, if_pos (by simp; omega), z04 ⟨by omega, by omega⟩, z04 ⟨by omega, by omega⟩]
  generalize W ((BitVec.ofInt 64 (gt acts (i : Int)).after &&& BitVec.ofInt 64 7).toNat : Int) = d at *
  generalize W ((BitVec.ofInt 64 (gt acts (i : Int)).wagon &&& BitVec.ofInt 64 15).toNat : Int) = v at *
  have hW : W (t + d) = t + d := W_id (by omega) (by omega)
  have hWi : W ((i : Int) + 1) = (i : Int) + 1 := W_id (by omega) (by omega)
  rw [hW, hWi]
  -- a report of an act is put to the end
  have hput : ∀ (w' : Int) (f : Bool), 0 <= w' -> w' <= 15 -> FI other (i + 1) f w' (t + d) (l ++ [rep ((i : Int) + 1) w' (t + d) f]) (O ++ [rep ((i : Int) + 1) w' (t + d) f]) := by
   intro w' f h0 h1
   refine ⟨by rw [h.l_eq, List.append_assoc], by simp; omega, ⟨by omega, by omega⟩, ⟨h0, h1⟩, fun r hr => ?_, ?_, fun hf => ⟨O, _, _, by rw [hf]⟩⟩
   ·rcases List.mem_append.1 hr with q | q
    ·obtain ⟨no, w2, t2, f2, e, q1, q2, q3⟩ := h.own r q
     exact ⟨no, w2, t2, f2, e, by omega, by omega, q3⟩
    ·simp only [List.mem_singleton] at q
     exact ⟨_, _, _, _, q, by omega, Int.le_refl _, h0, h1⟩
   ·refine Srt.app h.srt (by simp [Srt]) fun x hx y hy => ?_
    simp only [List.mem_singleton] at hy
    subst hy
    obtain ⟨no, w2, t2, f2, rfl, q1, q2, q3⟩ := h.own x hx
    rw [zpy]
    simp only [rep]
    omega
  have hkeep : ∀ on', (on' = true -> on = true) -> FI other (i + 1) on' w (t + d) l O := by
   intro on' hon
   refine ⟨h.l_eq, by omega, ⟨by omega, by omega⟩, h.w_rng, fun r hr => ?_, h.srt, fun hf => h.last (hon hf)⟩
   obtain ⟨no, w2, t2, f2, e, q1, q2, q3⟩ := h.own r hr
   exact ⟨no, w2, t2, f2, e, by omega, by omega, q3⟩
  split
  ·rw [z04 ⟨by omega, by omega⟩]
   simp only [z3j, z3i, Option.bind_some]
   rw [z04 (ztj (by simp; omega) (by omega))]
   have hn := hput v true b0 b1
   show zu φ (zg φ n) acts true v (t + d) (i : Int) (l ++ [rep ((i : Int) + 1) v (t + d) true]) = _
   rw [zwn φ hφ _ acts hn ho (by omega) (i : Int), hWi]
   exact hk (true, v, t + d, _) ⟨_, hn⟩
  ·rw [z04 (fun _ => ⟨by omega, by omega⟩)]
   split
   ·simp only [z3j, z3i, Option.bind_some]
    rw [z04 (ztj (by simp; omega) (by omega))]
    have hn := hput w false h.w_rng.1 h.w_rng.2
    show zu φ (zg φ n) acts false w (t + d) (i : Int) (l ++ [rep ((i : Int) + 1) w (t + d) false]) = _
    rw [zwn φ hφ _ acts hn ho (by omega) (i : Int), hWi]
    exact hk (false, w, t + d, _) ⟨_, hn⟩
   ·rw [z04 ⟨by omega, by omega⟩]
    split
    ·have hn := hkeep false (fun q => by cases q)
     rw [zwn φ hφ _ acts hn ho (by omega) (i : Int), hWi]
     exact hk (false, w, t + d, l) ⟨_, hn⟩
    ·have hn := hkeep on id
     rw [zwn φ hφ _ acts hn ho (by omega) (i : Int), hWi]
     exact hk (on, w, t + d, l) ⟨_, hn⟩
 ·rintro n ⟨on, w, t, l⟩ _
  rw [zg, if_neg (by simp)]
theorem y8a (φ : Nat) (acts : List z32) (other : List z6) : (z59 φ).F (acts, other, ()) = z4y φ acts other := rfl
theorem zl5 (x : Tup TT [51, 10]) (h : ya6 TV 30 [51, 10] x) : ∃ φ, (z59 φ).F x = some (true, ()) := by
 obtain ⟨acts, other, _⟩ := x
 change List z32 at acts
 change List z6 at other
 have hr : rdN TV 30 10 other := h.2.1
 suffices key : ∃ φ, z4y φ acts other = some (true, ()) by
  obtain ⟨φ, h⟩ := key
  exact ⟨φ, (y8a φ acts other).trans h⟩
 suffices key : ∀ φ : Nat, 60000000 < φ -> zgl φ = some (true, ()) -> z4y φ acts other = some (true, ()) from ⟨100000000, key _ (by omega) ybm⟩
 intro φ hφ hsane
 unfold z4y
 obtain ⟨bf, hbf, hfew⟩ := y3y φ (by omega) other
 rw [hsane, Option.bind_some, if_neg (by simp)]
 by_cases ha : acts.length <= 20
 ·have hd : decide ((20 : Int) < (acts.length : Int)) = false := by simp; omega
  rw [hd, yc1 rfl, hbf, Option.bind_some]
  cases bf with
  | false => rw [if_pos (by simp)]
  | true =>
  obtain ⟨hl1, hl2⟩ := hfew rfl
  rw [if_neg (by simp)]
  refine zei (fun n i (s : Unit) => z0b φ n acts other i) other.length (fun i _ => ∀ j : Nat, j < i -> ownB cB (gt other (j : Int)) = false) (fun o => o = some (true, ())) ?_ ?_ φ () (fun j hj => absurd hj (by omega)) (by omega)
  ·intro n i s hi hI hk
   have hg := hl2 _ (zgx (l := other) (i := (i : Int)) (by omega) (by omega))
   rw [z0b, if_pos (by simp; omega)]
   refine zei (fun m j (s : Unit) => z0u φ (z0b φ n) m acts other (i : Int) j) (gt other (i : Int)).item.parts.length (fun j _ => ((gt other (i : Int)).item.parts.take j).any (fun p => decide (p.kind = cB.kind) && decide (p.serial = cB.serial)) = false) (fun o => o = some (true, ())) ?_ ?_ φ () rfl (by omega)
   ·intro m j s hj hJ hk2
    rw [z0u, z04 ⟨by omega, by omega⟩, if_pos (by simp; omega), z04 ⟨by omega, by omega⟩, z04 ⟨by omega, by omega⟩, z04 (fun _ => ⟨by omega, by omega⟩), z04 (fun _ => ⟨by omega, by omega⟩), W_id (x := (j : Int) + 1) (by omega) (by omega)]
    split
    ·rfl
    ·rename_i hne
     refine hk2 () ?_
     rw [zqt _ _ _ hj, hJ, Bool.false_or]
     cases hq : (decide ((gt (gt other (i : Int)).item.parts (j : Int)).kind = cB.kind) && decide ((gt (gt other (i : Int)).item.parts (j : Int)).serial = cB.serial)) with
     | false => rfl
     | true =>
      simp only [Bool.and_eq_true, decide_eq_true_eq] at hq
      exact absurd (by simp only [Bool.and_eq_true, beq_iff_eq]; exact hq) hne
   ·intro m s hJ
    rw [List.take_length] at hJ
    rw [z0u, z04 ⟨by omega, by omega⟩, if_neg (by simp), W_id (x := (i : Int) + 1) (by omega) (by omega)]
    refine hk () fun j hj => ?_
    by_cases e : j = i
    ·subst e; exact hJ
    ·exact hI j (by omega)
  ·intro n s hI
   rw [z0b, if_neg (by simp)]
   simp only [zz, Option.bind_some]
   rw [z04 (ztj (by simp; omega) (by omega))]
   refine zsa φ (by omega) acts ha ⟨hl1, hl2, zz0 hr, fun r hr' => ?_⟩
   obtain ⟨j, hj, e⟩ := yb4 hr'
   rw [<- e]; exact hI j hj
 ·have hd : decide ((20 : Int) < (acts.length : Int)) = true := by simp; omega
  rw [hd]
  unfold z1j
  rw [if_neg (by simp), Option.bind_some, if_pos (by simp)]
end Px
end
