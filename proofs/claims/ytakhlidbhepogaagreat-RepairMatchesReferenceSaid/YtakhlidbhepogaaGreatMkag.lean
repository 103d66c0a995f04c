/- A part of the proof of repairMatchesReference_holds. Conditions: none. -/
import Derived.Test.YtakhlidbhepogaaGreatMkaf
import Derived.Test.YtakhlidbhepogaaGreatProg
import Derived.Ground.SlsfProg
import Derived.Ground.NamesProg
import Derived.Shelf.SlIterI.Nil
import Derived.Ground.GgzProg
import Derived.KernelRfl
section
namespace Go.Proofs
open Go.Shelf
def Tryz.sortEv_ren : Go.Shelf.Ren := ⟨fun | 6 => 37 | 15 => 65 | 14 => 64 | 28 => 107 | 29 => 108 | 20 => 99 | 21 => 100 | 22 => 101 | 23 => 102 | 24 => 103 | 25 => 104 | 26 => 105 | 27 => 106 | 46 => 140 | 47 => 141 | 48 => 142 | 49 => 143 | 50 => 144 | 57 => 166 | n => n, fun | 22 => 28 | 24 => 24 | 25 => 94 | 3 => 3 | 39 => 134 | 0 => 0 | 53 => 175 | 55 => 110 | 4 => 4 | 46 => 168 | 45 => 167 | 50 => 172 | 5 => 5 | 9 => 9 | 66 => 204 | 70 => 158 | 76 => 223 | 77 => 224 | n => n, fun | n => n⟩
theorem Tryz.sortEv : Go.Proofs.SlLaysF0.n6 Tryz.prog Tryz.sortEv_ren := {
 mixed := by kernel_rfl
 f6 := ⟨Tryz.f37.name, by decide, Tryz.func37.trans (congrArg some (by kernel_rfl))⟩
 f14 := ⟨Tryz.f64.name, by decide, Tryz.func64.trans (congrArg some (by kernel_rfl))⟩
 f15 := Tryz.func65.trans (congrArg some (by kernel_rfl))
 f20 := ⟨Tryz.f99.name, by decide, Tryz.func99.trans (congrArg some (by kernel_rfl))⟩
 f21 := ⟨Tryz.f100.name, by decide, Tryz.func100.trans (congrArg some (by kernel_rfl))⟩
 f22 := ⟨Tryz.f101.name, by decide, Tryz.func101.trans (congrArg some (by kernel_rfl))⟩
 f23 := ⟨Tryz.f102.name, by decide, Tryz.func102.trans (congrArg some (by kernel_rfl))⟩
 f24 := ⟨Tryz.f103.name, by decide, Tryz.func103.trans (congrArg some (by kernel_rfl))⟩
 f25 := ⟨Tryz.f104.name, by decide, Tryz.func104.trans (congrArg some (by kernel_rfl))⟩
 f26 := ⟨Tryz.f105.name, by decide, Tryz.func105.trans (congrArg some (by kernel_rfl))⟩
 f27 := ⟨Tryz.f106.name, by decide, Tryz.func106.trans (congrArg some (by kernel_rfl))⟩
 f28 := Tryz.func107.trans (congrArg some (by kernel_rfl))
 f29 := Tryz.func108.trans (congrArg some (by kernel_rfl))
 f46 := ⟨Tryz.f140.name, by decide, Tryz.func140.trans (congrArg some (by kernel_rfl))⟩
 f47 := Tryz.func141.trans (congrArg some (by kernel_rfl))
 f48 := Tryz.func142.trans (congrArg some (by kernel_rfl))
 f49 := ⟨Tryz.f143.name, by decide, Tryz.func143.trans (congrArg some (by kernel_rfl))⟩
 f50 := ⟨Tryz.f144.name, by decide, Tryz.func144.trans (congrArg some (by kernel_rfl))⟩
 f57 := ⟨Tryz.f166.name, by decide, Tryz.func166.trans (congrArg some (by kernel_rfl))⟩
 t0 := Tryz.underlying0
 a0 := Tryz.isAgg0
 z0 := Tryz.sizeOf0
 v0 := Tryz.zeroValue0
 t3 := Tryz.underlying3
 a3 := Tryz.isAgg3
 z3 := Tryz.sizeOf3
 v3 := Tryz.zeroValue3
 t4 := Tryz.underlying4
 a4 := Tryz.isAgg4
 z4 := Tryz.sizeOf4
 v4 := Tryz.zeroValue4
 t5 := Tryz.underlying5
 a5 := Tryz.isAgg5
 z5 := Tryz.sizeOf5
 v5 := Tryz.zeroValue5
 t9 := Tryz.underlying9
 a9 := Tryz.isAgg9
 z9 := Tryz.sizeOf9
 v9 := Tryz.zeroValue9
 t22 := Tryz.underlying28
 a22 := Tryz.isAgg28
 z22 := Tryz.sizeOf28
 v22 := Tryz.zeroValue28
 t25 := Tryz.underlying94
 a25 := Tryz.isAgg94
 z25 := Tryz.sizeOf94
 v25 := Tryz.zeroValue94
 t39 := Tryz.underlying134
 a39 := Tryz.isAgg134
 z39 := Tryz.sizeOf134
 v39 := Tryz.zeroValue134
 t45 := Tryz.underlying167
 a45 := Tryz.isAgg167
 z45 := Tryz.sizeOf167
 v45 := Tryz.zeroValue167
 t46 := Tryz.underlying168
 a46 := Tryz.isAgg168
 z46 := Tryz.sizeOf168
 v46 := Tryz.zeroValue168
 t50 := Tryz.underlying172
 a50 := Tryz.isAgg172
 z50 := Tryz.sizeOf172
 v50 := Tryz.zeroValue172
 t53 := Tryz.underlying175
 a53 := Tryz.isAgg175
 z53 := Tryz.sizeOf175
 v53 := Tryz.zeroValue175
 t55 := Tryz.underlying110
 a55 := Tryz.isAgg110
 z55 := Tryz.sizeOf110
 v55 := Tryz.zeroValue110
 t66 := Tryz.underlying204
 a66 := Tryz.isAgg204
 z66 := Tryz.sizeOf204
 v66 := Tryz.zeroValue204
 t70 := Tryz.underlying158
 a70 := Tryz.isAgg158
 z70 := Tryz.sizeOf158
 v70 := Tryz.zeroValue158
 t76 := Tryz.underlying223
 a76 := Tryz.isAgg223
 z76 := Tryz.sizeOf223
 v76 := Tryz.zeroValue223
 t77 := Tryz.underlying224
 a77 := Tryz.isAgg224
 z77 := Tryz.sizeOf224
 v77 := Tryz.zeroValue224 }
def Tryz.lays189_ren : Go.Shelf.Ren := ⟨fun | 189 => 71 | 125 => 65 | 257 => 110 | 128 => 107 | 129 => 108 | 294 => 145 | 295 => 146 | 296 => 147 | 297 => 148 | 298 => 149 | 299 => 150 | 216 => 151 | 300 => 152 | 301 => 153 | 328 => 167 | 329 => 141 | 330 => 142 | 331 => 168 | 332 => 169 | 215 => 66 | 343 => 182 | n => n, fun | 28 => 34 | 3 => 3 | 46 => 134 | 0 => 0 | 51 => 175 | 53 => 110 | 4 => 4 | 183 => 168 | 182 => 167 | 131 => 172 | 5 => 5 | 9 => 9 | 218 => 204 | 222 => 158 | 228 => 223 | 229 => 224 | n => n, fun | n => n⟩
theorem Tryz.lays189 : Go.Proofs.Lays.n189 Tryz.prog Tryz.lays189_ren := {
 mixed := by kernel_rfl
 f125 := Tryz.func65.trans (congrArg some (by kernel_rfl))
 f128 := Tryz.func107.trans (congrArg some (by kernel_rfl))
 f129 := Tryz.func108.trans (congrArg some (by kernel_rfl))
 f189 := Tryz.func71.trans (congrArg some (by kernel_rfl))
 f215 := Tryz.func66.trans (congrArg some (by kernel_rfl))
 f216 := Tryz.func151.trans (congrArg some (by kernel_rfl))
 f257 := Tryz.func110.trans (congrArg some (by kernel_rfl))
 f294 := Tryz.func145.trans (congrArg some (by kernel_rfl))
 f295 := Tryz.func146.trans (congrArg some (by kernel_rfl))
 f296 := Tryz.func147.trans (congrArg some (by kernel_rfl))
 f297 := Tryz.func148.trans (congrArg some (by kernel_rfl))
 f298 := Tryz.func149.trans (congrArg some (by kernel_rfl))
 f299 := Tryz.func150.trans (congrArg some (by kernel_rfl))
 f300 := Tryz.func152.trans (congrArg some (by kernel_rfl))
 f301 := Tryz.func153.trans (congrArg some (by kernel_rfl))
 f328 := Tryz.func167.trans (congrArg some (by kernel_rfl))
 f329 := Tryz.func141.trans (congrArg some (by kernel_rfl))
 f330 := Tryz.func142.trans (congrArg some (by kernel_rfl))
 f331 := Tryz.func168.trans (congrArg some (by kernel_rfl))
 f332 := Tryz.func169.trans (congrArg some (by kernel_rfl))
 f343 := Tryz.func182.trans (congrArg some (by kernel_rfl))
 t0 := Tryz.underlying0
 a0 := Tryz.isAgg0
 z0 := Tryz.sizeOf0
 v0 := Tryz.zeroValue0
 t3 := Tryz.underlying3
 a3 := Tryz.isAgg3
 z3 := Tryz.sizeOf3
 v3 := Tryz.zeroValue3
 t4 := Tryz.underlying4
 a4 := Tryz.isAgg4
 z4 := Tryz.sizeOf4
 v4 := Tryz.zeroValue4
 t5 := Tryz.underlying5
 a5 := Tryz.isAgg5
 z5 := Tryz.sizeOf5
 v5 := Tryz.zeroValue5
 t9 := Tryz.underlying9
 a9 := Tryz.isAgg9
 z9 := Tryz.sizeOf9
 v9 := Tryz.zeroValue9
 t28 := Tryz.underlying34
 a28 := Tryz.isAgg34
 z28 := Tryz.sizeOf34
 v28 := Tryz.zeroValue34
 t46 := Tryz.underlying134
 a46 := Tryz.isAgg134
 z46 := Tryz.sizeOf134
 v46 := Tryz.zeroValue134
 t51 := Tryz.underlying175
 a51 := Tryz.isAgg175
 z51 := Tryz.sizeOf175
 v51 := Tryz.zeroValue175
 t53 := Tryz.underlying110
 a53 := Tryz.isAgg110
 z53 := Tryz.sizeOf110
 v53 := Tryz.zeroValue110
 t131 := Tryz.underlying172
 a131 := Tryz.isAgg172
 z131 := Tryz.sizeOf172
 v131 := Tryz.zeroValue172
 t182 := Tryz.underlying167
 a182 := Tryz.isAgg167
 z182 := Tryz.sizeOf167
 v182 := Tryz.zeroValue167
 t183 := Tryz.underlying168
 a183 := Tryz.isAgg168
 z183 := Tryz.sizeOf168
 v183 := Tryz.zeroValue168
 t218 := Tryz.underlying204
 a218 := Tryz.isAgg204
 z218 := Tryz.sizeOf204
 v218 := Tryz.zeroValue204
 t222 := Tryz.underlying158
 a222 := Tryz.isAgg158
 z222 := Tryz.sizeOf158
 v222 := Tryz.zeroValue158
 t228 := Tryz.underlying223
 a228 := Tryz.isAgg223
 z228 := Tryz.sizeOf223
 v228 := Tryz.zeroValue223
 t229 := Tryz.underlying224
 a229 := Tryz.isAgg224
 z229 := Tryz.sizeOf224
 v229 := Tryz.zeroValue224 }
def Tryz.sortedK_ren : Go.Shelf.Ren := ⟨fun | 6 => 44 | 8 => 70 | 9 => 71 | 11 => 109 | 13 => 65 | 12 => 110 | 23 => 107 | 24 => 108 | 14 => 145 | 15 => 146 | 16 => 147 | 17 => 148 | 18 => 149 | 19 => 150 | 20 => 151 | 21 => 152 | 22 => 153 | 25 => 167 | 26 => 141 | 27 => 142 | 28 => 168 | 29 => 169 | 30 => 66 | 31 => 182 | n => n, fun | 26 => 3 | 28 => 100 | 24 => 34 | 0 => 0 | 3 => 3 | 37 => 134 | 48 => 175 | 50 => 110 | 4 => 4 | 40 => 168 | 39 => 167 | 45 => 172 | 5 => 5 | 9 => 9 | 51 => 204 | 55 => 158 | 57 => 223 | 58 => 224 | 33 => 135 | n => n, fun | n => n⟩
theorem Tryz.sortedK : Go.Proofs.SlLaysZI.n6 Tryz.prog Tryz.sortedK_ren := {
 mixed := by kernel_rfl
 f6 := ⟨Tryz.f44.name, by decide, Tryz.func44.trans (congrArg some (by kernel_rfl))⟩
 f8 := ⟨Tryz.f70.name, by decide, Tryz.func70.trans (congrArg some (by kernel_rfl))⟩
 f11 := ⟨Tryz.f109.name, by decide, Tryz.func109.trans (congrArg some (by kernel_rfl))⟩
 t0 := Tryz.underlying0
 a0 := Tryz.isAgg0
 z0 := Tryz.sizeOf0
 v0 := Tryz.zeroValue0
 t24 := Tryz.underlying34
 a24 := Tryz.isAgg34
 z24 := Tryz.sizeOf34
 v24 := Tryz.zeroValue34
 t26 := Tryz.underlying3
 a26 := Tryz.isAgg3
 z26 := Tryz.sizeOf3
 v26 := Tryz.zeroValue3
 t28 := Tryz.underlying100
 a28 := Tryz.isAgg100
 z28 := Tryz.sizeOf100
 v28 := Tryz.zeroValue100
 i26 := by kernel_rfl }
def Tryz.keysK_ren : Go.Shelf.Ren := ⟨fun | 10 => 72 | n => n, fun | 33 => 135 | 23 => 89 | 0 => 0 | 4 => 4 | 26 => 3 | 3 => 4 | n => n, fun | n => n⟩
theorem Tryz.keysK : Go.Proofs.SlLaysZI.n10 Tryz.prog Tryz.keysK_ren := {
 mixed := by kernel_rfl
 f10 := ⟨Tryz.f72.name, by decide, Tryz.func72.trans (congrArg some (by kernel_rfl))⟩
 t0 := Tryz.underlying0
 a0 := Tryz.isAgg0
 z0 := Tryz.sizeOf0
 v0 := Tryz.zeroValue0
 t4 := Tryz.underlying4
 a4 := Tryz.isAgg4
 z4 := Tryz.sizeOf4
 v4 := Tryz.zeroValue4
 t23 := Tryz.underlying89
 a23 := Tryz.isAgg89
 z23 := Tryz.sizeOf89
 v23 := Tryz.zeroValue89
 t26 := Tryz.underlying3
 a26 := Tryz.isAgg3
 z26 := Tryz.sizeOf3
 v26 := Tryz.zeroValue3
 t33 := Tryz.underlying135
 a33 := Tryz.isAgg135
 z33 := Tryz.sizeOf135
 v33 := Tryz.zeroValue135 }
end Go.Proofs
end
section
namespace Px
open Go
set_option linter.unusedVariables false
set_option linter.unusedSimpArgs false
theorem yb3 {σ ρ : Type} (L : Nat -> Int -> σ -> Option ρ) (len : Nat) (Inv : Nat -> σ -> Prop) (G : Option ρ -> Prop)
  (step : ∀ n i s, i < len -> Inv i s -> (∀ s', Inv (i + 1) s' -> G (L n ((i : Int) + 1) s')) -> G (L (n + 1) i s))
  (done : ∀ n s, Inv len s -> G (L (n + 1) len s)) : ∀ n i s, i <= len -> Inv i s -> len - i < n -> G (L n i s) := by
 intro n
 induction n with
 | zero => intro i s _ _ h; omega
 | succ n ih =>
  intro i s hi hI hn
  by_cases h : i = len
  ·subst h; exact done n s hI
  ·refine step n i s (by omega) hI fun s' hs' => ?_
   have := ih (i + 1) s' (by omega) hs' (by omega)
   simpa using this
theorem zhz {σ ρ : Type} (L : Nat -> Int -> σ -> Option ρ) (len : Nat) (Inv : Nat -> σ -> Prop) (G : Option ρ -> Prop)
  (step : ∀ n i s, i < len -> Inv i s -> (∀ s', Inv (i + 1) s' -> G (L n ((i : Int) + 1) s')) -> G (L (n + 1) i s))
  (done : ∀ n s, Inv len s -> G (L (n + 1) len s)) (n : Nat) (s : σ) (h : Inv 0 s) (hn : len < n) : G (L n 0 s) := by
 simpa using yb3 L len Inv G step done n 0 s (Nat.zero_le _) h (by omega)
theorem yf7 (x : Int) : W x = if x % 18446744073709551616 >= 9223372036854775808 then x % 18446744073709551616 - 18446744073709551616 else x % 18446744073709551616 := by
 simp [W, IntKind.wrap, IntKind.bits, IntKind.signed]
theorem yfg (x : Int) : U x = x % 18446744073709551616 := by
 simp [U, IntKind.wrap, IntKind.bits, IntKind.signed]
theorem W_id {x : Int} (h : -9223372036854775808 <= x) (h' : x <= 9223372036854775807) : W x = x := by
 rw [yf7]; split <;> omega
theorem U_id {x : Int} (h : 0 <= x) (h' : x <= 18446744073709551615) : U x = x := by
 rw [yfg]; omega
theorem zsm {α : Type} [Inhabited α] (ok : α -> Bool) (l : List α) (i : Nat) (h : i < l.length) : (l.take (i + 1)).all ok = ((l.take i).all ok && ok (gt l (i : Int))) := by
 rw [List.take_succ_eq_append_getElem h, List.all_append]
 simp [gt, h]
theorem zhd {α : Type} [Inhabited α] (l : List α) (i : Nat) (h : i < l.length) : l.take (i + 1) = l.take i ++ [gt l (i : Int)] := by
 rw [List.take_succ_eq_append_getElem h]
 simp [gt, h]
theorem ziv {α : Type} [Inhabited α] {l : List α} {i : Int} (h0 : 0 <= i) (h : i < (l.length : Int)) : gt l i ∈ l := by
 have hlt : i.toNat < l.length := by omega
 simp [gt, hlt]
theorem yad {α : Type} [Inhabited α] {l : List α} {i : Nat} (h : i < l.length) : gt l (i : Int) = l[i] := by
 simp [gt, h]
theorem zfh {α : Type} [Inhabited α] (l m : List α) (j : Int) (h0 : 0 <= j) (h : j < (l.length : Int)) : gt (l ++ m) j = gt l j := by
 have : j.toNat < l.length := by omega
 simp [gt, List.getD, List.getElem?_append, this]
theorem za2 {α : Type} [Inhabited α] (l m : List α) (j : Int) (h : (l.length : Int) <= j) : gt (l ++ m) j = gt m (j - l.length) := by
 have : ¬ j.toNat < l.length := by omega
 have e : (j - l.length).toNat = j.toNat - l.length := by omega
 simp [gt, List.getD, List.getElem?_append, this, e]
theorem z10 {α σ ρ : Type} [Inhabited α] (L : Nat -> Int -> σ -> Option ρ) (k : σ -> Option ρ) (l : List α) (f : σ -> α -> σ) (Inv : Nat -> σ -> Prop)
  (step : ∀ (n i : Nat) (s : σ), i < l.length -> Inv i s -> L (n + 1) i s = L n ((i : Int) + 1) (f s (gt l i)) /\ Inv (i + 1) (f s (gt l i))) (done : ∀ n s, Inv l.length s -> L (n + 1) l.length s = k s)
  (n : Nat) (s : σ) (h0 : Inv 0 s) (hn : l.length < n) : L n 0 s = k (l.foldl f s) /\ Inv l.length (l.foldl f s) := by
 refine zhz L l.length (fun i t => t = (l.take i).foldl f s /\ Inv i t) (fun o => o = k (l.foldl f s) /\ Inv l.length (l.foldl f s)) ?_ ?_ n s ⟨by simp, h0⟩ hn
 ·intro n i t hi ⟨ht, hI⟩ hs
  rw [(step n i t hi hI).1]
  refine hs _ ⟨?_, (step n i t hi hI).2⟩
  rw [zhd l i hi, List.foldl_append, <- ht]; rfl
 ·intro n t ⟨ht, hI⟩
  rw [List.take_length] at ht
  subst ht
  exact ⟨done n _ hI, hI⟩
end Px
end
section
namespace Px
open Go
set_option linter.unusedVariables false
set_option linter.unusedSimpArgs false
theorem zq1 {a b : Int} : cmpI a b < 0 ↔ a < b := by unfold cmpI; (repeat' split) <;> omega
theorem zx3 {a b : Int} : cmpI a b = 0 ↔ a = b := by unfold cmpI; (repeat' split) <;> omega
theorem y0t {a b : Int} : or2 a b < 0 ↔ a < 0 \/ (a = 0 /\ b < 0) := by unfold or2; split <;> omega
theorem z5o {a b : Part} : zba a b < 0 ↔ a.kind < b.kind \/ (a.kind = b.kind /\ a.serial < b.serial) := by
 unfold zba; rw [y0t, zq1, zq1, zx3]
theorem y06 : Sort.SWO (Proofs.ltOf fun a b : {y : Part // (fun _ : Part => true) y = true} => zba a.1 b.1) where
 irrefl := fun x => by simp only [Proofs.ltOf, decide_eq_false_iff_not]; rw [z5o]; omega
 trans := fun x y z h1 h2 => by simp only [Proofs.ltOf, decide_eq_true_eq] at *; rw [z5o] at *; omega
 ntrans := fun x y z h1 h2 => by simp only [Proofs.ltOf, decide_eq_false_iff_not] at *; rw [z5o] at *; omega
theorem zlx (φ : Nat) (a b : Int) : z1b φ a b = some (cmpI a b, ()) := by
 unfold z1b cmpI
 simp only [bne_self_eq_false, Bool.false_eq_true, if_false, decide_eq_true_eq]
 split
 ·rfl
 ·split <;> rfl
theorem yaj (φ : Nat) (h : 3 <= φ) (a b : Int) : zix φ [a, b] = some (or2 a b, ()) := by
 obtain ⟨n, rfl⟩ : ∃ n, φ = n + 3 := ⟨φ - 3, by omega⟩
 unfold zix or2
 simp only [zk0, List.length_cons, List.length_nil]
 have w : ∀ x : Int, 0 <= x -> x < 100 -> W (x + 1) = x + 1 := fun x h1 h2 => W_id (by omega) (by omega)
 have g0 : gt [a, b] 0 = a := rfl
 have g1 : gt [a, b] 1 = b := rfl
 rw [w 0 (by omega) (by omega), show (0 : Int) + 1 = 1 by rfl, w 1 (by omega) (by omega), show (1 : Int) + 1 = 2 by rfl, g0, g1]
 simp [ck]
 repeat' (split; try rfl)
 all_goals simp_all
theorem zwy (a b : Part) : zcf 10 a b = some (zba a b, ()) := by
 unfold zcf zba
 simp only [zlx, Option.bind_some]
 rw [yaj 10 (by omega)]
 rfl
theorem y0b {α : Type} {ok : α -> Bool} {cf : α -> α -> Int} (ho : ∀ a b c, cf a b >= 0 -> cf b c >= 0 -> cf a c >= 0) (hi : ∀ a, cf a a >= 0) (ht : ∀ a b c, cf a b < 0 -> cf b c < 0 -> cf a c < 0) {l l' : List α} (p : l.Perm l') : zmx ok cf l = zmx ok cf l' := by
 have hs : Sort.SWO (fun a b : α => decide (cf a b < 0)) :=
  ⟨fun a => by have := hi a; simp; omega, fun a b c h1 h2 => by simp at *; exact ht a b c h1 h2, fun a b c h1 h2 => by simp at *; exact ho a b c h1 h2⟩
 have key : ∀ l l' r : List α, l.Perm l' -> zmx ok cf l = some r -> zmx ok cf l' = some r := by
  intro l l' r p h
  obtain ⟨h1, h2, h3, rfl⟩ := ztw h
  have h3' : l.Pairwise fun a b => cf a b < 0 \/ cf b a < 0 := h3.imp fun h => by simpa using h
  rw [zys (fun y hy => h1 y (p.mem_iff.2 hy)) (by rw [<- p.length_eq]; exact h2) ((p.pairwise_iff (fun {a b} h => h.symm)).1 h3')]
  rw [zrm (l := l) h3 ((z4m _ _).trans p.symm) (z4m _ _) (z7x hs _) (z7x hs _)]
 cases h : zmx ok cf l with
 | some r => exact (key l l' r p h).symm
 | none =>
  cases h' : zmx ok cf l' with
  | none => rfl
  | some r => rw [key l' l r p.symm h'] at h; cases h
theorem zs7 {l l' : List Part} (p : l.Perm l') : zi3 l = zi3 l' := by
 have hlt : ∀ a b : Part, zba a b >= 0 -> ¬ (a.kind < b.kind \/ (a.kind = b.kind /\ a.serial < b.serial)) := fun a b h q => by have := z5o.2 q; omega
 have hge : ∀ a b : Part, ¬ (a.kind < b.kind \/ (a.kind = b.kind /\ a.serial < b.serial)) -> zba a b >= 0 := fun a b h => Int.not_lt.1 fun q => h (z5o.1 q)
 refine y0b (fun a b c h1 h2 => ?_) (fun a => hge a a (by omega)) (fun a b c h1 h2 => ?_) p
 ·have := hlt _ _ h1
  have := hlt _ _ h2
  exact hge _ _ (by omega)
 ·rw [z5o] at *; omega
theorem zj6 (φ : Nat) : ∀ (n : Nat) (w : Int) (p p' : List Part) (rem : List (z1 × List (Int × Bool))), p.Perm p' -> zi φ n w p rem = zi φ n w p' rem
 | 0, w, p, p', rem, h => rfl
 | n + 1, w, p, p', [], h => by simp only [zi, z00, zs7 h]
 | n + 1, w, p, p', e :: r, h => by
  simp only [zi, z00, zw, Option.bind_some, h.length_eq]
  rw [zj6 φ n w p p' r h, zj6 φ n w _ _ r (h.append_right [_])]
theorem zqv (φ : Nat) {rem rem' : List (z1 × List (Int × Bool))} (h : rem.Perm rem') : ∀ (n : Nat) (w : Int) (p : List Part), zi φ n w p rem = zi φ n w p rem' := by
 induction h with
 | nil => intros; rfl
 | cons e h ih =>
  intro n w p
  cases n with
  | zero => rfl
  | succ n => simp only [zi, z00, zw, Option.bind_some]; rw [ih n w p, ih n w (p ++ _)]
 | swap a b r =>
  intro n w p
  match n with
  | 0 => rfl
  | 1 =>
   simp only [zi, z00, zw, Option.bind_some, ck]
   repeat' split
   all_goals rfl
  | n + 2 =>
   simp only [zi, z00, zw, Option.bind_some]
   cases hb : (((b.2.length : Int) == 1) && ((cget kl_0 b.2 w).getD default)) <;> cases ha : (((a.2.length : Int) == 1) && ((cget kl_0 a.2 w).getD default))
   ·simp
   ·simp
   ·simp
   ·simp only [if_true, List.append_assoc, List.cons_append, List.nil_append]
    have h := zj6 φ n w (p ++ [⟨b.1.kind, b.1.serial, true⟩, ⟨a.1.kind, a.1.serial, true⟩]) (p ++ [⟨a.1.kind, a.1.serial, true⟩, ⟨b.1.kind, b.1.serial, true⟩]) r (List.Perm.append_left p (List.Perm.swap _ _ _))
    simp only [List.length_append, List.length_cons, List.length_nil]
    rw [h]
 | trans h1 h2 ih1 ih2 => intro n w p; rw [ih1, ih2]
theorem zni (φ : Nat) {rem rem' : List (Int × Bool)} (h : rem.Perm rem') (hd : Ndp kl_0 rem) (k20) : ∀ (n : Nat) (a b c d e f g i) (m : List (Int × Bool)), Srt' kl_0 m -> zo φ k20 n a b c d e f g i m rem = zo φ k20 n a b c d e f g i m rem' := by
 induction h with
 | nil => intros; rfl
 | cons x h ih =>
  intro n a b c d e f g i m hm
  cases n with
  | zero => rfl
  | succ n => simp only [zo, z1k]; exact ih (List.pairwise_cons.1 hd).2 n _ _ _ _ _ _ _ _ _ (hm.set _ _)
 | swap x y r =>
  intro n a b c d e f g i m hm
  have hne : kl_0 y.1 ≠ kl_0 x.1 := (List.pairwise_cons.1 hd).1 x (by simp)
  match n with
  | 0 => rfl
  | 1 => rfl
  | n + 2 =>
   simp only [zo, z1k]
   rw [y4u hm hne]
 | trans h1 h2 ih1 ih2 => intro n a b c d e f g i m hm; rw [ih1 hd n _ _ _ _ _ _ _ _ m hm, ih2 (hd.perm h1) n _ _ _ _ _ _ _ _ m hm]
end Px
end
section
namespace Px
open Go Go.RowKit
set_option linter.unusedVariables false
set_option linter.unusedSimpArgs false
section
variable {κ ν : Type} {e : κ -> List Int} {num : κ -> Int}
theorem y3i (he : ∀ k, e k = [num k]) {m : List (κ × ν)} (h : Srt' e m) : (m.map fun p => num p.1).Pairwise fun a b => a < b := by
 rw [List.pairwise_map]
 refine List.Pairwise.imp (fun {a b} hab => ?_) h
 rw [he, he] at hab
 simp only [ltI] at hab
 cases hd : decide (num a.1 < num b.1) with
 | true => exact of_decide_eq_true hd
 | false =>
  rw [hd] at hab
  simp only [cond_false] at hab
  cases hb : (num a.1 == num b.1) with
  | true => rw [hb] at hab; simp at hab
  | false => rw [hb] at hab; simp at hab
theorem y2h {ss l : List Int} (hp : ss.Perm l) (hl : l.Pairwise fun a b => a < b) : ss.mergeSort (fun x y => decide (x <= y)) = l := by
 refine List.Perm.eq_of_pairwise (le := fun a b : Int => a <= b) (fun a b _ _ h1 h2 => by omega) ?_ (hl.imp fun h => by omega) ((List.mergeSort_perm _ _).trans hp)
 have := List.pairwise_mergeSort (le := fun x y : Int => decide (x <= y)) (by intro a b c h1 h2; simp at *; omega) (by intro a b; simp; omega) ss
 exact this.imp fun h => by simpa using h
theorem ycv {P : Program} {kt : TypeId} {eK : κ -> Value} {eV : ν -> Value} {w : World} {b : Nat} {m : List (κ × ν)} (hk : P.underlying kt = some (.int .i64)) (he : ∀ k, e k = [num k]) (hK : ∀ k, eK k = .int .i64 (num k))
  (hin : ∀ p ∈ m, -9223372036854775808 <= num p.1 /\ num p.1 < 9223372036854775808) (hl : m.length <= 17592186044416) (h : CM w b e eK eV m) :
  ∃ D0 : DataW Unit, w.ownsMap P kt (fun _ => some (.lit (.bool false), [])) b m.length D0 /\ Maps.size D0 = m.length /\ (intKeys D0).Perm (m.map fun p => num p.1) := by
 obtain ⟨hs, es, clock, m', h1, h2, h3, h4⟩ := h
 have hlen : es.toList.length = m.length := by
  have := congrArg List.length h4
  simp only [List.length_map] at this
  rw [this, h3.length_eq]
 have hkeys : es.toList.map (·.key) = m'.map fun p => Value.int .i64 (num p.1) := by
  have := congrArg (List.map (·.1)) h4
  simpa [Function.comp_def, hK] using this
 have hmem : ∀ x ∈ es.toList, ∃ n, x.key = .int .i64 n /\ -9223372036854775808 <= n /\ n < 9223372036854775808 := by
  intro x hx
  have : x.key ∈ es.toList.map (·.key) := List.mem_map.2 ⟨x, hx, rfl⟩
  rw [hkeys] at this
  obtain ⟨p, hp, e1⟩ := List.mem_map.1 this
  exact ⟨_, e1.symm, hin p (h3.mem_iff.1 hp)⟩
 have hrd : ∀ n : Int, -9223372036854775808 <= n -> n < 9223372036854775808 -> keyOf P kt (.int .i64 n) = some (.int .i64 n) := by
  intro n ha hb
  have hw : (Lit.int .i64 n).wf = true := by
   simp only [Lit.wf, Bool.and_eq_true, decide_eq_true_eq]
   have e1 : IntKind.i64.min = -9223372036854775808 := rfl
   have e2 : IntKind.i64.max = 9223372036854775807 := rfl
   rw [e1, e2]; omega
  simp [keyOf, hk, mapKey, hw]
 have hrd2 : ∀ x ∈ es.toList, ∀ n, x.key = .int .i64 n -> WideElems.rd P kt (fun _ => some ((.lit (.bool false) : DataW Unit), [])) x = some (.int .i64 n, .lit (.bool false)) := by
  intro x hx n hn
  obtain ⟨n', e1, ha, hb⟩ := hmem x hx
  rw [hn] at e1
  cases e1
  simp [WideElems.rd, hn, hrd n ha hb]
 have hints : es.toList.map (fun x => Go.intOf (WideElems.rg P kt (fun _ => some ((.lit (.bool false) : DataW Unit), [])) x).1) = m'.map fun p => num p.1 := by
  have e1 : es.toList.map (fun x => Go.intOf (WideElems.rg P kt (fun _ => some ((.lit (.bool false) : DataW Unit), [])) x).1) = (es.toList.map (·.key)).map fun v => match v with | .int _ n => n | _ => 0 := by
   rw [List.map_map]
   refine List.map_congr_left fun x hx => ?_
   obtain ⟨n, e1, _⟩ := hmem x hx
   simp only [WideElems.rg, hrd2 x hx n e1, Option.getD_some, Function.comp, e1, Go.intOf]
  rw [e1, hkeys, List.map_map]
  rfl
 refine ⟨.map ((es.toList.map (WideElems.rg P kt fun _ => some (.lit (.bool false), []))).foldr DataW.insert []), ⟨es, clock, h1, ⟨?_, ⟨h2.lt, h2.nd, ?_⟩, fun x hx => ?_⟩, ?_, rfl⟩, ?_, ?_⟩
 ·have : es.size = m.length := by simpa using hlen
  unfold maxLen; omega
 ·rw [hkeys]
  have h5 := y3i (num := num) he hs
  have h6 : (m'.map fun p => num p.1).Nodup := (h3.map (fun p : κ × ν => num p.1)).nodup_iff.2 (List.Pairwise.imp (fun {a b} h => by omega) h5)
  have h7 : (m'.map fun p => Value.int .i64 (num p.1)) = (m'.map fun p => num p.1).map (Value.int .i64) := by rw [List.map_map]; rfl
  rw [h7]
  exact List.pairwise_map.2 (List.Pairwise.imp (fun {a b} h q => h (by cases q; rfl)) h6)
 ·obtain ⟨n, e1, _⟩ := hmem x hx
  exact ⟨_, hrd2 x hx n e1⟩
 ·have : es.size = m.length := by simpa using hlen
  omega
 ·rw [Maps.size_eq, (WideShapes.sorted_perm _).length_eq]
  simpa using hlen
 ·show (List.map (fun p : Lit × DataW Unit => Go.intOf p.1) _).Perm _
  refine ((WideShapes.sorted_perm _).map _).trans ?_
  rw [List.map_map]
  show (es.toList.map (fun x => Go.intOf (WideElems.rg P kt (fun _ => some ((.lit (.bool false) : DataW Unit), [])) x).1)).Perm _
  rw [hints]
  exact h3.map _
end
open Proofs in
theorem yf1 {V : TE} {P : Program} {ρ σ τ : Shelf.Ren} (L : SlLaysZI.n6 P ρ) (K : SlLaysZI.n10 P σ) (S : Lays.n189 P τ) {kc vc E : Nat} (num : V.T kc -> Int) (hl : ∀ k, V.kl kc k = [num k]) (hv : ∀ k, V.kv kc k = .int .i64 (num k)) (hev : ∀ k, V.ev kc k = [iv .i64 (num k)]) (hsz : V.sz kc = 1)
  (h9 : ρ.f 9 = τ.f 189) (h26 : ρ.t 26 = E) (e9 : ∀ args w, (callFunc (ρ.f 9) args).run P w = .ok (.enter (ρ.f 9) args) w) (eg : ∀ args w, (callFunc (σ.f 10) args).run P w = .ok (.enter (σ.f 10) args) w) : SoOK V P (ρ.f 6) ⟨σ.f 10, kc, vc, E⟩ := by
 intro m hm
 simp only [soK, Bool.and_eq_true, List.all_eq_true] at hm
 obtain ⟨hin, hlen⟩ := hm
 have hlen := Nat.le_of_ble_eq_true hlen
 have hin : ∀ p ∈ m, -9223372036854775808 <= num p.1 /\ num p.1 < 9223372036854775808 := by
  intro p hp
  have := hin p hp
  rw [hl] at this
  simpa [inI] using this
 intro r w vs hr hsize hA
 obtain ⟨caps, hfn, hc1, hc2⟩ := hA 0 _ rfl
 obtain ⟨Bm, hcap, hrB, hcell⟩ := hc2 0 _ rfl
 obtain ⟨u, hu, hmap, _⟩ := hcell 0 _ rfl
 have hcaps : caps = #[.pointer (some ⟨Bm, 0, none⟩)] := by
  refine Array.ext (by simpa using hc1) fun i h1 h2 => ?_
  have : i = 0 := by simp at h2; omega
  subst this
  rw [<- hcap]; simp [Array.getD_eq_getD_getElem?, h1]
 subst hcaps
 have hvs : vs = #[.func (.func (σ.f 10)) #[] #[.pointer (some ⟨Bm, 0, none⟩)]] := by
  refine Array.ext (by simpa using hsize) fun i h1 h2 => ?_
  have : i = 0 := by simp at h2; omega
  subst this
  rw [<- hfn]; simp [Array.getD_eq_getD_getElem?, h1]
 subst hvs
 have hBm := hr Bm hrB
 have hsorts : AnyZI.SortsIn P ρ Fence.wide 4 := by
  refine ⟨fun blk off cap ss W hH hb hs => callsIn_wide.2 ?_, fun p cap W => callsIn_wide.2 ?_⟩
  ·rw [h9]; exact Any.slices_Sort_int S blk off cap ss W hH hb hs
  ·rw [h9]; exact Any.slices_Sort_int_none S p cap W
 have fin : ∀ (Sq : List Int -> Prop), (∀ ss, Sq ss -> ss.Perm (m.map fun p => num p.1)) -> (m.map fun p => num p.1).Pairwise (fun a b => a < b) -> SeqGives Fence.wide 2 P (σ.f 10) #[.pointer (some ⟨Bm, 0, none⟩)] encZ Sq m.length w ->
   Calls P (ρ.f 6) #[.func (.func (σ.f 10)) #[] #[.pointer (some ⟨Bm, 0, none⟩)]] w (retR w w.heap.size r w fun x news => ∃ sv, x = eqv sv /\ news = [row E (V.ev kc) (V.sz kc) (m.map (·.1)) sv]) := by
  intro Sq hSq hlt hseq
  have cS := AnyZI.sorted_in L Fence.wide 5 trivial trivial trivial trivial rfl (by omega) hsorts e9 (σ.f 10) #[.pointer (some ⟨Bm, 0, none⟩)] trivial eg Sq m.length (by unfold maxLen; omega) (by omega) w hseq
  refine (callsIn_wide.1 cS).mono ?_
  rintro e w' ⟨v, ss, rfl, hS, hrow, hnil, hb⟩
  have hms := y2h (hSq ss hS) hlt
  have hsl : ss.length = m.length := by rw [(hSq ss hS).length_eq, List.length_map]
  rw [hms] at hrow
  refine ⟨v, eqv v, [row E (V.ev kc) (V.sz kc) (m.map (·.1)) v], r, fun j b => j = 0 /\ v.ownBlock = some b, rfl, ⟨fun _ h => h, fun b hb' => hb.block b (hr b hb'), fun _ h => .inl h⟩, ⟨⟨hb, fun h => (h : False).elim⟩, hb.size, ?_, ?_, ?_, fun b hb' => Nat.lt_of_lt_of_le (hr b hb') hb.size⟩, rfl, v, rfl, rfl⟩
  ·intro i H hi
   cases i with
   | succ i => simp at hi
   | zero =>
    simp only [List.getElem?_cons_zero, Option.some.injEq] at hi
    subst hi
    rcases hrow.2 with ⟨h1, h2⟩ | ⟨g, cap, cur, h1, h2, h3, h4, h5, h6, h7⟩
    ·exact .inl ⟨h1, by rw [List.map_eq_nil_iff]; exact List.length_eq_zero_iff.1 (by omega)⟩
    ·refine .inr ⟨g, cap, cur, ?_, ⟨rfl, by rw [h1]; rfl⟩, ?_, ?_, h5, ?_, ?_⟩
     ·rw [h1, List.length_map, hsl]
     ·rw [<- h26]; exact h3
     ·rw [List.length_map]; omega
     ·rw [hsz]; exact h6
     ·rw [List.length_map, hsz, <- hsl, h7]
      have e1 : (m.map (·.1)).flatMap (V.ev kc) = ((m.map fun p => num p.1).map encZ).map eqv := by
       rw [List.map_map, List.map_map, List.flatMap_map]
       have : ∀ l : List (V.T kc × V.T vc), l.flatMap (fun a => V.ev kc a.1) = l.map ((eqv ∘ encZ) ∘ fun p => num p.1) := by
        intro l
        induction l with
        | nil => rfl
        | cons a l ih => rw [List.flatMap_cons, ih, hev]; rfl
       exact this m
      rw [e1]
      exact zlu fun v hv => by
       obtain ⟨n, _, rfl⟩ := List.mem_map.1 hv
       rfl
  ·rintro i b ⟨rfl, hb'⟩
   rcases hrow.2 with ⟨h1, _⟩ | ⟨g, cap, cur, h1, h2, h3, _⟩
   ·rw [h1] at hb'; cases hb'
   ·rw [h1] at hb'
    cases hb'
    exact ⟨by simp, h2, (Array.getElem?_eq_some_iff.1 h3).1, fun q => Nat.lt_irrefl _ (Nat.lt_of_lt_of_le (hr _ q) h2)⟩
  ·rintro i j b ⟨rfl, _⟩ ⟨rfl, _⟩; rfl
 rcases hmap with ⟨rfl, rfl⟩ | ⟨b, t, rfl, hmt, hrb, hCM, _⟩
 ·refine fin (fun ss => ss = []) (fun ss h => by subst h; exact List.Perm.refl _) List.Pairwise.nil ?_
  exact AnyZI.keys_gives_nil { K with } Fence.wide _ trivial rfl Bm w hBm hu
 ·have hnum : (t.map fun p => num p.1) = m.map fun p => num p.1 := by rw [<- hmt, List.map_map]; rfl
  have htl : t.length = m.length := by rw [<- hmt, List.length_map]
  obtain ⟨D0, h1, h2, h3⟩ := ycv (num := num) K.t26 hl hv (fun p hp => hin (p.1, p.2.1) (by rw [<- hmt]; exact List.mem_map.2 ⟨p, hp, rfl⟩)) (by omega) hCM
  refine fin (fun ss => ss.Perm (intKeys D0)) (fun ss h => by rw [<- hnum]; exact h.trans h3) (by rw [<- hnum]; exact y3i hl hCM.1) ?_
  have := AnyZI.keys_gives { K with } Fence.wide 2 trivial rfl (by omega) Bm b _ D0 w hBm hu h1
  rw [h2, htl] at this
  exact this
end Px
end
section
set_option linter.unusedVariables false
set_option linter.unusedSimpArgs false
set_option maxHeartbeats 4000000
set_option maxRecDepth 100000
namespace Px
open Go Go.RowKit Go.Proofs
def zdo (φ : Nat) : H TV (RTup TT [.val 2]) := .x
def zgy (P : Program) (φ : Nat) : Env TV := ⟨P, lk [], lk [], lk [], lk []⟩
theorem zv0 (φ : Nat) (a) : (zd9 φ).F a = fnX TV (zgy Tryz.prog φ) φ Tryz.f26 [0, 1] [.val 2] (zdo φ) a := by kernel_rfl
theorem zul (φ : Nat) : fnO TV (zgy Tryz.prog φ) φ Tryz.f26 [.val 2] (zdo φ) := by
 unfold fnO
 show obl _ _ _ _ _ _ _
 unfold zdo
 repeat' (first | exact trivial | (refine ⟨?_, ?_⟩) | (intro _) | kernel_rfl)
theorem zmf [Dr] (φ : Nat) : z0s TV Tryz.prog 26 (zd9 φ) :=
 z1f (N := zgy Tryz.prog φ) (zg trivial trivial trivial trivial) (zdo φ) Tryz.func26 (by kernel_rfl) (zv0 φ) (zul φ)
def z7e (φ : Nat) : H TV (RTup TT [.val 7]) := .x
def zak (P : Program) (φ : Nat) : Env TV := ⟨P, lk [], lk [], lk [], lk []⟩
theorem znm (φ : Nat) (a) : (zat φ).F a = fnX TV (zak Tryz.prog φ) φ Tryz.f25 [0, 0, 0, 2] [.val 7] (z7e φ) a := by kernel_rfl
theorem znn (φ : Nat) : fnO TV (zak Tryz.prog φ) φ Tryz.f25 [.val 7] (z7e φ) := by
 unfold fnO
 show obl _ _ _ _ _ _ _
 unfold z7e
 repeat' (first | exact trivial | (refine ⟨?_, ?_⟩) | (intro _) | kernel_rfl)
theorem zn2 [Dr] (φ : Nat) : z0s TV Tryz.prog 25 (zat φ) :=
 z1f (N := zak Tryz.prog φ) (zg trivial trivial trivial trivial) (z7e φ) Tryz.func25 (by kernel_rfl) (znm φ) (znn φ)
def z0u (φ : Nat) : H TV (List (TT 7)) := (.seq .x (.body (.loop ⟨[(53, [(0, .own 0), (1, .val 0), (2, .val 0), (3, .cmp 7), (8, .val 0)]), (1, [(0, .own 0)])], [.row 57 7]⟩ (fun n z => z21 φ n z.1 z.2.1 z.2.2.1 z.2.2.2.1 z.2.2.2.2.1) (fun zk10 => (.seq .x (.seq (.body (.seq .x (.body (.loop ⟨[(53, [(0, .own 0), (1, .val 0), (2, .val 0), (3, .cmp 7), (8, .val 0), (9, .val 0)]), (1, [(0, .own 0)])], [.row 57 7]⟩ (fun n z => z1y φ (fun a0 a1 a2 a3 a4 => zk10 (a0, a1, a2, a3, a4, ())) n z.1 z.2.1 z.2.2.1 z.2.2.2.1 z.2.2.2.2.1 z.2.2.2.2.2.1) (fun zk17 => .x))))) .x))))))
def z37 (P : Program) (φ : Nat) : Env TV := ⟨P, lk [], lk [], lk [], lk []⟩
theorem zap (φ : Nat) (l a) : (z38 φ).F l a = fnM TV (z37 Tryz.prog φ) φ Tryz.f114 57 7 [.val 0, .val 0, .cmp 7] (z0u φ) l a := by kernel_rfl
theorem zaz (φ : Nat) : fnMO TV (z37 Tryz.prog φ) φ Tryz.f114 57 7 (z0u φ) := by
 unfold fnMO
 show obl _ _ _ _ _ _ _
 unfold z0u
 repeat' (first | exact trivial | (refine ⟨?_, ?_⟩) | (intro _) | kernel_rfl)
theorem zaf [Dr] (φ : Nat) : zbr TV Tryz.prog 114 (z38 φ) := z95 (N := z37 Tryz.prog φ) (zg trivial trivial trivial trivial) (z0u φ) Tryz.func114 (by kernel_rfl) (zap φ) (zaz φ)
def z2f (φ : Nat) : H TV (List (TT 7)) := (.seq .x (.body (.loop ⟨[(38, [(0, .own 0), (1, .val 0), (2, .val 0), (3, .val 0), (10, .val 0)]), (1, [(0, .own 0)])], [.row 57 7]⟩ (fun n z => z42 φ n z.1 z.2.1 z.2.2.1 z.2.2.2.1 z.2.2.2.2.1) (fun zk11 => .x))))
def z4y (P : Program) (φ : Nat) : Env TV := ⟨P, lk [], lk [], lk [], lk []⟩
theorem zdz (φ : Nat) (l a) : (z4x φ).F l a = fnM TV (z4y Tryz.prog φ) φ Tryz.f173 57 7 [.val 0, .val 0, .val 0, .cmp 7] (z2f φ) l a := by kernel_rfl
theorem zef (φ : Nat) : fnMO TV (z4y Tryz.prog φ) φ Tryz.f173 57 7 (z2f φ) := by
 unfold fnMO
 show obl _ _ _ _ _ _ _
 unfold z2f
 repeat' (first | exact trivial | (refine ⟨?_, ?_⟩) | (intro _) | kernel_rfl)
theorem ze8 [Dr] (φ : Nat) : zbr TV Tryz.prog 173 (z4x φ) := z95 (N := z4y Tryz.prog φ) (zg trivial trivial trivial trivial) (z2f φ) Tryz.func173 (by kernel_rfl) (zdz φ) (zef φ)
def z47 (φ : Nat) : H TV (List (TT 7)) := (.seq .x (.seq .x (.seq (.body (.loop ⟨[(58, [(0, .own 0), (2, .val 0), (4, .cmp 7), (10, .val 0), (11, .val 0)]), (1, [(0, .own 0)])], [.row 57 7]⟩ (fun n z => z2y φ n z.1 z.2.1 z.2.2.1 z.2.2.2.1 z.2.2.2.2.1) (fun zk11 => .x))) .x)))
def z5s (P : Program) (φ : Nat) : Env TV := ⟨P, lk [], lk [(173, z4x φ)], lk [], lk []⟩
theorem zg7 (φ : Nat) (l a) : (z5v φ).F l a = fnM TV (z5s Tryz.prog φ) φ Tryz.f155 57 7 [.val 0, .val 0, .val 0, .cmp 7] (z47 φ) l a := by kernel_rfl
theorem zg5 (φ : Nat) : fnMO TV (z5s Tryz.prog φ) φ Tryz.f155 57 7 (z47 φ) := by
 unfold fnMO
 show obl _ _ _ _ _ _ _
 unfold z47
 repeat' (first | exact trivial | (refine ⟨?_, ?_⟩) | (intro _) | kernel_rfl)
theorem zg9 [Dr] (φ : Nat) : zbr TV Tryz.prog 155 (z5v φ) := z95 (N := z5s Tryz.prog φ) (zg trivial ⟨(ze8 φ), trivial⟩ trivial trivial) (z47 φ) Tryz.func155 (by kernel_rfl) (zg7 φ) (zg5 φ)
def z2z (φ d : Nat) : H TV (List (TT 7)) := (.seq (.seq .x (.cond (.seq .x (.seq .x (.seq (.body (.loop ⟨[(220, [(0, .own 0), (1, .val 0), (4, .cmp 7), (10, .val 0), (11, .val 0)]), (1, [(0, .own 0)])], [.row 57 7]⟩ (fun n z => z1r φ n z.1 z.2.1 z.2.2.1 z.2.2.2.1 z.2.2.2.2.1) (fun zk11 => .x))) (.seq (.seq .x (.body (.loop ⟨[(220, [(0, .own 0), (10, .val 0), (13, .val 0)]), (1, [(0, .own 0)])], [.row 57 7]⟩ (fun n z => z4c φ n z.1 z.2.1 z.2.2.1) (fun zk16 => .x)))) .x)))) .x)) (.seq (.seq .x (.cond (.seq .x (.seq .x (.seq (.body (.loop ⟨[(220, [(0, .own 0), (2, .val 0), (4, .cmp 7), (14, .val 0), (15, .val 0)]), (1, [(0, .own 0)])], [.row 57 7]⟩ (fun n z => z1s φ n z.1 z.2.1 z.2.2.1 z.2.2.2.1 z.2.2.2.2.1) (fun zk22 => .x))) (.seq (.seq .x (.body (.loop ⟨[(220, [(0, .own 0), (14, .val 0), (17, .val 0)]), (1, [(0, .own 0)])], [.row 57 7]⟩ (fun n z => z4d φ n z.1 z.2.1 z.2.2.1) (fun zk27 => .x)))) .x)))) .x)) (.seq .x (.seq .x (.seq .x (.seq (.join ⟨[(220, [(0, .own 0), (1, .val 0), (2, .val 0), (3, .val 0), (4, .cmp 7), (18, .val 0), (19, .val 0), (20, .val 0), (21, .val 0)]), (1, [(0, .own 0)])], [.row 57 7]⟩ (fun z => z4e φ (zq φ d) z.1 z.2.1 z.2.2.1 z.2.2.2.1 z.2.2.2.2.1 z.2.2.2.2.2.1 z.2.2.2.2.2.2.1 z.2.2.2.2.2.2.2.1 z.2.2.2.2.2.2.2.2.1) (.seq .x .x)) (.seq .x (.seq (.body (.loop ⟨[(220, [(0, .own 0), (1, .val 0), (2, .val 0), (3, .val 0), (4, .cmp 7), (18, .val 0), (19, .val 0), (20, .val 0), (21, .val 0), (22, .val 0)]), (1, [(0, .own 0)])], [.row 57 7]⟩ (fun n z => z1u φ (zq φ d) n z.1 z.2.1 z.2.2.1 z.2.2.2.1 z.2.2.2.2.1 z.2.2.2.2.2.1 z.2.2.2.2.2.2.1 z.2.2.2.2.2.2.2.1 z.2.2.2.2.2.2.2.2.1 z.2.2.2.2.2.2.2.2.2.1) (fun zk48 => .x))) (.seq .x (.seq (.join ⟨[(220, [(0, .own 0), (1, .val 0), (3, .val 0), (4, .cmp 7), (18, .val 0), (20, .val 0), (24, .val 0)]), (1, [(0, .own 0)])], [.row 57 7]⟩ (fun z => z4l φ (zq φ d) z.1 z.2.1 z.2.2.1 z.2.2.2.1 z.2.2.2.2.1 z.2.2.2.2.2.1 z.2.2.2.2.2.2.1) (.seq .x .x)) (.seq (.join ⟨[(220, [(0, .own 0), (3, .val 0), (4, .cmp 7), (18, .val 0), (24, .val 0)]), (1, [(0, .own 0)])], [.row 57 7]⟩ (fun z => z4b φ (zq φ d) z.1 z.2.1 z.2.2.1 z.2.2.2.1 z.2.2.2.2.1) (.seq .x .x)) .x)))))))))))
def z5c (P : Program) (φ d : Nat) : Env TV := ⟨P, lk [], lk [(155, z5v φ), (115, z31 φ d)], lk [], lk []⟩
theorem zes (φ d : Nat) (l a) : (z31 φ (d + 1)).F l a = fnM TV (z5c Tryz.prog φ d) φ Tryz.f115 57 7 [.val 0, .val 0, .val 0, .cmp 7] (z2z φ d) l a := by kernel_rfl
theorem zew (φ d : Nat) : fnMO TV (z5c Tryz.prog φ d) φ Tryz.f115 57 7 (z2z φ d) := by
 unfold fnMO
 show obl _ _ _ _ _ _ _
 unfold z2z
 repeat' (first | exact trivial | (refine ⟨?_, ?_⟩) | (intro _) | kernel_rfl)
theorem z82 [Dr] (φ : Nat) : ∀ d, zbr TV Tryz.prog 115 (z31 φ d)
 | 0 => fun l a l2 sv h => absurd (show (none : Option (List (TT 7))) = some l2 from h) (fun q => by cases q)
 | d + 1 => z95 (N := z5c Tryz.prog φ d) (zg trivial ⟨(zg9 φ), (z82 φ d), trivial⟩ trivial trivial) (z2z φ d) Tryz.func115 (by kernel_rfl) (zes φ d) (zew φ d)
def z48 (φ : Nat) : H TV (List (TT 7)) := (.seq .x (.seq .x (.seq (.body (.loop ⟨[(63, [(0, .own 0), (1, .val 0), (2, .cmp 7), (6, .val 0), (7, .val 0), (8, .val 0)]), (1, [(0, .own 0)])], [.row 57 7]⟩ (fun n z => z5b φ n z.1 z.2.1 z.2.2.1 z.2.2.2.1 z.2.2.2.2.1 z.2.2.2.2.2.1) (fun zk10 => .x))) (.seq .x (.body (.loop ⟨[(63, [(0, .own 0), (1, .val 0), (2, .cmp 7), (6, .val 0)]), (1, [(0, .own 0)])], [.row 57 7]⟩ (fun n z => z5d φ n z.1 z.2.1 z.2.2.1 z.2.2.2.1) (fun zk17 => (.seq .x (.body (.seq .x (.seq (.body (.loop ⟨[(63, [(0, .own 0), (1, .val 0), (2, .cmp 7), (6, .val 0), (7, .val 0), (8, .val 0)]), (1, [(0, .own 0)])], [.row 57 7]⟩ (fun n z => z57 φ (fun a0 a1 a2 a3 => zk17 (a0, a1, a2, a3, ())) n z.1 z.2.1 z.2.2.1 z.2.2.2.1 z.2.2.2.2.1 z.2.2.2.2.2.1) (fun zk24 => .x))) .x)))))))))))
def z5t (P : Program) (φ : Nat) : Env TV := ⟨P, lk [], lk [(114, z38 φ), (115, z31 φ φ)], lk [], lk []⟩
theorem zgc (φ : Nat) (l a) : (z5w φ).F l a = fnM TV (z5t Tryz.prog φ) φ Tryz.f79 57 7 [.val 0, .cmp 7] (z48 φ) l a := by kernel_rfl
theorem zg8 (φ : Nat) : fnMO TV (z5t Tryz.prog φ) φ Tryz.f79 57 7 (z48 φ) := by
 unfold fnMO
 show obl _ _ _ _ _ _ _
 unfold z48
 repeat' (first | exact trivial | (refine ⟨?_, ?_⟩) | (intro _) | kernel_rfl)
theorem zgb [Dr] (φ : Nat) : zbr TV Tryz.prog 79 (z5w φ) := z95 (N := z5t Tryz.prog φ) (zg trivial ⟨(zaf φ), (z82 φ φ), trivial⟩ trivial trivial) (z48 φ) Tryz.func79 (by kernel_rfl) (zgc φ) (zg8 φ)
def z3o (φ : Nat) : H TV (List (TT 7)) := .x
def z5i (P : Program) (φ : Nat) : Env TV := ⟨P, lk [], lk [(79, z5w φ)], lk [], lk []⟩
theorem zfn (φ : Nat) (l a) : (z3l φ).F l a = fnM TV (z5i Tryz.prog φ) φ Tryz.f52 57 7 [.cmp 7] (z3o φ) l a := by kernel_rfl
theorem zfu (φ : Nat) : fnMO TV (z5i Tryz.prog φ) φ Tryz.f52 57 7 (z3o φ) := by
 unfold fnMO
 show obl _ _ _ _ _ _ _
 unfold z3o
 repeat' (first | exact trivial | (refine ⟨?_, ?_⟩) | (intro _) | kernel_rfl)
theorem z8f [Dr] (φ : Nat) : zbr TV Tryz.prog 52 (z3l φ) := z95 (N := z5i Tryz.prog φ) (zg trivial ⟨(zgb φ), trivial⟩ trivial trivial) (z3o φ) Tryz.func52 (by kernel_rfl) (zfn φ) (zfu φ)
def zbd (φ : Nat) : H TV (RTup TT [.val 0]) := .x
def zfa (P : Program) (φ : Nat) : Env TV := ⟨P, lk [], lk [], lk [], lk []⟩
theorem zs0 (φ : Nat) (a) : (z3k φ).F a = fnX TV (zfa Tryz.prog φ) φ Tryz.f40 [0, 0] [.val 0] (zbd φ) a := by kernel_rfl
theorem zta (φ : Nat) : fnO TV (zfa Tryz.prog φ) φ Tryz.f40 [.val 0] (zbd φ) := by
 unfold fnO
 show obl _ _ _ _ _ _ _
 unfold zbd
 repeat' (first | exact trivial | (refine ⟨?_, ?_⟩) | (intro _) | kernel_rfl)
theorem z5k [Dr] (φ : Nat) : z0s TV Tryz.prog 40 (z3k φ) :=
 z1f (N := zfa Tryz.prog φ) (zg trivial trivial trivial trivial) (zbd φ) Tryz.func40 (by kernel_rfl) (zs0 φ) (zta φ)
def zo1 (φ : Nat) : H TV (RTup TT [.val 0]) := (.seq .x (.seq .x (.seq (.seq .x (.body (.loop ⟨[(18, [(3, .val 0), (6, .val 8), (7, .val 0), (8, .val 0)])], []⟩ (fun n z => zk0 φ n z.1 z.2.1 z.2.2.1 z.2.2.2.1) (fun zk6 => .x)))) .x)))
def zsk (P : Program) (φ : Nat) : Env TV := ⟨P, lk [], lk [], lk [], lk []⟩
theorem y8a (φ : Nat) (a) : (zbh φ).F a = fnX TV (zsk Tryz.prog φ) φ Tryz.f39 [8] [.val 0] (zo1 φ) a := by kernel_rfl
theorem y6k (φ : Nat) : fnO TV (zsk Tryz.prog φ) φ Tryz.f39 [.val 0] (zo1 φ) := by
 unfold fnO
 show obl _ _ _ _ _ _ _
 unfold zo1
 repeat' (first | exact trivial | (refine ⟨?_, ?_⟩) | (intro _) | kernel_rfl)
theorem zfj [Dr] (φ : Nat) : z0s TV Tryz.prog 39 (zbh φ) :=
 z1f (N := zsk Tryz.prog φ) (zg trivial trivial trivial trivial) (zo1 φ) Tryz.func39 (by kernel_rfl) (y8a φ) (y6k φ)
def z9n (φ : Nat) : H TV (RTup TT [.val 0]) := .x
def ze1 (P : Program) (φ : Nat) : Env TV := ⟨P, lk [(40, z3k φ), (39, zbh φ)], lk [], lk [], lk []⟩
theorem zq9 (φ : Nat) (a) : (z9t φ).F a = fnX TV (ze1 Tryz.prog φ) φ Tryz.f53 [7, 7] [.val 0] (z9n φ) a := by kernel_rfl
theorem zqp (φ : Nat) : fnO TV (ze1 Tryz.prog φ) φ Tryz.f53 [.val 0] (z9n φ) := by
 unfold fnO
 show obl _ _ _ _ _ _ _
 unfold z9n
 repeat' (first | exact trivial | (refine ⟨?_, ?_⟩) | (intro _) | kernel_rfl)
theorem ziw [Dr] (φ : Nat) : z0s TV Tryz.prog 53 (z9t φ) :=
 z1f (N := ze1 Tryz.prog φ) (zg ⟨z5k φ, zfj φ, trivial⟩ trivial trivial trivial) (z9n φ) Tryz.func53 (by kernel_rfl) (zq9 φ) (zqp φ)
def z5f (φ : Nat) : H TV (RTup TT [.val 0]) := .x
def z7q (P : Program) (φ : Nat) : Env TV := ⟨P, lk [(40, z3k φ), (53, z9t φ), (39, zbh φ)], lk [], lk [], lk []⟩
theorem zja (φ : Nat) (a) : (z7t φ).F a = fnX TV (z7q Tryz.prog φ) φ Tryz.f63 [7, 7] [.val 0] (z5f φ) a := by kernel_rfl
theorem ziz (φ : Nat) : fnO TV (z7q Tryz.prog φ) φ Tryz.f63 [.val 0] (z5f φ) := by
 unfold fnO
 show obl _ _ _ _ _ _ _
 unfold z5f
 repeat' (first | exact trivial | (refine ⟨?_, ?_⟩) | (intro _) | kernel_rfl)
theorem zj9 [Dr] (φ : Nat) : z0s TV Tryz.prog 63 (z7t φ) :=
 z1f (N := z7q Tryz.prog φ) (zg ⟨z5k φ, ziw φ, zfj φ, trivial⟩ trivial trivial trivial) (z5f φ) Tryz.func63 (by kernel_rfl) (zja φ) (ziz φ)
def zfi (φ : Nat) : H TV (RTup TT [.val 9]) := .x
def zjj (P : Program) (φ : Nat) : Env TV := ⟨P, lk [], lk [], lk [], lk []⟩
theorem zx1 (φ : Nat) (a) : (z9m φ).F a = fnX TV (zjj Tryz.prog φ) φ Tryz.f47 [2] [.val 9] (zfi φ) a := by kernel_rfl
theorem zw2 (φ : Nat) : fnO TV (zjj Tryz.prog φ) φ Tryz.f47 [.val 9] (zfi φ) := by
 unfold fnO
 show obl _ _ _ _ _ _ _
 unfold zfi
 repeat' (first | exact trivial | (refine ⟨?_, ?_⟩) | (intro _) | kernel_rfl)
theorem zfx [Dr] (φ : Nat) : z0s TV Tryz.prog 47 (z9m φ) :=
 z1f (N := zjj Tryz.prog φ) (zg trivial trivial trivial trivial) (zfi φ) Tryz.func47 (by kernel_rfl) (zx1 φ) (zw2 φ)
def z6f (φ : Nat) : H TV (RTup TT [.val 12]) := (.seq .x (.seq .x (.seq (.seq .x (.body (.loop ⟨[(80, [(1, .val 0), (5, .own 0), (14, .val 10), (15, .val 0), (16, .val 0)])], [.row 57 7]⟩ (fun n z => z1e φ n z.1 z.2.1 z.2.2.1 z.2.2.2.1 z.2.2.2.2.1) (fun zk8 => .x)))) (.seq .x (.seq .x (.seq (.seq .x (.body (.loop ⟨[(80, [(8, .own 0), (39, .own 1), (40, .val 0), (41, .val 0)])], [.map 9 11 0, .row 57 7]⟩ (fun n z => z0f φ n z.1 z.2.1 z.2.2.1 z.2.2.2.1) (fun zk14 => (.seq .x (.seq .x (.seq (.body (.seq .x (.seq .x (.body (.loop ⟨[(80, [(8, .own 0), (10, .ptr 1 0), (39, .own 2), (40, .val 0), (41, .val 0), (47, .val 5), (48, .val 0), (49, .val 0)])], [.map 9 11 0, .box 57 [.val 7], .row 57 7]⟩ (fun n z => zp φ (fun a0 a1 a2 a3 => zk14 (a0, a1, a2, a3, ())) n z.1 z.2.1 z.2.2.1 z.2.2.2.1 z.2.2.2.2.1 z.2.2.2.2.2.1 z.2.2.2.2.2.2.1 z.2.2.2.2.2.2.2.1) (fun zk23 => (.seq .x (.seq .x (.seq (.body (.seq .x (.seq .x (.seq (.seq .x (.cond (.seq (.foc (8, none) (54, none) .x) .x) .x)) (.seq (.seq (.foc (8, none) (54, none) .x) .x) .x))))) .x))))))))) .x))))))) .x))))))
def z99 (P : Program) (φ : Nat) : Env TV := ⟨P, lk [(63, z7t φ), (47, z9m φ)], lk [(52, z3l φ)], lk [], lk []⟩
theorem zkz (φ : Nat) (a) : (z58 φ).F a = fnX TV (z99 Tryz.prog φ) φ Tryz.f35 [10, 0] [.val 12] (z6f φ) a := by kernel_rfl
theorem zlt (φ : Nat) : fnO TV (z99 Tryz.prog φ) φ Tryz.f35 [.val 12] (z6f φ) := by
 unfold fnO
 show obl _ _ _ _ _ _ _
 unfold z6f
 repeat' (first | exact trivial | (refine ⟨?_, ?_⟩) | (intro _) | kernel_rfl)
theorem z9d [Dr] (φ : Nat) : z0s TV Tryz.prog 35 (z58 φ) :=
 z1f (N := z99 Tryz.prog φ) (zg ⟨zj9 φ, zfx φ, trivial⟩ ⟨(z8f φ), trivial⟩ trivial trivial) (z6f φ) Tryz.func35 (by kernel_rfl) (zkz φ) (zlt φ)
def z3e (φ : Nat) : H TV (RTup TT [.val 2]) := .x
def z5l (P : Program) (φ : Nat) : Env TV := ⟨P, lk [], lk [], lk [], lk []⟩
theorem zfs (φ : Nat) (a) : (z3j φ).F a = fnX TV (z5l Tryz.prog φ) φ Tryz.f36 [9] [.val 2] (z3e φ) a := by kernel_rfl
theorem zf3 (φ : Nat) : fnO TV (z5l Tryz.prog φ) φ Tryz.f36 [.val 2] (z3e φ) := by
 unfold fnO
 show obl _ _ _ _ _ _ _
 unfold z3e
 repeat' (first | exact trivial | (refine ⟨?_, ?_⟩) | (intro _) | kernel_rfl)
theorem z8t [Dr] (φ : Nat) : z0s TV Tryz.prog 36 (z3j φ) :=
 z1f (N := z5l Tryz.prog φ) (zg trivial trivial trivial trivial) (z3e φ) Tryz.func36 (by kernel_rfl) (zfs φ) (zf3 φ)
theorem yac : SoOK TV Tryz.prog 44 ⟨72, 0, 1, 3⟩ :=
 yf1 (V := TV) (ρ := Tryz.sortedK_ren) (σ := Tryz.keysK_ren) (τ := Tryz.lays189_ren) Tryz.sortedK Tryz.keysK Tryz.lays189 (kc := 0) (vc := 1) (E := 3) (fun n : Int => n) (fun _ => rfl) (fun _ => rfl) (fun _ => rfl) (by kernel_rfl) rfl rfl (enters_of Tryz.func71 (by kernel_rfl) rfl) (enters_of Tryz.func72 (by kernel_rfl) rfl)
def z6m (φ : Nat) : H TV (RTup TT [.val 14]) := (.seq .x (.seq .x (.seq .x (.seq (.seq .x (.body (.loop ⟨[(41, [(8, .own 0), (9, .ptr 1 0), (10, .val 11), (23, .own 2), (24, .val 0), (25, .val 0)])], [.row 73 13, .box 88 [.val 9], .row 3 0]⟩ (fun n z => z2b φ n z.1 z.2.1 z.2.2.1 z.2.2.2.1 z.2.2.2.2.1 z.2.2.2.2.2.1) (fun zk12 => .x)))) .x))))
def z9a (P : Program) (φ : Nat) : Env TV := ⟨P, lk [(35, z58 φ), (36, z3j φ)], lk [], lk [], lk [(44, ⟨72, 0, 1, 3⟩)]⟩
theorem zle (φ : Nat) (a) : (z6q φ).F a = fnX TV (z9a Tryz.prog φ) φ Tryz.f16 [10, 0, 0, 0] [.val 14] (z6m φ) a := by kernel_rfl
theorem zm3 (φ : Nat) : fnO TV (z9a Tryz.prog φ) φ Tryz.f16 [.val 14] (z6m φ) := by
 unfold fnO
 show obl _ _ _ _ _ _ _
 unfold z6m
 repeat' (first | exact trivial | (refine ⟨?_, ?_⟩) | (intro _) | kernel_rfl)
theorem zex (φ : Nat) : z0s TV Tryz.prog 16 (z6q φ) :=
 z1f (N := z9a Tryz.prog φ) (zg ⟨z9d φ, z8t φ, trivial⟩ trivial trivial ⟨yac, trivial⟩) (z6m φ) Tryz.func16 (by kernel_rfl) (zle φ) (zm3 φ)
def z89 (φ : Nat) : H TV (RTup TT [.val 13]) := .x
def zc4 (P : Program) (φ : Nat) : Env TV := ⟨P, lk [(26, zd9 φ)], lk [], lk [], lk []⟩
theorem zpy (φ : Nat) (a) : (zbq φ).F a = fnX TV (zc4 Tryz.prog φ) φ Tryz.f33 [0, 1] [.val 13] (z89 φ) a := by kernel_rfl
theorem zo5 (φ : Nat) : fnO TV (zc4 Tryz.prog φ) φ Tryz.f33 [.val 13] (z89 φ) := by
 unfold fnO
 show obl _ _ _ _ _ _ _
 unfold z89
 repeat' (first | exact trivial | (refine ⟨?_, ?_⟩) | (intro _) | kernel_rfl)
theorem zpr [Dr] (φ : Nat) : z0s TV Tryz.prog 33 (zbq φ) :=
 z1f (N := zc4 Tryz.prog φ) (zg ⟨zmf φ, trivial⟩ trivial trivial trivial) (z89 φ) Tryz.func33 (by kernel_rfl) (zpy φ) (zo5 φ)
def z52 (φ : Nat) : H TV (RTup TT [.val 1]) := (.seq .x (.seq .x (.seq (.seq .x (.body (.loop ⟨[(26, [(0, .val 14), (1, .val 14), (5, .val 0)])], []⟩ (fun n z => z12 φ n z.1 z.2.1 z.2.2.1) (fun zk6 => .x)))) .x)))
def z6w (P : Program) (φ : Nat) : Env TV := ⟨P, lk [], lk [], lk [], lk []⟩
theorem zig (φ : Nat) (a) : (z54 φ).F a = fnX TV (z6w Tryz.prog φ) φ Tryz.f15 [14, 14] [.val 1] (z52 φ) a := by kernel_rfl
theorem zij (φ : Nat) : fnO TV (z6w Tryz.prog φ) φ Tryz.f15 [.val 1] (z52 φ) := by
 unfold fnO
 show obl _ _ _ _ _ _ _
 unfold z52
 repeat' (first | exact trivial | (refine ⟨?_, ?_⟩) | (intro _) | kernel_rfl)
theorem zb8 [Dr] (φ : Nat) : z0s TV Tryz.prog 15 (z54 φ) :=
 z1f (N := z6w Tryz.prog φ) (zg trivial trivial trivial trivial) (z52 φ) Tryz.func15 (by kernel_rfl) (zig φ) (zij φ)
def z6o (φ : Nat) : H TV (RTup TT [.val 0]) := .x
def z9k (P : Program) (φ : Nat) : Env TV := ⟨P, lk [(40, z3k φ), (39, zbh φ)], lk [], lk [], lk []⟩
theorem zl2 (φ : Nat) (a) : (z9c φ).F a = fnX TV (z9k Tryz.prog φ) φ Tryz.f38 [2, 2] [.val 0] (z6o φ) a := by kernel_rfl
theorem zls (φ : Nat) : fnO TV (z9k Tryz.prog φ) φ Tryz.f38 [.val 0] (z6o φ) := by
 unfold fnO
 show obl _ _ _ _ _ _ _
 unfold z6o
 repeat' (first | exact trivial | (refine ⟨?_, ?_⟩) | (intro _) | kernel_rfl)
theorem zeu [Dr] (φ : Nat) : z0s TV Tryz.prog 38 (z9c φ) :=
 z1f (N := z9k Tryz.prog φ) (zg ⟨z5k φ, zfj φ, trivial⟩ trivial trivial trivial) (z6o φ) Tryz.func38 (by kernel_rfl) (zl2 φ) (zls φ)
def zro : Msp TV := ⟨24, 2, [.fn 38], fun l _ => zi3 l⟩
theorem zzy [Dr] : zbr TV Tryz.prog 37 zro :=
 y0x (V := TV) (c := 2) (ρ := Tryz.sortEv_ren) Tryz.sortEv Tryz.isAgg24 (by rw [show TV.sz 2 = 3 by kernel_rfl]; exact Tryz.sizeOf24) (by kernel_rfl) (by kernel_rfl) ⟨Tryz.f38, Tryz.func38, by kernel_rfl, by kernel_rfl⟩ y06 fun a b ha hb =>
  @zff.mono ⟨True⟩ _ _ _ _ _ (@zeu ⟨True⟩ 10 (a, b, ()) (zba a b, ()) (zwy a b)) fun x news ⟨B, hB, h1, h2⟩ => by
   cases B with
   | nil => exact ⟨h1, h2⟩
   | cons y B => cases hB
theorem zpz (φ : Nat) (z z' : Sh.Z TT (⟨[(34, [(1, .val 0), (6, .own 0), (12, .own 1)])], [.row 24 2, .it 9 11]⟩ : Sh)) (h : Sh.eqZ TT (⟨[(34, [(1, .val 0), (6, .own 0), (12, .own 1)])], [.row 24 2, .it 9 11]⟩ : Sh) z z') (hok : ∀ o ∈ (Sh.enc TV (⟨[(34, [(1, .val 0), (6, .own 0), (12, .own 1)])], [.row 24 2, .it 9 11]⟩ : Sh) z).ob, okO TV o) : ∀ n, z00 φ (zi φ n) z'.1 z'.2.1 z'.2.2.1 = z00 φ (zi φ n) z.1 z.2.1 z.2.2.1 := by
 obtain ⟨a, b, c, u⟩ := z
 obtain ⟨a', b', c', u'⟩ := z'
 have h : a = a' /\ b = b' /\ c.Perm c' /\ True := h
 obtain ⟨rfl, rfl, hp, _⟩ := h
 exact fun n => (zqv φ hp (n + 1) a b).symm
def z87 (φ : Nat) : H TV (RTup TT [.val 5]) := (.seq .x (.seq (.seq .x (.body (.loop ⟨[(34, [(1, .val 0), (6, .own 0), (12, .own 1)])], [.row 24 2, .it 9 11]⟩ (fun n z => zi φ n z.1 z.2.1 z.2.2.1) (fun zk8 => (.seq (.pk ⟨[(34, [(1, .val 0), (6, .own 0), (12, .own 1)])], [.row 24 2, .it 9 11]⟩ (fun z => z00 φ (fun a0 a1 a2 => zk8 (a0, a1, a2, ())) z.1 z.2.1 z.2.2.1)) .x))))) .x))
def zcr (P : Program) (φ : Nat) : Env TV := ⟨P, lk [(35, z58 φ), (36, z3j φ), (38, z9c φ)], lk [(37, zro)], lk [], lk []⟩
theorem zpp (φ : Nat) (a) : (z8p φ).F a = fnX TV (zcr Tryz.prog φ) φ Tryz.f13 [10, 0, 0] [.val 5] (z87 φ) a := by kernel_rfl
theorem zps (φ : Nat) : fnO TV (zcr Tryz.prog φ) φ Tryz.f13 [.val 5] (z87 φ) := by
 unfold fnO
 show obl _ _ _ _ _ _ _
 unfold z87
 repeat' (first | exact trivial | (refine ⟨?_, ?_⟩) | (intro _) | (rename_i h1 h2; have q := zpz φ _ _ h1 h2; exact q _) | kernel_rfl)
theorem zh2 [Dr] (φ : Nat) : z0s TV Tryz.prog 13 (z8p φ) :=
 z1f (N := zcr Tryz.prog φ) (zg ⟨z9d φ, z8t φ, zeu φ, trivial⟩ ⟨(zzy), trivial⟩ trivial trivial) (z87 φ) Tryz.func13 (by kernel_rfl) (zpp φ) (zps φ)
def z6j (φ : Nat) : H TV (RTup TT [.val 1]) := (.seq .x (.seq .x (.seq (.seq .x (.body (.loop ⟨[(26, [(0, .val 5), (1, .val 5), (5, .val 0)])], []⟩ (fun n z => z30 φ n z.1 z.2.1 z.2.2.1) (fun zk6 => .x)))) .x)))
def z9f (P : Program) (φ : Nat) : Env TV := ⟨P, lk [], lk [], lk [], lk []⟩
theorem zlq (φ : Nat) (a) : (z6k φ).F a = fnX TV (z9f Tryz.prog φ) φ Tryz.f12 [5, 5] [.val 1] (z6j φ) a := by kernel_rfl
theorem zlr (φ : Nat) : fnO TV (z9f Tryz.prog φ) φ Tryz.f12 [.val 1] (z6j φ) := by
 unfold fnO
 show obl _ _ _ _ _ _ _
 unfold z6j
 repeat' (first | exact trivial | (refine ⟨?_, ?_⟩) | (intro _) | kernel_rfl)
theorem zeq [Dr] (φ : Nat) : z0s TV Tryz.prog 12 (z6k φ) :=
 z1f (N := z9f Tryz.prog φ) (zg trivial trivial trivial trivial) (z6j φ) Tryz.func12 (by kernel_rfl) (zlq φ) (zlr φ)
def z9u (φ : Nat) : H TV (RTup TT [.val 7]) := .x
def ze2 (P : Program) (φ : Nat) : Env TV := ⟨P, lk [], lk [], lk [], lk []⟩
theorem zqj (φ : Nat) (a) : (zdx φ).F a = fnX TV (ze2 Tryz.prog φ) φ Tryz.f24 [0, 0, 0] [.val 7] (z9u φ) a := by kernel_rfl
theorem zqt (φ : Nat) : fnO TV (ze2 Tryz.prog φ) φ Tryz.f24 [.val 7] (z9u φ) := by
 unfold fnO
 show obl _ _ _ _ _ _ _
 unfold z9u
 repeat' (first | exact trivial | (refine ⟨?_, ?_⟩) | (intro _) | kernel_rfl)
theorem zq8 [Dr] (φ : Nat) : z0s TV Tryz.prog 24 (zdx φ) :=
 z1f (N := ze2 Tryz.prog φ) (zg trivial trivial trivial trivial) (z9u φ) Tryz.func24 (by kernel_rfl) (zqj φ) (zqt φ)
theorem zn9 (φ : Nat) (z z' : Sh.Z TT (⟨[(16, [(0, .own 0), (7, .own 1)]), (50, [(1, .val 0), (5, .val 12), (6, .own 0), (15, .val 10), (16, .val 0), (17, .val 0), (33, .val 5), (34, .val 0), (35, .val 0)])], [.map 0 1 0, .it 0 1]⟩ : Sh)) (h : Sh.eqZ TT (⟨[(16, [(0, .own 0), (7, .own 1)]), (50, [(1, .val 0), (5, .val 12), (6, .own 0), (15, .val 10), (16, .val 0), (17, .val 0), (33, .val 5), (34, .val 0), (35, .val 0)])], [.map 0 1 0, .it 0 1]⟩ : Sh) z z') (hok : ∀ o ∈ (Sh.enc TV (⟨[(16, [(0, .own 0), (7, .own 1)]), (50, [(1, .val 0), (5, .val 12), (6, .own 0), (15, .val 10), (16, .val 0), (17, .val 0), (33, .val 5), (34, .val 0), (35, .val 0)])], [.map 0 1 0, .it 0 1]⟩ : Sh) z).ob, okO TV o) : ∀ k n, z1k φ k (zo φ k n) z'.1 z'.2.1 z'.2.2.1 z'.2.2.2.1 z'.2.2.2.2.1 z'.2.2.2.2.2.1 z'.2.2.2.2.2.2.1 z'.2.2.2.2.2.2.2.1 z'.2.2.2.2.2.2.2.2.1 z'.2.2.2.2.2.2.2.2.2.1 = z1k φ k (zo φ k n) z.1 z.2.1 z.2.2.1 z.2.2.2.1 z.2.2.2.2.1 z.2.2.2.2.2.1 z.2.2.2.2.2.2.1 z.2.2.2.2.2.2.2.1 z.2.2.2.2.2.2.2.2.1 z.2.2.2.2.2.2.2.2.2.1 := by
 obtain ⟨a, b, c, d, e, f, g, i, m, x, u⟩ := z
 obtain ⟨a', b', c', d', e', f', g', i', m', x', u'⟩ := z'
 have h : a = a' /\ b = b' /\ c = c' /\ d = d' /\ e = e' /\ f = f' /\ g = g' /\ i = i' /\ m = m' /\ x.Perm x' /\ True := h
 obtain ⟨rfl, rfl, rfl, rfl, rfl, rfl, rfl, rfl, rfl, hp, _⟩ := h
 have hok : ∀ o ∈ [(SO.x (.map 0 1 0 m none) : SO TT), .x (.it 0 1 x none)], okO TV o := hok
 have hm : Srt' kl_0 m := hok (.x (.map 0 1 0 m none)) (by simp)
 have hd : Ndp kl_0 x := hok (.x (.it 0 1 x none)) (by simp)
 exact fun k n => (zni φ hp hd k (n + 1) a b c d e f g i m hm).symm
def z73 (φ : Nat) : H TV (RTup TT [.val 8]) := (.seq .x (.seq .x (.seq .x (.seq (.seq .x (.body (.loop ⟨[(50, [(1, .val 0), (5, .val 12), (6, .own 0), (15, .val 10), (16, .val 0), (17, .val 0)])], [.map 0 1 0]⟩ (fun n z => z0k φ n z.1 z.2.1 z.2.2.1 z.2.2.2.1 z.2.2.2.2.1 z.2.2.2.2.2.1) (fun zk10 => (.seq .x (.seq .x (.seq (.body (.seq .x (.seq .x (.seq .x (.body (.loop ⟨[(50, [(1, .val 0), (5, .val 12), (6, .own 0), (15, .val 10), (16, .val 0), (17, .val 0), (33, .val 5), (34, .val 0), (35, .val 0)])], [.map 0 1 0]⟩ (fun n z => z0i φ (fun a0 a1 a2 a3 a4 a5 => zk10 (a0, a1, a2, a3, a4, a5, ())) n z.1 z.2.1 z.2.2.1 z.2.2.2.1 z.2.2.2.2.1 z.2.2.2.2.2.1 z.2.2.2.2.2.2.1 z.2.2.2.2.2.2.2.1 z.2.2.2.2.2.2.2.2.1) (fun zk20 => (.seq .x (.seq .x (.seq (.body (.seq .x (.ins 5 46 (.seq .x (.body (.loop ⟨[(16, [(0, .own 0), (7, .own 1)]), (50, [(1, .val 0), (5, .val 12), (6, .own 0), (15, .val 10), (16, .val 0), (17, .val 0), (33, .val 5), (34, .val 0), (35, .val 0)])], [.map 0 1 0, .it 0 1]⟩ (fun n z => zo φ (fun a0 a1 a2 a3 a4 a5 a6 a7 a8 => zk20 (a0, a1, a2, a3, a4, a5, a6, a7, a8, ())) n z.1 z.2.1 z.2.2.1 z.2.2.2.1 z.2.2.2.2.1 z.2.2.2.2.2.1 z.2.2.2.2.2.2.1 z.2.2.2.2.2.2.2.1 z.2.2.2.2.2.2.2.2.1 z.2.2.2.2.2.2.2.2.2.1) (fun zk32 => (.seq (.pk ⟨[(16, [(0, .own 0), (7, .own 1)]), (50, [(1, .val 0), (5, .val 12), (6, .own 0), (15, .val 10), (16, .val 0), (17, .val 0), (33, .val 5), (34, .val 0), (35, .val 0)])], [.map 0 1 0, .it 0 1]⟩ (fun z => z1k φ (fun a0 a1 a2 a3 a4 a5 a6 a7 a8 => zk20 (a0, a1, a2, a3, a4, a5, a6, a7, a8, ())) (fun a0 a1 a2 a3 a4 a5 a6 a7 a8 a9 => zk32 (a0, a1, a2, a3, a4, a5, a6, a7, a8, a9, ())) z.1 z.2.1 z.2.2.1 z.2.2.2.1 z.2.2.2.2.1 z.2.2.2.2.2.1 z.2.2.2.2.2.2.1 z.2.2.2.2.2.2.2.1 z.2.2.2.2.2.2.2.2.1 z.2.2.2.2.2.2.2.2.2.1)) .x))))) .x))) .x)))))))))) .x))))))) .x))))
def zav (P : Program) (φ : Nat) : Env TV := ⟨P, lk [(35, z58 φ), (47, z9m φ)], lk [], lk [], lk [(44, ⟨72, 0, 1, 3⟩)]⟩
theorem zn8 (φ : Nat) (a) : (z7i φ).F a = fnX TV (zav Tryz.prog φ) φ Tryz.f19 [10, 0] [.val 8] (z73 φ) a := by kernel_rfl
theorem zno (φ : Nat) : fnO TV (zav Tryz.prog φ) φ Tryz.f19 [.val 8] (z73 φ) := by
 unfold fnO
 show obl _ _ _ _ _ _ _
 unfold z73
 repeat' (first | exact trivial | (refine ⟨?_, ?_⟩) | (intro _) | (rename_i h1 h2; have q := zn9 φ _ _ h1 h2; exact q _ _) | kernel_rfl)
theorem zg2 (φ : Nat) : z0s TV Tryz.prog 19 (z7i φ) :=
 z1f (N := zav Tryz.prog φ) (zg ⟨z9d φ, zfx φ, trivial⟩ trivial trivial ⟨yac, trivial⟩) (z73 φ) Tryz.func19 (by kernel_rfl) (zn8 φ) (zno φ)
def z79 (φ : Nat) : H TV (RTup TT [.val 1]) := (.seq .x (.seq .x (.seq (.seq .x (.body (.loop ⟨[(26, [(0, .val 8), (1, .val 8), (5, .val 0)])], []⟩ (fun n z => z3t φ n z.1 z.2.1 z.2.2.1) (fun zk6 => .x)))) .x)))
def zaa (P : Program) (φ : Nat) : Env TV := ⟨P, lk [], lk [], lk [], lk []⟩
theorem znk (φ : Nat) (a) : (z7j φ).F a = fnX TV (zaa Tryz.prog φ) φ Tryz.f18 [8, 8] [.val 1] (z79 φ) a := by kernel_rfl
theorem zmw (φ : Nat) : fnO TV (zaa Tryz.prog φ) φ Tryz.f18 [.val 1] (z79 φ) := by
 unfold fnO
 show obl _ _ _ _ _ _ _
 unfold z79
 repeat' (first | exact trivial | (refine ⟨?_, ?_⟩) | (intro _) | kernel_rfl)
theorem zfy [Dr] (φ : Nat) : z0s TV Tryz.prog 18 (z7j φ) :=
 z1f (N := zaa Tryz.prog φ) (zg trivial trivial trivial trivial) (z79 φ) Tryz.func18 (by kernel_rfl) (znk φ) (zmw φ)
def zdc (φ : Nat) : H TV (RTup TT [.val 39]) := (.seq .x (.seq .x (.seq .x (.seq (.seq .x (.body (.loop ⟨[(30, [(0, .ptr 0 0), (1, .ptr 1 0), (2, .val 0)])], [.box 51 [.own 2, .own 3, .own 4, .own 5, .own 6, .own 7, .own 8, .own 9, .own 10], .box 51 [.own 11, .own 12, .own 13, .own 14, .own 15, .own 16, .own 17, .own 18, .own 19], .row 129 15, .row 147 17, .row 131 21, .row 80 23, .row 182 25, .row 186 27, .row 142 30, .row 145 32, .row 112 37, .row 129 15, .row 147 17, .row 131 21, .row 80 23, .row 182 25, .row 186 27, .row 142 30, .row 145 32, .row 112 37]⟩ (fun n z => zel φ n z.1 z.2.1 z.2.2.1 z.2.2.2.1 z.2.2.2.2.1 z.2.2.2.2.2.1 z.2.2.2.2.2.2.1 z.2.2.2.2.2.2.2.1 z.2.2.2.2.2.2.2.2.1 z.2.2.2.2.2.2.2.2.2.1 z.2.2.2.2.2.2.2.2.2.2.1 z.2.2.2.2.2.2.2.2.2.2.2.1 z.2.2.2.2.2.2.2.2.2.2.2.2.1 z.2.2.2.2.2.2.2.2.2.2.2.2.2.1 z.2.2.2.2.2.2.2.2.2.2.2.2.2.2.1 z.2.2.2.2.2.2.2.2.2.2.2.2.2.2.2.1 z.2.2.2.2.2.2.2.2.2.2.2.2.2.2.2.2.1 z.2.2.2.2.2.2.2.2.2.2.2.2.2.2.2.2.2.1 z.2.2.2.2.2.2.2.2.2.2.2.2.2.2.2.2.2.2.1) (fun zk20 => .x)))) .x))))
def zgx (P : Program) (φ : Nat) : Env TV := ⟨P, lk [], lk [], lk [], lk []⟩
theorem zvp (φ : Nat) (a) : (zhq φ).F a = fnX TV (zgx Tryz.prog φ) φ Tryz.f34 [] [.val 39] (zdc φ) a := by kernel_rfl
theorem zvl (φ : Nat) : fnO TV (zgx Tryz.prog φ) φ Tryz.f34 [.val 39] (zdc φ) := by
 unfold fnO
 show obl _ _ _ _ _ _ _
 unfold zdc
 repeat' (first | exact trivial | (refine ⟨?_, ?_⟩) | (intro _) | kernel_rfl)
theorem zv7 [Dr] (φ : Nat) : z0s TV Tryz.prog 34 (zhq φ) :=
 z1f (N := zgx Tryz.prog φ) (zg trivial trivial trivial trivial) (zdc φ) Tryz.func34 (by kernel_rfl) (zvp φ) (zvl φ)
def z8o (φ : Nat) : H TV (RTup TT [.val 1]) := .x
def zca (P : Program) (φ : Nat) : Env TV := ⟨P, lk [], lk [], lk [], lk []⟩
theorem zog (φ : Nat) (a) : (zc2 φ).F a = fnX TV (zca Tryz.prog φ) φ Tryz.f111 [15] [.val 1] (z8o φ) a := by kernel_rfl
theorem zod (φ : Nat) : fnO TV (zca Tryz.prog φ) φ Tryz.f111 [.val 1] (z8o φ) := by
 unfold fnO
 show obl _ _ _ _ _ _ _
 unfold z8o
 repeat' (first | exact trivial | (refine ⟨?_, ?_⟩) | (intro _) | kernel_rfl)
theorem zq7 [Dr] (φ : Nat) : z0s TV Tryz.prog 111 (zc2 φ) :=
 z1f (N := zca Tryz.prog φ) (zg trivial trivial trivial trivial) (z8o φ) Tryz.func111 (by kernel_rfl) (zog φ) (zod φ)
def z8a (φ : Nat) : H TV (RTup TT [.val 0]) := (.seq .x (.seq .x (.seq .x (.seq (.seq .x (.body (.loop ⟨[(84, [(1, .ptr 0 0), (3, .val 0), (20, .val 16), (21, .val 0), (22, .val 0)])], [.box 40 [.val 19]]⟩ (fun n z => zax φ n z.1 z.2.1 z.2.2.1 z.2.2.2.1 z.2.2.2.2.1) (fun zk7 => .x)))) (.seq (.seq .x (.body (.loop ⟨[(84, [(3, .val 0), (31, .val 18), (32, .val 0), (33, .val 0)])], []⟩ (fun n z => z96 φ n z.1 z.2.1 z.2.2.1 z.2.2.2.1) (fun zk13 => .x)))) .x)))))
def zc0 (P : Program) (φ : Nat) : Env TV := ⟨P, lk [(111, zc2 φ)], lk [], lk [], lk []⟩
theorem zp8 (φ : Nat) (a) : (zbu φ).F a = fnX TV (zc0 Tryz.prog φ) φ Tryz.f73 [19] [.val 0] (z8a φ) a := by kernel_rfl
theorem zpt (φ : Nat) : fnO TV (zc0 Tryz.prog φ) φ Tryz.f73 [.val 0] (z8a φ) := by
 unfold fnO
 show obl _ _ _ _ _ _ _
 unfold z8a
 repeat' (first | exact trivial | (refine ⟨?_, ?_⟩) | (intro _) | kernel_rfl)
theorem zoi [Dr] (φ : Nat) : z0s TV Tryz.prog 73 (zbu φ) :=
 z1f (N := zc0 Tryz.prog φ) (zg ⟨zq7 φ, trivial⟩ trivial trivial trivial) (z8a φ) Tryz.func73 (by kernel_rfl) (zp8 φ) (zpt φ)
def z8e (φ : Nat) : H TV (RTup TT [.val 1]) := .x
def zcn (P : Program) (φ : Nat) : Env TV := ⟨P, lk [], lk [], lk [], lk []⟩
theorem zo7 (φ : Nat) (a) : (z8m φ).F a = fnX TV (zcn Tryz.prog φ) φ Tryz.f75 [0, 0, 0] [.val 1] (z8e φ) a := by kernel_rfl
theorem zp1 (φ : Nat) : fnO TV (zcn Tryz.prog φ) φ Tryz.f75 [.val 1] (z8e φ) := by
 unfold fnO
 show obl _ _ _ _ _ _ _
 unfold z8e
 repeat' (first | exact trivial | (refine ⟨?_, ?_⟩) | (intro _) | kernel_rfl)
theorem zgd [Dr] (φ : Nat) : z0s TV Tryz.prog 75 (z8m φ) :=
 z1f (N := zcn Tryz.prog φ) (zg trivial trivial trivial trivial) (z8e φ) Tryz.func75 (by kernel_rfl) (zo7 φ) (zp1 φ)
def zbi (φ : Nat) : H TV (RTup TT [.val 0]) := (.seq .x (.seq .x (.seq .x (.seq .x (.seq (.seq .x (.body (.loop ⟨[(206, [(1, .ptr 0 0), (3, .ptr 1 0), (4, .func 112 [.ptr 1 0]), (41, .val 22), (42, .val 0), (43, .val 0)])], [.box 46 [.val 29], .box 59 [.val 0]]⟩ (fun n z => zeg φ n z.1 z.2.1 z.2.2.1 z.2.2.2.1 z.2.2.2.2.1) (fun zk7 => (.seq .x (.seq .x (.seq (.body (.seq .x (.seq (.seq .x (.body (.loop ⟨[(206, [(1, .ptr 0 0), (3, .ptr 1 0), (4, .func 112 [.ptr 1 0]), (6, .ptr 2 0), (41, .val 22), (42, .val 0), (43, .val 0), (55, .own 3), (56, .val 0), (57, .val 0)])], [.box 46 [.val 29], .box 59 [.val 0], .box 131 [.val 21], .row 3 0]⟩ (fun n z => z8w φ (fun a0 a1 a2 a3 a4 => zk7 (a0, a1, a2, a3, a4, ())) n z.1 z.2.1 z.2.2.1 z.2.2.2.1 z.2.2.2.2.1 z.2.2.2.2.2.1 z.2.2.2.2.2.2.1 z.2.2.2.2.2.2.2.1 z.2.2.2.2.2.2.2.2.1) (fun zk17 => .x)))) .x))) .x))))))) (.seq (.seq .x (.body (.loop ⟨[(206, [(1, .ptr 0 0), (3, .ptr 1 0), (4, .func 112 [.ptr 1 0]), (83, .val 24), (84, .val 0), (85, .val 0)])], [.box 46 [.val 29], .box 59 [.val 0]]⟩ (fun n z => z5e φ n z.1 z.2.1 z.2.2.1 z.2.2.2.1 z.2.2.2.2.1) (fun zk27 => .x)))) (.seq (.seq .x (.body (.loop ⟨[(206, [(1, .ptr 0 0), (3, .ptr 1 0), (4, .func 112 [.ptr 1 0]), (120, .val 26), (121, .val 0), (122, .val 0)])], [.box 46 [.val 29], .box 59 [.val 0]]⟩ (fun n z => z8d φ n z.1 z.2.1 z.2.2.1 z.2.2.2.1 z.2.2.2.2.1) (fun zk40 => .x)))) (.seq .x (.seq (.seq .x (.body (.loop ⟨[(206, [(3, .ptr 0 0), (4, .func 112 [.ptr 0 0]), (13, .ptr 1 0), (158, .val 28), (159, .val 0), (160, .val 0)])], [.box 59 [.val 0], .box 184 [.val 40]]⟩ (fun n z => z2q φ n z.1 z.2.1 z.2.2.1 z.2.2.2.1 z.2.2.2.2.1) (fun zk49 => .x)))) .x)))))))))
def zfm (P : Program) (φ : Nat) : Env TV := ⟨P, lk [(75, z8m φ)], lk [], lk [], lk []⟩
theorem zsh (φ : Nat) (a) : (zf2 φ).F a = fnX TV (zfm Tryz.prog φ) φ Tryz.f74 [29] [.val 0] (zbi φ) a := by kernel_rfl
theorem zsa (φ : Nat) : fnO TV (zfm Tryz.prog φ) φ Tryz.f74 [.val 0] (zbi φ) := by
 unfold fnO
 show obl _ _ _ _ _ _ _
 unfold zbi
 repeat' (first | exact trivial | (refine ⟨?_, ?_⟩) | (intro _) | kernel_rfl)
theorem zt0 [Dr] (φ : Nat) : z0s TV Tryz.prog 74 (zf2 φ) :=
 z1f (N := zfm Tryz.prog φ) (zg ⟨zgd φ, trivial⟩ trivial trivial trivial) (zbi φ) Tryz.func74 (by kernel_rfl) (zsh φ) (zsa φ)
def z7l (φ : Nat) : H TV (RTup TT [.val 0]) := (.seq .x (.seq (.seq .x (.body (.loop ⟨[(45, [(1, .ptr 0 0), (9, .val 35), (10, .val 0)])], [.box 109 [.val 36]]⟩ (fun n z => z9h φ n z.1 z.2.1 z.2.2.1) (fun zk5 => .x)))) (.seq .x (.seq (.seq .x (.body (.loop ⟨[(45, [(5, .val 0), (30, .val 8), (31, .val 0), (32, .val 0)])], []⟩ (fun n z => z86 φ n z.1 z.2.1 z.2.2.1 z.2.2.2.1) (fun zk10 => .x)))) .x))))
def za7 (P : Program) (φ : Nat) : Env TV := ⟨P, lk [], lk [], lk [], lk []⟩
theorem zmq (φ : Nat) (a) : (zb6 φ).F a = fnX TV (za7 Tryz.prog φ) φ Tryz.f76 [36] [.val 0] (z7l φ) a := by kernel_rfl
theorem zmr (φ : Nat) : fnO TV (za7 Tryz.prog φ) φ Tryz.f76 [.val 0] (z7l φ) := by
 unfold fnO
 show obl _ _ _ _ _ _ _
 unfold z7l
 repeat' (first | exact trivial | (refine ⟨?_, ?_⟩) | (intro _) | kernel_rfl)
theorem zng [Dr] (φ : Nat) : z0s TV Tryz.prog 76 (zb6 φ) :=
 z1f (N := za7 Tryz.prog φ) (zg trivial trivial trivial trivial) (z7l φ) Tryz.func76 (by kernel_rfl) (zmq φ) (zmr φ)
def zdp (φ : Nat) : H TV (RTup TT [.val 20, .val 20]) := .x
def zhv (P : Program) (φ : Nat) : Env TV := ⟨P, lk [], lk [], lk [], lk []⟩
theorem zu8 (φ : Nat) (a) : (zgs φ).F a = fnX TV (zhv Tryz.prog φ) φ Tryz.f171 [20, 20] [.val 20, .val 20] (zdp φ) a := by kernel_rfl
theorem zvs (φ : Nat) : fnO TV (zhv Tryz.prog φ) φ Tryz.f171 [.val 20, .val 20] (zdp φ) := by
 unfold fnO
 show obl _ _ _ _ _ _ _
 unfold zdp
 repeat' (first | exact trivial | (refine ⟨?_, ?_⟩) | (intro _) | kernel_rfl)
theorem zu9 [Dr] (φ : Nat) : z0s TV Tryz.prog 171 (zgs φ) :=
 z1f (N := zhv Tryz.prog φ) (zg trivial trivial trivial trivial) (zdp φ) Tryz.func171 (by kernel_rfl) (zu8 φ) (zvs φ)
def z4s (φ : Nat) : H TV (RTup TT [.val 0]) := (.seq .x (.seq (.ins 1 108 (.seq .x (.seq (.join ⟨[(25, [(0, .val 20), (2, .val 0)]), (6, [])], []⟩ (fun z => z5u φ z.1 z.2.1) (.seq .x .x)) (.seq (.join ⟨[(25, [(0, .val 20), (2, .val 0)]), (6, [])], []⟩ (fun z => z5x φ z.1 z.2.1) (.seq .x .x)) (.seq (.join ⟨[(25, [(0, .val 20), (2, .val 0)]), (6, [])], []⟩ (fun z => z5j φ z.1 z.2.1) (.seq .x .x)) .x)))) .x) .x))
def z6d (P : Program) (φ : Nat) : Env TV := ⟨P, lk [], lk [], lk [], lk []⟩
theorem zhk (φ : Nat) (a) : (z6a φ).F a = fnX TV (z6d Tryz.prog φ) φ Tryz.f183 [20] [.val 0] (z4s φ) a := by kernel_rfl
theorem zhs (φ : Nat) : fnO TV (z6d Tryz.prog φ) φ Tryz.f183 [.val 0] (z4s φ) := by
 unfold fnO
 show obl _ _ _ _ _ _ _
 unfold z4s
 repeat' (first | exact trivial | (refine ⟨?_, ?_⟩) | (intro _) | kernel_rfl)
theorem zhb [Dr] (φ : Nat) : z0s TV Tryz.prog 183 (z6a φ) :=
 z1f (N := z6d Tryz.prog φ) (zg trivial trivial trivial trivial) (z4s φ) Tryz.func183 (by kernel_rfl) (zhk φ) (zhs φ)
def zdn (φ : Nat) : H TV (RTup TT [.val 20, .val 20]) := (.seq .x (.seq .x (.seq .x (.seq .x (.seq .x (.seq .x (.seq .x (.seq .x (.seq .x (.seq .x (.seq .x (.seq .x (.seq .x (.seq .x (.seq (.join ⟨[(135, [(2, .val 20), (8, .val 20), (9, .val 20), (10, .val 20), (11, .val 20), (13, .val 20), (14, .val 20), (15, .val 20)])], []⟩ (fun z => zeh φ z.1 z.2.1 z.2.2.1 z.2.2.2.1 z.2.2.2.2.1 z.2.2.2.2.2.1 z.2.2.2.2.2.2.1 z.2.2.2.2.2.2.2.1) (.body (.loop ⟨[(135, [(2, .val 20), (8, .val 20), (9, .val 20), (10, .val 20), (11, .val 20), (13, .val 20), (14, .val 20), (15, .val 20), (16, .val 20)])], []⟩ (fun n z => ze7 φ n z.1 z.2.1 z.2.2.1 z.2.2.2.1 z.2.2.2.2.1 z.2.2.2.2.2.1 z.2.2.2.2.2.2.1 z.2.2.2.2.2.2.2.1 z.2.2.2.2.2.2.2.2.1) (fun zk40 => .x)))) (.seq .x (.seq .x (.seq .x (.seq (.join ⟨[(135, [(2, .val 20), (8, .val 20), (14, .val 20), (15, .val 20), (17, .val 20), (18, .val 20)])], []⟩ (fun z => zdv φ z.1 z.2.1 z.2.2.1 z.2.2.2.1 z.2.2.2.2.1 z.2.2.2.2.2.1) (.body (.loop ⟨[(135, [(2, .val 20), (8, .val 20), (9, .val 20), (10, .val 20), (14, .val 20), (15, .val 20), (16, .val 20), (17, .val 20), (18, .val 20)])], []⟩ (fun n z => zek φ n z.1 z.2.1 z.2.2.1 z.2.2.2.1 z.2.2.2.2.1 z.2.2.2.2.2.1 z.2.2.2.2.2.2.1 z.2.2.2.2.2.2.2.1 z.2.2.2.2.2.2.2.2.1) (fun zk30 => .x)))) .x)))))))))))))))))))
def zhp (P : Program) (φ : Nat) : Env TV := ⟨P, lk [(183, z6a φ)], lk [], lk [], lk []⟩
theorem zvz (φ : Nat) (a) : (zht φ).F a = fnX TV (zhp Tryz.prog φ) φ Tryz.f172 [20, 20, 20] [.val 20, .val 20] (zdn φ) a := by kernel_rfl
theorem zu4 (φ : Nat) : fnO TV (zhp Tryz.prog φ) φ Tryz.f172 [.val 20, .val 20] (zdn φ) := by
 unfold fnO
 show obl _ _ _ _ _ _ _
 unfold zdn
 repeat' (first | exact trivial | (refine ⟨?_, ?_⟩) | (intro _) | kernel_rfl)
theorem zux [Dr] (φ : Nat) : z0s TV Tryz.prog 172 (zht φ) :=
 z1f (N := zhp Tryz.prog φ) (zg ⟨zhb φ, trivial⟩ trivial trivial trivial) (zdn φ) Tryz.func172 (by kernel_rfl) (zvz φ) (zu4 φ)
def zhw (φ : Nat) : H TV (RTup TT [.val 20]) := (.seq .x (.seq .x (.seq .x (.seq (.seq (.ins 1 108 (.seq .x (.seq (.join ⟨[(25, [(0, .val 20), (2, .val 0)]), (33, [(0, .val 20), (1, .val 20), (5, .func 170 [.ptr 0 0]), (6, .val 20)])], [.box 110 [.val 20]]⟩ (fun z => zjc φ z.1 z.2.1 z.2.2.1 z.2.2.2.1 z.2.2.2.2.1 z.2.2.2.2.2.1) (.seq .x .x)) (.seq (.join ⟨[(25, [(0, .val 20), (2, .val 0)]), (33, [(0, .val 20), (1, .val 20), (5, .func 170 [.ptr 0 0]), (6, .val 20)])], [.box 110 [.val 20]]⟩ (fun z => zhu φ z.1 z.2.1 z.2.2.1 z.2.2.2.1 z.2.2.2.2.1 z.2.2.2.2.2.1) (.seq .x .x)) (.seq (.join ⟨[(25, [(0, .val 20), (2, .val 0)]), (33, [(0, .val 20), (1, .val 20), (5, .func 170 [.ptr 0 0]), (6, .val 20)])], [.box 110 [.val 20]]⟩ (fun z => zhg φ z.1 z.2.1 z.2.2.1 z.2.2.2.1 z.2.2.2.2.1 z.2.2.2.2.2.1) (.seq .x .x)) .x)))) .x) (.body (.loop ⟨[(33, [(0, .val 20), (1, .val 20), (5, .func 170 [.ptr 0 0]), (6, .val 20), (10, .val 0), (11, .val 0)])], [.box 110 [.val 20]]⟩ (fun n z => zdd φ n z.1 z.2.1 z.2.2.1 z.2.2.2.1 z.2.2.2.2.1 z.2.2.2.2.2.1) (fun zk30 => (.seq .x (.seq .x (.seq (.body (.seq .x (.seq .x (.seq (.ins 2 108 (.seq .x (.seq (.join ⟨[(25, [(0, .val 20), (2, .val 0)]), (33, [(0, .val 20), (1, .val 20), (5, .func 170 [.ptr 0 0]), (6, .val 20), (7, .val 0), (10, .val 0), (11, .val 0), (18, .val 20)])], [.box 110 [.val 20]]⟩ (fun z => zgt φ (fun a0 a1 a2 a3 a4 a5 => zk30 (a0, a1, a2, a3, a4, a5, ())) z.1 z.2.1 z.2.2.1 z.2.2.2.1 z.2.2.2.2.1 z.2.2.2.2.2.1 z.2.2.2.2.2.2.1 z.2.2.2.2.2.2.2.1 z.2.2.2.2.2.2.2.2.1 z.2.2.2.2.2.2.2.2.2.1) (.seq .x .x)) (.seq (.join ⟨[(25, [(0, .val 20), (2, .val 0)]), (33, [(0, .val 20), (1, .val 20), (5, .func 170 [.ptr 0 0]), (6, .val 20), (7, .val 0), (10, .val 0), (11, .val 0), (18, .val 20)])], [.box 110 [.val 20]]⟩ (fun z => zh5 φ (fun a0 a1 a2 a3 a4 a5 => zk30 (a0, a1, a2, a3, a4, a5, ())) z.1 z.2.1 z.2.2.1 z.2.2.2.1 z.2.2.2.2.1 z.2.2.2.2.2.1 z.2.2.2.2.2.2.1 z.2.2.2.2.2.2.2.1 z.2.2.2.2.2.2.2.2.1 z.2.2.2.2.2.2.2.2.2.1) (.seq .x .x)) (.seq (.join ⟨[(25, [(0, .val 20), (2, .val 0)]), (33, [(0, .val 20), (1, .val 20), (5, .func 170 [.ptr 0 0]), (6, .val 20), (7, .val 0), (10, .val 0), (11, .val 0), (18, .val 20)])], [.box 110 [.val 20]]⟩ (fun z => zhe φ (fun a0 a1 a2 a3 a4 a5 => zk30 (a0, a1, a2, a3, a4, a5, ())) z.1 z.2.1 z.2.2.1 z.2.2.2.1 z.2.2.2.2.1 z.2.2.2.2.2.1 z.2.2.2.2.2.2.1 z.2.2.2.2.2.2.2.1 z.2.2.2.2.2.2.2.2.1 z.2.2.2.2.2.2.2.2.2.1) (.seq .x .x)) .x)))) .x) .x)))) .x))))))) .x))))
def zlw (P : Program) (φ : Nat) : Env TV := ⟨P, lk [(171, zgs φ), (172, zht φ)], lk [], lk [], lk []⟩
theorem y08 (φ : Nat) (a) : (zl0 φ).F a = fnX TV (zlw Tryz.prog φ) φ Tryz.f113 [20, 20] [.val 20] (zhw φ) a := by kernel_rfl
theorem zzt (φ : Nat) : fnO TV (zlw Tryz.prog φ) φ Tryz.f113 [.val 20] (zhw φ) := by
 unfold fnO
 show obl _ _ _ _ _ _ _
 unfold zhw
 repeat' (first | exact trivial | (refine ⟨?_, ?_⟩) | (intro _) | kernel_rfl)
theorem zzz [Dr] (φ : Nat) : z0s TV Tryz.prog 113 (zl0 φ) :=
 z1f (N := zlw Tryz.prog φ) (zg ⟨zu9 φ, zux φ, trivial⟩ trivial trivial trivial) (zhw φ) Tryz.func113 (by kernel_rfl) (y08 φ) (zzt φ)
def zdh (φ : Nat) : H TV (RTup TT [.val 1]) := .x
def zha (P : Program) (φ : Nat) : Env TV := ⟨P, lk [(113, zl0 φ)], lk [], lk [], lk []⟩
theorem zuo (φ : Nat) (a) : (zge φ).F a = fnX TV (zha Tryz.prog φ) φ Tryz.f77 [20] [.val 1] (zdh φ) a := by kernel_rfl
theorem ztu (φ : Nat) : fnO TV (zha Tryz.prog φ) φ Tryz.f77 [.val 1] (zdh φ) := by
 unfold fnO
 show obl _ _ _ _ _ _ _
 unfold zdh
 repeat' (first | exact trivial | (refine ⟨?_, ?_⟩) | (intro _) | kernel_rfl)
theorem zuk [Dr] (φ : Nat) : z0s TV Tryz.prog 77 (zge φ) :=
 z1f (N := zha Tryz.prog φ) (zg ⟨zzz φ, trivial⟩ trivial trivial trivial) (zdh φ) Tryz.func77 (by kernel_rfl) (zuo φ) (ztu φ)
end Px
end
section
set_option linter.unusedVariables false
set_option linter.unusedSimpArgs false
set_option maxHeartbeats 4000000
set_option maxRecDepth 100000
namespace Px
open Go Go.RowKit Go.Proofs
def z6e (φ : Nat) : H TV (RTup TT [.val 0]) := (.seq .x (.seq .x (.seq .x (.seq .x (.seq .x (.seq .x (.seq (.seq .x (.body (.loop ⟨[(193, [(1, .ptr 0 0), (5, .val 16), (6, .val 0), (7, .val 1), (57, .val 31), (58, .val 0), (59, .val 0)])], [.box 51 [.val 39]]⟩ (fun n z => z7o φ n z.1 z.2.1 z.2.2.1 z.2.2.2.1 z.2.2.2.2.1 z.2.2.2.2.2.1 z.2.2.2.2.2.2.1) (fun zk11 => .x)))) (.seq (.seq .x (.body (.loop ⟨[(193, [(1, .ptr 0 0), (5, .val 16), (6, .val 0), (7, .val 1), (92, .val 33), (93, .val 0), (94, .val 0)])], [.box 51 [.val 39]]⟩ (fun n z => z7v φ n z.1 z.2.1 z.2.2.1 z.2.2.2.1 z.2.2.2.2.1 z.2.2.2.2.2.1 z.2.2.2.2.2.2.1) (fun zk20 => .x)))) (.seq (.seq .x (.body (.loop ⟨[(193, [(1, .ptr 0 0), (5, .val 16), (6, .val 0), (7, .val 1), (120, .val 24), (121, .val 0), (122, .val 0)])], [.box 51 [.val 39]]⟩ (fun n z => z7m φ n z.1 z.2.1 z.2.2.1 z.2.2.2.1 z.2.2.2.2.1 z.2.2.2.2.2.1 z.2.2.2.2.2.2.1) (fun zk29 => .x)))) (.seq (.seq .x (.body (.loop ⟨[(193, [(1, .ptr 0 0), (6, .val 0), (7, .val 1), (135, .val 16), (136, .val 0), (137, .val 0)])], [.box 51 [.val 39]]⟩ (fun n z => z7w φ n z.1 z.2.1 z.2.2.1 z.2.2.2.1 z.2.2.2.2.1 z.2.2.2.2.2.1) (fun zk36 => .x)))) (.seq (.seq .x (.body (.loop ⟨[(193, [(1, .ptr 0 0), (6, .val 0), (7, .val 1), (157, .val 18), (158, .val 0), (159, .val 0)])], [.box 51 [.val 39]]⟩ (fun n z => z7n φ n z.1 z.2.1 z.2.2.1 z.2.2.2.1 z.2.2.2.2.1 z.2.2.2.2.2.1) (fun zk43 => .x)))) (.seq (.seq .x (.body (.loop ⟨[(193, [(7, .val 1), (172, .val 38), (173, .val 0), (174, .val 0)])], []⟩ (fun n z => z7u φ n z.1 z.2.1 z.2.2.1 z.2.2.2.1) (fun zk48 => .x)))) .x))))))))))))
def z9i (P : Program) (φ : Nat) : Env TV := ⟨P, lk [(73, zbu φ), (74, zf2 φ), (75, z8m φ), (76, zb6 φ), (77, zge φ)], lk [], lk [], lk []⟩
theorem zl7 (φ : Nat) (a) : (z3u φ).F a = fnX TV (z9i Tryz.prog φ) φ Tryz.f49 [39] [.val 0] (z6e φ) a := by kernel_rfl
theorem zly (φ : Nat) : fnO TV (z9i Tryz.prog φ) φ Tryz.f49 [.val 0] (z6e φ) := by
 unfold fnO
 show obl _ _ _ _ _ _ _
 unfold z6e
 repeat' (first | exact trivial | (refine ⟨?_, ?_⟩) | (intro _) | kernel_rfl)
theorem z6h [Dr] (φ : Nat) : z0s TV Tryz.prog 49 (z3u φ) :=
 z1f (N := z9i Tryz.prog φ) (zg ⟨zoi φ, zt0 φ, zgd φ, zng φ, zuk φ, trivial⟩ trivial trivial trivial) (z6e φ) Tryz.func49 (by kernel_rfl) (zl7 φ) (zly φ)
def z8i (φ : Nat) : H TV (RTup TT [.val 1]) := .x
def zck (P : Program) (φ : Nat) : Env TV := ⟨P, lk [], lk [], lk [], lk []⟩
theorem zpx (φ : Nat) (a) : (zc1 φ).F a = fnX TV (zck Tryz.prog φ) φ Tryz.f59 [6] [.val 1] (z8i φ) a := by kernel_rfl
theorem zph (φ : Nat) : fnO TV (zck Tryz.prog φ) φ Tryz.f59 [.val 1] (z8i φ) := by
 unfold fnO
 show obl _ _ _ _ _ _ _
 unfold z8i
 repeat' (first | exact trivial | (refine ⟨?_, ?_⟩) | (intro _) | kernel_rfl)
theorem zq0 [Dr] (φ : Nat) : z0s TV Tryz.prog 59 (zc1 φ) :=
 z1f (N := zck Tryz.prog φ) (zg trivial trivial trivial trivial) (z8i φ) Tryz.func59 (by kernel_rfl) (zpx φ) (zph φ)
def zf4 (φ : Nat) : H TV (RTup TT [.val 1]) := (.seq .x (.seq (.seq .x (.body (.loop ⟨[(43, [(0, .val 5), (1, .val 1), (7, .val 5), (8, .val 0), (9, .val 0)])], []⟩ (fun n z => zh4 φ n z.1 z.2.1 z.2.2.1 z.2.2.2.1 z.2.2.2.2.1) (fun zk8 => .x)))) .x))
def zj5 (P : Program) (φ : Nat) : Env TV := ⟨P, lk [], lk [], lk [], lk []⟩
theorem zwt (φ : Nat) (a) : (zjl φ).F a = fnX TV (zj5 Tryz.prog φ) φ Tryz.f135 [5, 1] [.val 1] (zf4 φ) a := by kernel_rfl
theorem zwc (φ : Nat) : fnO TV (zj5 Tryz.prog φ) φ Tryz.f135 [.val 1] (zf4 φ) := by
 unfold fnO
 show obl _ _ _ _ _ _ _
 unfold zf4
 repeat' (first | exact trivial | (refine ⟨?_, ?_⟩) | (intro _) | kernel_rfl)
theorem zxo [Dr] (φ : Nat) : z0s TV Tryz.prog 135 (zjl φ) :=
 z1f (N := zj5 Tryz.prog φ) (zg trivial trivial trivial trivial) (zf4 φ) Tryz.func135 (by kernel_rfl) (zwt φ) (zwc φ)
def zdg (φ : Nat) : H TV (RTup TT [.val 1]) := (.seq .x (.seq .x (.seq (.join ⟨[(46, [(5, .ptr 0 0)])], [.box 157 [.val 41]]⟩ (fun z => zy φ z.1) (.seq .x (.cond (.ins 0 95 (.seq .x (.seq .x (.seq .x (.seq .x (.body (.seq .x (.cond .x (.seq .x (.cond (.seq (.ins 1 131 (.seq .x (.seq (.join ⟨[(66, [(0, .ptr 0 0), (1, .val 0), (4, .ptr 1 0)]), (135, [(0, .ptr 0 0)]), (46, [(5, .ptr 0 0)])], [.box 157 [.val 41], .box 129 [.val 15]]⟩ (fun z => zfo φ z.1 z.2.1 z.2.2.1) (.seq .x .x)) .x)) .x) .x) (.seq (.join ⟨[(135, [(0, .ptr 0 0), (2, .ptr 0 9), (20, .val 0), (43, .val 1)]), (46, [(5, .ptr 0 0)])], [.box 157 [.val 41]]⟩ (fun z => ze9 φ z.1 z.2.1 z.2.2.1) (.seq .x .x)) (.cond (.seq (.ins 1 131 (.seq .x (.seq (.join ⟨[(66, [(0, .ptr 0 0), (1, .val 0), (4, .ptr 1 0)]), (135, [(0, .ptr 0 0), (2, .ptr 0 9)]), (46, [(5, .ptr 0 0)])], [.box 157 [.val 41], .box 129 [.val 15]]⟩ (fun z => ze3 φ z.1 z.2.1 z.2.2.1) (.seq .x .x)) .x)) .x) .x) (.seq .x (.cond (.seq .x (.seq .x (.seq (.ins 1 131 (.seq .x (.seq (.join ⟨[(66, [(0, .ptr 0 0), (1, .val 0), (4, .ptr 1 0)]), (135, [(0, .ptr 0 0), (2, .ptr 0 9)]), (46, [(5, .ptr 0 0)])], [.box 157 [.val 41], .box 129 [.val 15]]⟩ (fun z => zee φ z.1 z.2.1 z.2.2.1) (.seq .x .x)) .x)) .x) .x))) (.seq (.join ⟨[(135, [(0, .ptr 0 0), (2, .ptr 0 9), (116, .val 1)]), (46, [(5, .ptr 0 0)])], [.box 157 [.val 41]]⟩ (fun z => zeb φ z.1 z.2.1) (.seq .x .x)) (.cond (.seq (.ins 1 131 (.seq .x (.seq (.join ⟨[(66, [(0, .ptr 0 0), (1, .val 0), (4, .ptr 1 0)]), (135, [(0, .ptr 0 0), (2, .ptr 0 9)]), (46, [(5, .ptr 0 0)])], [.box 157 [.val 41], .box 129 [.val 15]]⟩ (fun z => zec φ z.1 z.2.1 z.2.2.1) (.seq .x .x)) .x)) .x) .x) .x))))))))))))))) .x) (.ins 0 96 (.seq .x (.seq .x (.body (.seq .x (.cond .x (.seq .x (.cond (.seq .x (.seq (.ins 1 131 (.seq .x (.seq (.join ⟨[(66, [(0, .ptr 0 0), (1, .val 0), (4, .ptr 1 0)]), (168, [(0, .ptr 0 0), (2, .ptr 0 9)]), (46, [(5, .ptr 0 0)])], [.box 157 [.val 41], .box 129 [.val 15]]⟩ (fun z => zdy φ z.1 z.2.1 z.2.2.1) (.seq .x .x)) .x)) .x) .x)) (.seq .x (.cond .x (.seq (.join ⟨[(168, [(0, .ptr 0 0), (2, .ptr 0 9), (9, .val 0), (91, .val 1)]), (46, [(5, .ptr 0 0)])], [.box 157 [.val 41]]⟩ (fun z => z9s φ z.1 z.2.1 z.2.2.1) (.seq .x .x)) (.cond .x (.seq .x (.cond .x (.seq .x (.cond (.seq .x (.seq (.ins 1 131 (.seq .x (.seq (.join ⟨[(66, [(0, .ptr 0 0), (1, .val 0), (4, .ptr 1 0)]), (168, [(0, .ptr 0 0), (2, .ptr 0 9)]), (46, [(5, .ptr 0 0)])], [.box 157 [.val 41], .box 129 [.val 15]]⟩ (fun z => zed φ z.1 z.2.1 z.2.2.1) (.seq .x .x)) .x)) .x) .x)) .x))))))))))))))) .x)))) (.seq (.seq .x (.body (.unr 12 .x))) .x))))
def zgq (P : Program) (φ : Nat) : Env TV := ⟨P, lk [(135, zjl φ)], lk [], lk [], lk []⟩
theorem zu5 (φ : Nat) (a) : (zhj φ).F a = fnX TV (zgq Tryz.prog φ) φ Tryz.f60 [39, 6] [.val 1] (zdg φ) a := by kernel_rfl
theorem zv8 (φ : Nat) : fnO TV (zgq Tryz.prog φ) φ Tryz.f60 [.val 1] (zdg φ) := by
 unfold fnO
 show obl _ _ _ _ _ _ _
 unfold zdg
 repeat' (first | exact trivial | (refine ⟨?_, ?_⟩) | (intro _) | kernel_rfl)
theorem zvk [Dr] (φ : Nat) : z0s TV Tryz.prog 60 (zhj φ) :=
 z1f (N := zgq Tryz.prog φ) (zg ⟨zxo φ, trivial⟩ trivial trivial trivial) (zdg φ) Tryz.func60 (by kernel_rfl) (zu5 φ) (zv8 φ)
def zfd (φ : Nat) : H TV (RTup TT [.val 0]) := .x
def zjb (P : Program) (φ : Nat) : Env TV := ⟨P, lk [(49, z3u φ), (59, zc1 φ), (60, zhj φ)], lk [], lk [], lk []⟩
theorem zw0 (φ : Nat) (a) : (zfq φ).F a = fnX TV (zjb Tryz.prog φ) φ Tryz.f30 [39, 6] [.val 0] (zfd φ) a := by kernel_rfl
theorem zxi (φ : Nat) : fnO TV (zjb Tryz.prog φ) φ Tryz.f30 [.val 0] (zfd φ) := by
 unfold fnO
 show obl _ _ _ _ _ _ _
 unfold zfd
 repeat' (first | exact trivial | (refine ⟨?_, ?_⟩) | (intro _) | kernel_rfl)
theorem zoc [Dr] (φ : Nat) : z0s TV Tryz.prog 30 (zfq φ) :=
 z1f (N := zjb Tryz.prog φ) (zg ⟨z6h φ, zq0 φ, zvk φ, trivial⟩ trivial trivial trivial) (zfd φ) Tryz.func30 (by kernel_rfl) (zw0 φ) (zxi φ)
def z7h (φ : Nat) : H TV (RTup TT [.val 1]) := .x
def zb4 (P : Program) (φ : Nat) : Env TV := ⟨P, lk [(47, z9m φ)], lk [], lk [], lk []⟩
theorem zmt (φ : Nat) (a b) : (zau φ).F a b = fnXc TV (zb4 Tryz.prog φ) φ Tryz.f51 [2] [.b (.map 9 1)] [.val 1] (z7h φ) a b := by kernel_rfl
theorem znl (φ : Nat) : fnO TV (zb4 Tryz.prog φ) φ Tryz.f51 [.val 1] (z7h φ) := by
 unfold fnO
 show obl _ _ _ _ _ _ _
 unfold z7h
 repeat' (first | exact trivial | (refine ⟨?_, ?_⟩) | (intro _) | kernel_rfl)
theorem zmp [Dr] (φ : Nat) : zzo TV Tryz.prog 51 (zau φ) :=
 ya9 (N := zb4 Tryz.prog φ) (zg ⟨zfx φ, trivial⟩ trivial trivial trivial) (z7h φ) Tryz.func51 (by kernel_rfl) (zmt φ) (znl φ)
def z7a (φ : Nat) : H TV (RTup TT [.val 0]) := .x
def zab (P : Program) (φ : Nat) : Env TV := ⟨P, lk [(49, z3u φ)], lk [], lk [], lk []⟩
theorem zmu (φ : Nat) (a) : (zas φ).F a = fnX TV (zab Tryz.prog φ) φ Tryz.f61 [39, 0, 0] [.val 0] (z7a φ) a := by kernel_rfl
theorem zmv (φ : Nat) : fnO TV (zab Tryz.prog φ) φ Tryz.f61 [.val 0] (z7a φ) := by
 unfold fnO
 show obl _ _ _ _ _ _ _
 unfold z7a
 repeat' (first | exact trivial | (refine ⟨?_, ?_⟩) | (intro _) | kernel_rfl)
theorem zn0 [Dr] (φ : Nat) : z0s TV Tryz.prog 61 (zas φ) :=
 z1f (N := zab Tryz.prog φ) (zg ⟨z6h φ, trivial⟩ trivial trivial trivial) (z7a φ) Tryz.func61 (by kernel_rfl) (zmu φ) (zmv φ)
def zbf (φ : Nat) : H TV (RTup TT [.row 3 0]) := (.seq .x (.seq .x (.seq (.seq .x (.body (.loop ⟨[(35, [(2, .val 0), (3, .ptr 0 0), (7, .own 1), (10, .val 10), (11, .val 0), (12, .val 0)])], [.box 51 [.val 39], .row 3 0]⟩ (fun n z => z8k φ n z.1 z.2.1 z.2.2.1 z.2.2.2.1 z.2.2.2.2.1 z.2.2.2.2.2.1) (fun zk10 => .x)))) .x)))
def zf5 (P : Program) (φ : Nat) : Env TV := ⟨P, lk [(30, zfq φ)], lk [], lk [], lk []⟩
theorem zsz (φ : Nat) (a) : (zfr φ).F a = fnX TV (zf5 Tryz.prog φ) φ Tryz.f160 [39, 10, 0] [.row 3 0] (zbf φ) a := by kernel_rfl
theorem zt3 (φ : Nat) : fnO TV (zf5 Tryz.prog φ) φ Tryz.f160 [.row 3 0] (zbf φ) := by
 unfold fnO
 show obl _ _ _ _ _ _ _
 unfold zbf
 repeat' (first | exact trivial | (refine ⟨?_, ?_⟩) | (intro _) | kernel_rfl)
theorem zsf [Dr] (φ : Nat) : z0s TV Tryz.prog 160 (zfr φ) :=
 z1f (N := zf5 Tryz.prog φ) (zg ⟨zoc φ, trivial⟩ trivial trivial trivial) (zbf φ) Tryz.func160 (by kernel_rfl) (zsz φ) (zt3 φ)
def z74 (φ : Nat) : H TV (RTup TT [.val 0]) := .x
def zb1 (P : Program) (φ : Nat) : Env TV := ⟨P, lk [(40, z3k φ), (39, zbh φ)], lk [], lk [], lk []⟩
theorem znb (φ : Nat) (a) : (z5n φ).F a = fnX TV (zb1 Tryz.prog φ) φ Tryz.f139 [3, 3] [.val 0] (z74 φ) a := by kernel_rfl
theorem znh (φ : Nat) : fnO TV (zb1 Tryz.prog φ) φ Tryz.f139 [.val 0] (z74 φ) := by
 unfold fnO
 show obl _ _ _ _ _ _ _
 unfold z74
 repeat' (first | exact trivial | (refine ⟨?_, ?_⟩) | (intro _) | kernel_rfl)
theorem zam [Dr] (φ : Nat) : z0s TV Tryz.prog 139 (z5n φ) :=
 z1f (N := zb1 Tryz.prog φ) (zg ⟨z5k φ, zfj φ, trivial⟩ trivial trivial trivial) (z74 φ) Tryz.func139 (by kernel_rfl) (znb φ) (znh φ)
def z5z (φ : Nat) : H TV (RTup TT [.val 0]) := .x
def z91 (P : Program) (φ : Nat) : Env TV := ⟨P, lk [(40, z3k φ), (139, z5n φ), (39, zbh φ)], lk [], lk [], lk []⟩
theorem zko (φ : Nat) (a b) : (z8z φ).F a b = fnXc TV (z91 Tryz.prog φ) φ Tryz.f162 [0, 0] [.b (.val 10)] [.val 0] (z5z φ) a b := by kernel_rfl
theorem zju (φ : Nat) : fnO TV (z91 Tryz.prog φ) φ Tryz.f162 [.val 0] (z5z φ) := by
 unfold fnO
 show obl _ _ _ _ _ _ _
 unfold z5z
 repeat' (first | exact trivial | (refine ⟨?_, ?_⟩) | (intro _) | kernel_rfl)
theorem zkn [Dr] (φ : Nat) : zzo TV Tryz.prog 162 (z8z φ) :=
 ya9 (N := z91 Tryz.prog φ) (zg ⟨z5k φ, zam φ, zfj φ, trivial⟩ trivial trivial trivial) (z5z φ) Tryz.func162 (by kernel_rfl) (zko φ) (zju φ)
def z08 (φ : Nat) : H TV (List (TT 0)) := (.seq .x (.body (.loop ⟨[(53, [(0, .own 0), (1, .val 0), (2, .val 0), (3, .cmp 0), (8, .val 0)]), (1, [(0, .own 0)])], [.row 3 0]⟩ (fun n z => z0x φ n z.1 z.2.1 z.2.2.1 z.2.2.2.1 z.2.2.2.2.1) (fun zk10 => (.seq .x (.seq (.body (.seq .x (.body (.loop ⟨[(53, [(0, .own 0), (1, .val 0), (2, .val 0), (3, .cmp 0), (8, .val 0), (9, .val 0)]), (1, [(0, .own 0)])], [.row 3 0]⟩ (fun n z => z0w φ (fun a0 a1 a2 a3 a4 => zk10 (a0, a1, a2, a3, a4, ())) n z.1 z.2.1 z.2.2.1 z.2.2.2.1 z.2.2.2.2.1 z.2.2.2.2.2.1) (fun zk17 => .x))))) .x))))))
def z1c (P : Program) (φ : Nat) : Env TV := ⟨P, lk [], lk [], lk [], lk []⟩
theorem z90 (φ : Nat) (l a) : (z1m φ).F l a = fnM TV (z1c Tryz.prog φ) φ Tryz.f185 3 0 [.val 0, .val 0, .cmp 0] (z08 φ) l a := by kernel_rfl
theorem z8r (φ : Nat) : fnMO TV (z1c Tryz.prog φ) φ Tryz.f185 3 0 (z08 φ) := by
 unfold fnMO
 show obl _ _ _ _ _ _ _
 unfold z08
 repeat' (first | exact trivial | (refine ⟨?_, ?_⟩) | (intro _) | kernel_rfl)
theorem z8u [Dr] (φ : Nat) : zbr TV Tryz.prog 185 (z1m φ) := z95 (N := z1c Tryz.prog φ) (zg trivial trivial trivial trivial) (z08 φ) Tryz.func185 (by kernel_rfl) (z90 φ) (z8r φ)
def z0v (φ : Nat) : H TV (List (TT 0)) := (.seq .x (.body (.loop ⟨[(38, [(0, .own 0), (1, .val 0), (2, .val 0), (3, .val 0), (10, .val 0)]), (1, [(0, .own 0)])], [.row 3 0]⟩ (fun n z => z2c φ n z.1 z.2.1 z.2.2.1 z.2.2.2.1 z.2.2.2.2.1) (fun zk11 => .x))))
def z3c (P : Program) (φ : Nat) : Env TV := ⟨P, lk [], lk [], lk [], lk []⟩
theorem zb3 (φ : Nat) (l a) : (z32 φ).F l a = fnM TV (z3c Tryz.prog φ) φ Tryz.f190 3 0 [.val 0, .val 0, .val 0, .cmp 0] (z0v φ) l a := by kernel_rfl
theorem zb5 (φ : Nat) : fnMO TV (z3c Tryz.prog φ) φ Tryz.f190 3 0 (z0v φ) := by
 unfold fnMO
 show obl _ _ _ _ _ _ _
 unfold z0v
 repeat' (first | exact trivial | (refine ⟨?_, ?_⟩) | (intro _) | kernel_rfl)
theorem zag [Dr] (φ : Nat) : zbr TV Tryz.prog 190 (z32 φ) := z95 (N := z3c Tryz.prog φ) (zg trivial trivial trivial trivial) (z0v φ) Tryz.func190 (by kernel_rfl) (zb3 φ) (zb5 φ)
def z1v (φ : Nat) : H TV (List (TT 0)) := (.seq .x (.seq .x (.seq (.body (.loop ⟨[(58, [(0, .own 0), (2, .val 0), (4, .cmp 0), (10, .val 0), (11, .val 0)]), (1, [(0, .own 0)])], [.row 3 0]⟩ (fun n z => z18 φ n z.1 z.2.1 z.2.2.1 z.2.2.2.1 z.2.2.2.2.1) (fun zk11 => .x))) .x)))
def z4f (P : Program) (φ : Nat) : Env TV := ⟨P, lk [], lk [(190, z32 φ)], lk [], lk []⟩
theorem zcv (φ : Nat) (l a) : (z4j φ).F l a = fnM TV (z4f Tryz.prog φ) φ Tryz.f188 3 0 [.val 0, .val 0, .val 0, .cmp 0] (z1v φ) l a := by kernel_rfl
theorem zd5 (φ : Nat) : fnMO TV (z4f Tryz.prog φ) φ Tryz.f188 3 0 (z1v φ) := by
 unfold fnMO
 show obl _ _ _ _ _ _ _
 unfold z1v
 repeat' (first | exact trivial | (refine ⟨?_, ?_⟩) | (intro _) | kernel_rfl)
theorem zcw [Dr] (φ : Nat) : zbr TV Tryz.prog 188 (z4j φ) := z95 (N := z4f Tryz.prog φ) (zg trivial ⟨(zag φ), trivial⟩ trivial trivial) (z1v φ) Tryz.func188 (by kernel_rfl) (zcv φ) (zd5 φ)
def z13 (φ d : Nat) : H TV (List (TT 0)) := (.seq (.seq .x (.cond (.seq .x (.seq .x (.seq (.body (.loop ⟨[(220, [(0, .own 0), (1, .val 0), (4, .cmp 0), (10, .val 0), (11, .val 0)]), (1, [(0, .own 0)])], [.row 3 0]⟩ (fun n z => z0q φ n z.1 z.2.1 z.2.2.1 z.2.2.2.1 z.2.2.2.2.1) (fun zk11 => .x))) (.seq (.seq .x (.body (.loop ⟨[(220, [(0, .own 0), (10, .val 0), (13, .val 0)]), (1, [(0, .own 0)])], [.row 3 0]⟩ (fun n z => z2n φ n z.1 z.2.1 z.2.2.1) (fun zk16 => .x)))) .x)))) .x)) (.seq (.seq .x (.cond (.seq .x (.seq .x (.seq (.body (.loop ⟨[(220, [(0, .own 0), (2, .val 0), (4, .cmp 0), (14, .val 0), (15, .val 0)]), (1, [(0, .own 0)])], [.row 3 0]⟩ (fun n z => z0j φ n z.1 z.2.1 z.2.2.1 z.2.2.2.1 z.2.2.2.2.1) (fun zk22 => .x))) (.seq (.seq .x (.body (.loop ⟨[(220, [(0, .own 0), (14, .val 0), (17, .val 0)]), (1, [(0, .own 0)])], [.row 3 0]⟩ (fun n z => z2m φ n z.1 z.2.1 z.2.2.1) (fun zk27 => .x)))) .x)))) .x)) (.seq .x (.seq .x (.seq .x (.seq (.join ⟨[(220, [(0, .own 0), (1, .val 0), (2, .val 0), (3, .val 0), (4, .cmp 0), (18, .val 0), (19, .val 0), (20, .val 0), (21, .val 0)]), (1, [(0, .own 0)])], [.row 3 0]⟩ (fun z => z2s φ (zk φ d) z.1 z.2.1 z.2.2.1 z.2.2.2.1 z.2.2.2.2.1 z.2.2.2.2.2.1 z.2.2.2.2.2.2.1 z.2.2.2.2.2.2.2.1 z.2.2.2.2.2.2.2.2.1) (.seq .x .x)) (.seq .x (.seq (.body (.loop ⟨[(220, [(0, .own 0), (1, .val 0), (2, .val 0), (3, .val 0), (4, .cmp 0), (18, .val 0), (19, .val 0), (20, .val 0), (21, .val 0), (22, .val 0)]), (1, [(0, .own 0)])], [.row 3 0]⟩ (fun n z => z0o φ (zk φ d) n z.1 z.2.1 z.2.2.1 z.2.2.2.1 z.2.2.2.2.1 z.2.2.2.2.2.1 z.2.2.2.2.2.2.1 z.2.2.2.2.2.2.2.1 z.2.2.2.2.2.2.2.2.1 z.2.2.2.2.2.2.2.2.2.1) (fun zk48 => .x))) (.seq .x (.seq (.join ⟨[(220, [(0, .own 0), (1, .val 0), (3, .val 0), (4, .cmp 0), (18, .val 0), (20, .val 0), (24, .val 0)]), (1, [(0, .own 0)])], [.row 3 0]⟩ (fun z => z2i φ (zk φ d) z.1 z.2.1 z.2.2.1 z.2.2.2.1 z.2.2.2.2.1 z.2.2.2.2.2.1 z.2.2.2.2.2.2.1) (.seq .x .x)) (.seq (.join ⟨[(220, [(0, .own 0), (3, .val 0), (4, .cmp 0), (18, .val 0), (24, .val 0)]), (1, [(0, .own 0)])], [.row 3 0]⟩ (fun z => z2k φ (zk φ d) z.1 z.2.1 z.2.2.1 z.2.2.2.1 z.2.2.2.2.1) (.seq .x .x)) .x)))))))))))
def z3i (P : Program) (φ d : Nat) : Env TV := ⟨P, lk [], lk [(188, z4j φ), (186, z16 φ d)], lk [], lk []⟩
theorem zbe (φ d : Nat) (l a) : (z16 φ (d + 1)).F l a = fnM TV (z3i Tryz.prog φ d) φ Tryz.f186 3 0 [.val 0, .val 0, .val 0, .cmp 0] (z13 φ d) l a := by kernel_rfl
theorem zbn (φ d : Nat) : fnMO TV (z3i Tryz.prog φ d) φ Tryz.f186 3 0 (z13 φ d) := by
 unfold fnMO
 show obl _ _ _ _ _ _ _
 unfold z13
 repeat' (first | exact trivial | (refine ⟨?_, ?_⟩) | (intro _) | kernel_rfl)
theorem z65 [Dr] (φ : Nat) : ∀ d, zbr TV Tryz.prog 186 (z16 φ d)
 | 0 => fun l a l2 sv h => absurd (show (none : Option (List (TT 0))) = some l2 from h) (fun q => by cases q)
 | d + 1 => z95 (N := z3i Tryz.prog φ d) (zg trivial ⟨(zcw φ), (z65 φ d), trivial⟩ trivial trivial) (z13 φ d) Tryz.func186 (by kernel_rfl) (zbe φ d) (zbn φ d)
def z1q (φ : Nat) : H TV (List (TT 0)) := (.seq .x (.seq .x (.seq (.body (.loop ⟨[(63, [(0, .own 0), (1, .val 0), (2, .cmp 0), (6, .val 0), (7, .val 0), (8, .val 0)]), (1, [(0, .own 0)])], [.row 3 0]⟩ (fun n z => z3m φ n z.1 z.2.1 z.2.2.1 z.2.2.2.1 z.2.2.2.2.1 z.2.2.2.2.2.1) (fun zk10 => .x))) (.seq .x (.body (.loop ⟨[(63, [(0, .own 0), (1, .val 0), (2, .cmp 0), (6, .val 0)]), (1, [(0, .own 0)])], [.row 3 0]⟩ (fun n z => z3q φ n z.1 z.2.1 z.2.2.1 z.2.2.2.1) (fun zk17 => (.seq .x (.body (.seq .x (.seq (.body (.loop ⟨[(63, [(0, .own 0), (1, .val 0), (2, .cmp 0), (6, .val 0), (7, .val 0), (8, .val 0)]), (1, [(0, .own 0)])], [.row 3 0]⟩ (fun n z => z3n φ (fun a0 a1 a2 a3 => zk17 (a0, a1, a2, a3, ())) n z.1 z.2.1 z.2.2.1 z.2.2.2.1 z.2.2.2.2.1 z.2.2.2.2.2.1) (fun zk24 => .x))) .x)))))))))))
def z4h (P : Program) (φ : Nat) : Env TV := ⟨P, lk [], lk [(185, z1m φ), (186, z16 φ φ)], lk [], lk []⟩
theorem zcy (φ : Nat) (l a) : (z4i φ).F l a = fnM TV (z4h Tryz.prog φ) φ Tryz.f179 3 0 [.val 0, .cmp 0] (z1q φ) l a := by kernel_rfl
theorem zd0 (φ : Nat) : fnMO TV (z4h Tryz.prog φ) φ Tryz.f179 3 0 (z1q φ) := by
 unfold fnMO
 show obl _ _ _ _ _ _ _
 unfold z1q
 repeat' (first | exact trivial | (refine ⟨?_, ?_⟩) | (intro _) | kernel_rfl)
theorem zd6 [Dr] (φ : Nat) : zbr TV Tryz.prog 179 (z4i φ) := z95 (N := z4h Tryz.prog φ) (zg trivial ⟨(z8u φ), (z65 φ φ), trivial⟩ trivial trivial) (z1q φ) Tryz.func179 (by kernel_rfl) (zcy φ) (zd0 φ)
def z1i (φ : Nat) : H TV (List (TT 0)) := .x
def z3y (P : Program) (φ : Nat) : Env TV := ⟨P, lk [], lk [(179, z4i φ)], lk [], lk []⟩
theorem zc9 (φ : Nat) (l a) : (z44 φ).F l a = fnM TV (z3y Tryz.prog φ) φ Tryz.f161 3 0 [.cmp 0] (z1i φ) l a := by kernel_rfl
theorem zbt (φ : Nat) : fnMO TV (z3y Tryz.prog φ) φ Tryz.f161 3 0 (z1i φ) := by
 unfold fnMO
 show obl _ _ _ _ _ _ _
 unfold z1i
 repeat' (first | exact trivial | (refine ⟨?_, ?_⟩) | (intro _) | kernel_rfl)
theorem zcj [Dr] (φ : Nat) : zbr TV Tryz.prog 161 (z44 φ) := z95 (N := z3y Tryz.prog φ) (zg trivial ⟨(zd6 φ), trivial⟩ trivial trivial) (z1i φ) Tryz.func161 (by kernel_rfl) (zc9 φ) (zbt φ)
def z6n (φ : Nat) : H TV (RTup TT [.val 1]) := .x
def z9g (P : Program) (φ : Nat) : Env TV := ⟨P, lk [], lk [], lk [], lk []⟩
theorem zld (φ : Nat) (a) : (z97 φ).F a = fnX TV (z9g Tryz.prog φ) φ Tryz.f163 [39, 7] [.val 1] (z6n φ) a := by kernel_rfl
theorem zlm (φ : Nat) : fnO TV (z9g Tryz.prog φ) φ Tryz.f163 [.val 1] (z6n φ) := by
 unfold fnO
 show obl _ _ _ _ _ _ _
 unfold z6n
 repeat' (first | exact trivial | (refine ⟨?_, ?_⟩) | (intro _) | kernel_rfl)
theorem zky [Dr] (φ : Nat) : z0s TV Tryz.prog 163 (z97 φ) :=
 z1f (N := z9g Tryz.prog φ) (zg trivial trivial trivial trivial) (z6n φ) Tryz.func163 (by kernel_rfl) (zld φ) (zlm φ)
def z9x (φ : Nat) : H TV (RTup TT [.val 0]) := .x
def zdt (P : Program) (φ : Nat) : Env TV := ⟨P, lk [], lk [], lk [], lk []⟩
theorem zqg (φ : Nat) (a) : (zdw φ).F a = fnX TV (zdt Tryz.prog φ) φ Tryz.f164 [7, 7] [.val 0] (z9x φ) a := by kernel_rfl
theorem zqo (φ : Nat) : fnO TV (zdt Tryz.prog φ) φ Tryz.f164 [.val 0] (z9x φ) := by
 unfold fnO
 show obl _ _ _ _ _ _ _
 unfold z9x
 repeat' (first | exact trivial | (refine ⟨?_, ?_⟩) | (intro _) | kernel_rfl)
theorem zqs [Dr] (φ : Nat) : z0s TV Tryz.prog 164 (zdw φ) :=
 z1f (N := zdt Tryz.prog φ) (zg trivial trivial trivial trivial) (z9x φ) Tryz.func164 (by kernel_rfl) (zqg φ) (zqo φ)
def z7d (φ : Nat) : H TV (RTup TT [.val 43]) := (.seq .x (.seq .x (.seq .x (.seq .x (.seq .x (.seq .x (.seq (.seq .x (.body (.loop ⟨[(137, [(2, .ptr 0 0), (3, .ptr 1 0), (6, .own 2), (7, .own 3), (8, .own 4), (29, .own 5), (30, .val 0), (31, .val 0)])], [.box 51 [.val 39], .box 22 [.val 10], .row 3 0, .map 0 1 0, .row 200 42, .row 3 0]⟩ (fun n z => z64 φ n z.1 z.2.1 z.2.2.1 z.2.2.2.1 z.2.2.2.2.1 z.2.2.2.2.2.1 z.2.2.2.2.2.2.1 z.2.2.2.2.2.2.2.1) (fun zk15 => (.seq .x (.seq .x (.seq (.body (.seq .x (.body (.seq .x (.seq .x (.seq .x (.seq .x (.seq (.seq .x (.body (.loop ⟨[(137, [(2, .ptr 0 0), (3, .ptr 1 0), (6, .own 2), (7, .own 3), (8, .own 4), (10, .val 0), (11, .ptr 5 0), (12, .val 0), (29, .own 6), (30, .val 0), (31, .val 0), (43, .own 2), (44, .val 0), (45, .val 0)])], [.box 51 [.val 39], .box 22 [.val 10], .row 3 0, .map 0 1 0, .row 200 42, .box 57 [.val 7], .row 3 0]⟩ (fun n z => z4n φ (fun a0 a1 a2 a3 a4 a5 a6 a7 => zk15 (a0, a1, a2, a3, a4, a5, a6, a7, ())) n z.1 z.2.1 z.2.2.1 z.2.2.2.1 z.2.2.2.2.1 z.2.2.2.2.2.1 z.2.2.2.2.2.2.1 z.2.2.2.2.2.2.2.1 z.2.2.2.2.2.2.2.2.1 z.2.2.2.2.2.2.2.2.2.1 z.2.2.2.2.2.2.2.2.2.2.1 z.2.2.2.2.2.2.2.2.2.2.2.1 z.2.2.2.2.2.2.2.2.2.2.2.2.1) (fun zk30 => .x)))) .x)))))))) .x))))))) .x)))))))
def zb2 (P : Program) (φ : Nat) : Env TV := ⟨P, lk [(49, z3u φ), (160, zfr φ), (163, z97 φ), (164, zdw φ), (40, z3k φ), (139, z5n φ), (39, zbh φ)], lk [(161, z44 φ)], lk [(162, z8z φ)], lk []⟩
theorem zn3 (φ : Nat) (a) : (za8 φ).F a = fnX TV (zb2 Tryz.prog φ) φ Tryz.f136 [39, 10] [.val 43] (z7d φ) a := by kernel_rfl
theorem zn7 (φ : Nat) : fnO TV (zb2 Tryz.prog φ) φ Tryz.f136 [.val 43] (z7d φ) := by
 unfold fnO
 show obl _ _ _ _ _ _ _
 unfold z7d
 repeat' (first | exact trivial | (refine ⟨?_, ?_⟩) | (intro _) | kernel_rfl)
theorem zn5 [Dr] (φ : Nat) : z0s TV Tryz.prog 136 (za8 φ) :=
 z1f (N := zb2 Tryz.prog φ) (zg ⟨z6h φ, zsf φ, zky φ, zqs φ, z5k φ, zam φ, zfj φ, trivial⟩ ⟨(zcj φ), trivial⟩ ⟨zkn φ, trivial⟩ trivial) (z7d φ) Tryz.func136 (by kernel_rfl) (zn3 φ) (zn7 φ)
def z0a (φ : Nat) : H TV (List (TT 44)) := (.seq .x (.body (.loop ⟨[(53, [(0, .own 0), (1, .val 0), (2, .val 0), (3, .cmp 44), (8, .val 0)]), (1, [(0, .own 0)])], [.row 165 44]⟩ (fun n z => z0z φ n z.1 z.2.1 z.2.2.1 z.2.2.2.1 z.2.2.2.2.1) (fun zk10 => (.seq .x (.seq (.body (.seq .x (.body (.loop ⟨[(53, [(0, .own 0), (1, .val 0), (2, .val 0), (3, .cmp 44), (8, .val 0), (9, .val 0)]), (1, [(0, .own 0)])], [.row 165 44]⟩ (fun n z => z0y φ (fun a0 a1 a2 a3 a4 => zk10 (a0, a1, a2, a3, a4, ())) n z.1 z.2.1 z.2.2.1 z.2.2.2.1 z.2.2.2.2.1 z.2.2.2.2.2.1) (fun zk17 => .x))))) .x))))))
def z1h (P : Program) (φ : Nat) : Env TV := ⟨P, lk [], lk [], lk [], lk []⟩
theorem z8q (φ : Nat) (l a) : (z1j φ).F l a = fnM TV (z1h Tryz.prog φ) φ Tryz.f180 165 44 [.val 0, .val 0, .cmp 44] (z0a φ) l a := by kernel_rfl
theorem z8j (φ : Nat) : fnMO TV (z1h Tryz.prog φ) φ Tryz.f180 165 44 (z0a φ) := by
 unfold fnMO
 show obl _ _ _ _ _ _ _
 unfold z0a
 repeat' (first | exact trivial | (refine ⟨?_, ?_⟩) | (intro _) | kernel_rfl)
theorem z8b [Dr] (φ : Nat) : zbr TV Tryz.prog 180 (z1j φ) := z95 (N := z1h Tryz.prog φ) (zg trivial trivial trivial trivial) (z0a φ) Tryz.func180 (by kernel_rfl) (z8q φ) (z8j φ)
def z0t (φ : Nat) : H TV (List (TT 44)) := (.seq .x (.body (.loop ⟨[(38, [(0, .own 0), (1, .val 0), (2, .val 0), (3, .val 0), (10, .val 0)]), (1, [(0, .own 0)])], [.row 165 44]⟩ (fun n z => z2d φ n z.1 z.2.1 z.2.2.1 z.2.2.2.1 z.2.2.2.2.1) (fun zk11 => .x))))
def z34 (P : Program) (φ : Nat) : Env TV := ⟨P, lk [], lk [], lk [], lk []⟩
theorem zan (φ : Nat) (l a) : (z35 φ).F l a = fnM TV (z34 Tryz.prog φ) φ Tryz.f189 165 44 [.val 0, .val 0, .val 0, .cmp 44] (z0t φ) l a := by kernel_rfl
theorem zah (φ : Nat) : fnMO TV (z34 Tryz.prog φ) φ Tryz.f189 165 44 (z0t φ) := by
 unfold fnMO
 show obl _ _ _ _ _ _ _
 unfold z0t
 repeat' (first | exact trivial | (refine ⟨?_, ?_⟩) | (intro _) | kernel_rfl)
theorem zar [Dr] (φ : Nat) : zbr TV Tryz.prog 189 (z35 φ) := z95 (N := z34 Tryz.prog φ) (zg trivial trivial trivial trivial) (z0t φ) Tryz.func189 (by kernel_rfl) (zan φ) (zah φ)
def z1t (φ : Nat) : H TV (List (TT 44)) := (.seq .x (.seq .x (.seq (.body (.loop ⟨[(58, [(0, .own 0), (2, .val 0), (4, .cmp 44), (10, .val 0), (11, .val 0)]), (1, [(0, .own 0)])], [.row 165 44]⟩ (fun n z => z17 φ n z.1 z.2.1 z.2.2.1 z.2.2.2.1 z.2.2.2.2.1) (fun zk11 => .x))) .x)))
def z4k (P : Program) (φ : Nat) : Env TV := ⟨P, lk [], lk [(189, z35 φ)], lk [], lk []⟩
theorem zd1 (φ : Nat) (l a) : (z4g φ).F l a = fnM TV (z4k Tryz.prog φ) φ Tryz.f187 165 44 [.val 0, .val 0, .val 0, .cmp 44] (z1t φ) l a := by kernel_rfl
theorem zcx (φ : Nat) : fnMO TV (z4k Tryz.prog φ) φ Tryz.f187 165 44 (z1t φ) := by
 unfold fnMO
 show obl _ _ _ _ _ _ _
 unfold z1t
 repeat' (first | exact trivial | (refine ⟨?_, ?_⟩) | (intro _) | kernel_rfl)
theorem zcu [Dr] (φ : Nat) : zbr TV Tryz.prog 187 (z4g φ) := z95 (N := z4k Tryz.prog φ) (zg trivial ⟨(zar φ), trivial⟩ trivial trivial) (z1t φ) Tryz.func187 (by kernel_rfl) (zd1 φ) (zcx φ)
def z15 (φ d : Nat) : H TV (List (TT 44)) := (.seq (.seq .x (.cond (.seq .x (.seq .x (.seq (.body (.loop ⟨[(220, [(0, .own 0), (1, .val 0), (4, .cmp 44), (10, .val 0), (11, .val 0)]), (1, [(0, .own 0)])], [.row 165 44]⟩ (fun n z => z0l φ n z.1 z.2.1 z.2.2.1 z.2.2.2.1 z.2.2.2.2.1) (fun zk11 => .x))) (.seq (.seq .x (.body (.loop ⟨[(220, [(0, .own 0), (10, .val 0), (13, .val 0)]), (1, [(0, .own 0)])], [.row 165 44]⟩ (fun n z => z2w φ n z.1 z.2.1 z.2.2.1) (fun zk16 => .x)))) .x)))) .x)) (.seq (.seq .x (.cond (.seq .x (.seq .x (.seq (.body (.loop ⟨[(220, [(0, .own 0), (2, .val 0), (4, .cmp 44), (14, .val 0), (15, .val 0)]), (1, [(0, .own 0)])], [.row 165 44]⟩ (fun n z => z0n φ n z.1 z.2.1 z.2.2.1 z.2.2.2.1 z.2.2.2.2.1) (fun zk22 => .x))) (.seq (.seq .x (.body (.loop ⟨[(220, [(0, .own 0), (14, .val 0), (17, .val 0)]), (1, [(0, .own 0)])], [.row 165 44]⟩ (fun n z => z2p φ n z.1 z.2.1 z.2.2.1) (fun zk27 => .x)))) .x)))) .x)) (.seq .x (.seq .x (.seq .x (.seq (.join ⟨[(220, [(0, .own 0), (1, .val 0), (2, .val 0), (3, .val 0), (4, .cmp 44), (18, .val 0), (19, .val 0), (20, .val 0), (21, .val 0)]), (1, [(0, .own 0)])], [.row 165 44]⟩ (fun z => z2l φ (zl φ d) z.1 z.2.1 z.2.2.1 z.2.2.2.1 z.2.2.2.2.1 z.2.2.2.2.2.1 z.2.2.2.2.2.2.1 z.2.2.2.2.2.2.2.1 z.2.2.2.2.2.2.2.2.1) (.seq .x .x)) (.seq .x (.seq (.body (.loop ⟨[(220, [(0, .own 0), (1, .val 0), (2, .val 0), (3, .val 0), (4, .cmp 44), (18, .val 0), (19, .val 0), (20, .val 0), (21, .val 0), (22, .val 0)]), (1, [(0, .own 0)])], [.row 165 44]⟩ (fun n z => z0m φ (zl φ d) n z.1 z.2.1 z.2.2.1 z.2.2.2.1 z.2.2.2.2.1 z.2.2.2.2.2.1 z.2.2.2.2.2.2.1 z.2.2.2.2.2.2.2.1 z.2.2.2.2.2.2.2.2.1 z.2.2.2.2.2.2.2.2.2.1) (fun zk48 => .x))) (.seq .x (.seq (.join ⟨[(220, [(0, .own 0), (1, .val 0), (3, .val 0), (4, .cmp 44), (18, .val 0), (20, .val 0), (24, .val 0)]), (1, [(0, .own 0)])], [.row 165 44]⟩ (fun z => z2u φ (zl φ d) z.1 z.2.1 z.2.2.1 z.2.2.2.1 z.2.2.2.2.1 z.2.2.2.2.2.1 z.2.2.2.2.2.2.1) (.seq .x .x)) (.seq (.join ⟨[(220, [(0, .own 0), (3, .val 0), (4, .cmp 44), (18, .val 0), (24, .val 0)]), (1, [(0, .own 0)])], [.row 165 44]⟩ (fun z => z2t φ (zl φ d) z.1 z.2.1 z.2.2.1 z.2.2.2.1 z.2.2.2.2.1) (.seq .x .x)) .x)))))))))))
def z3r (P : Program) (φ d : Nat) : Env TV := ⟨P, lk [], lk [(187, z4g φ), (181, z14 φ d)], lk [], lk []⟩
theorem zbo (φ d : Nat) (l a) : (z14 φ (d + 1)).F l a = fnM TV (z3r Tryz.prog φ d) φ Tryz.f181 165 44 [.val 0, .val 0, .val 0, .cmp 44] (z15 φ d) l a := by kernel_rfl
theorem zbm (φ d : Nat) : fnMO TV (z3r Tryz.prog φ d) φ Tryz.f181 165 44 (z15 φ d) := by
 unfold fnMO
 show obl _ _ _ _ _ _ _
 unfold z15
 repeat' (first | exact trivial | (refine ⟨?_, ?_⟩) | (intro _) | kernel_rfl)
theorem z63 [Dr] (φ : Nat) : ∀ d, zbr TV Tryz.prog 181 (z14 φ d)
 | 0 => fun l a l2 sv h => absurd (show (none : Option (List (TT 44))) = some l2 from h) (fun q => by cases q)
 | d + 1 => z95 (N := z3r Tryz.prog φ d) (zg trivial ⟨(zcu φ), (z63 φ d), trivial⟩ trivial trivial) (z15 φ d) Tryz.func181 (by kernel_rfl) (zbo φ d) (zbm φ d)
def z1w (φ : Nat) : H TV (List (TT 44)) := (.seq .x (.seq .x (.seq (.body (.loop ⟨[(63, [(0, .own 0), (1, .val 0), (2, .cmp 44), (6, .val 0), (7, .val 0), (8, .val 0)]), (1, [(0, .own 0)])], [.row 165 44]⟩ (fun n z => z3g φ n z.1 z.2.1 z.2.2.1 z.2.2.2.1 z.2.2.2.2.1 z.2.2.2.2.2.1) (fun zk10 => .x))) (.seq .x (.body (.loop ⟨[(63, [(0, .own 0), (1, .val 0), (2, .cmp 44), (6, .val 0)]), (1, [(0, .own 0)])], [.row 165 44]⟩ (fun n z => z3f φ n z.1 z.2.1 z.2.2.1 z.2.2.2.1) (fun zk17 => (.seq .x (.body (.seq .x (.seq (.body (.loop ⟨[(63, [(0, .own 0), (1, .val 0), (2, .cmp 44), (6, .val 0), (7, .val 0), (8, .val 0)]), (1, [(0, .own 0)])], [.row 165 44]⟩ (fun n z => z3p φ (fun a0 a1 a2 a3 => zk17 (a0, a1, a2, a3, ())) n z.1 z.2.1 z.2.2.1 z.2.2.2.1 z.2.2.2.2.1 z.2.2.2.2.2.1) (fun zk24 => .x))) .x)))))))))))
def z49 (P : Program) (φ : Nat) : Env TV := ⟨P, lk [], lk [(180, z1j φ), (181, z14 φ φ)], lk [], lk []⟩
theorem zd3 (φ : Nat) (l a) : (z4a φ).F l a = fnM TV (z49 Tryz.prog φ) φ Tryz.f165 165 44 [.val 0, .cmp 44] (z1w φ) l a := by kernel_rfl
theorem zd2 (φ : Nat) : fnMO TV (z49 Tryz.prog φ) φ Tryz.f165 165 44 (z1w φ) := by
 unfold fnMO
 show obl _ _ _ _ _ _ _
 unfold z1w
 repeat' (first | exact trivial | (refine ⟨?_, ?_⟩) | (intro _) | kernel_rfl)
theorem zcz [Dr] (φ : Nat) : zbr TV Tryz.prog 165 (z4a φ) := z95 (N := z49 Tryz.prog φ) (zg trivial ⟨(z8b φ), (z63 φ φ), trivial⟩ trivial trivial) (z1w φ) Tryz.func165 (by kernel_rfl) (zd3 φ) (zd2 φ)
def z19 (φ : Nat) : H TV (List (TT 44)) := .x
def z40 (P : Program) (φ : Nat) : Env TV := ⟨P, lk [], lk [(165, z4a φ)], lk [], lk []⟩
theorem zbx (φ : Nat) (l a) : (z3x φ).F l a = fnM TV (z40 Tryz.prog φ) φ Tryz.f137 165 44 [.cmp 44] (z19 φ) l a := by kernel_rfl
theorem zcp (φ : Nat) : fnMO TV (z40 Tryz.prog φ) φ Tryz.f137 165 44 (z19 φ) := by
 unfold fnMO
 show obl _ _ _ _ _ _ _
 unfold z19
 repeat' (first | exact trivial | (refine ⟨?_, ?_⟩) | (intro _) | kernel_rfl)
theorem zbz [Dr] (φ : Nat) : zbr TV Tryz.prog 137 (z3x φ) := z95 (N := z40 Tryz.prog φ) (zg trivial ⟨(zcz φ), trivial⟩ trivial trivial) (z19 φ) Tryz.func137 (by kernel_rfl) (zbx φ) (zcp φ)
def z61 (φ : Nat) : H TV (RTup TT [.val 0]) := .x
def z8v (P : Program) (φ : Nat) : Env TV := ⟨P, lk [(40, z3k φ), (139, z5n φ), (39, zbh φ)], lk [], lk [], lk []⟩
theorem zkl (φ : Nat) (a) : (z8c φ).F a = fnX TV (z8v Tryz.prog φ) φ Tryz.f138 [44, 44] [.val 0] (z61 φ) a := by kernel_rfl
theorem zjw (φ : Nat) : fnO TV (z8v Tryz.prog φ) φ Tryz.f138 [.val 0] (z61 φ) := by
 unfold fnO
 show obl _ _ _ _ _ _ _
 unfold z61
 repeat' (first | exact trivial | (refine ⟨?_, ?_⟩) | (intro _) | kernel_rfl)
theorem zjz [Dr] (φ : Nat) : z0s TV Tryz.prog 138 (z8c φ) :=
 z1f (N := z8v Tryz.prog φ) (zg ⟨z5k φ, zam φ, zfj φ, trivial⟩ trivial trivial trivial) (z61 φ) Tryz.func138 (by kernel_rfl) (zkl φ) (zjw φ)
theorem zgh (φ : Nat) (k9 : ((List z6) -> (List (Nat -> Int)) -> Int -> Int -> (List z7) -> Option ((List z7) × Unit))) (x18 : (List z6)) (x19 : (List (Nat -> Int))) (x20 : Int) (x21 : Int) (x22 : (List z7)) (x23 : (Nat -> Int)) : z9j (z5y φ k9 x18 x19 x20 x21 x22 x23) (z7r φ k9 x18 x19 x20 x21 x22 x23) := by
 unfold z5y z7r
 repeat' (first | exact z9j.one | exact z9j.nil | refine z9j.cons ?_ ?_ | refine z9j.ck ?_ | exact z9j.same (n := 2) rfl | exact z9j.same (n := 3) rfl | exact z9j.same (n := 4) rfl | exact z9j.same (n := 6) rfl | refine z9j.bind fun _ => ?_)
def z7b (φ : Nat) : H TV (RTup TT [.val 45]) := (.seq .x (.seq .x (.seq (.seq .x (.body (.loop ⟨[(67, [(1, .val 10), (5, .own 0), (12, .val 43), (13, .val 0), (14, .val 0)])], [.row 165 44]⟩ (fun n z => z9l φ n z.1 z.2.1 z.2.2.1 z.2.2.2.1 z.2.2.2.2.1) (fun zk9 => (.seq .x (.seq .x (.seq (.body (.seq .x (.seq (.join ⟨[(67, [(1, .val 10), (5, .own 0), (8, .ptr 1 0), (9, .ptr 2 0), (12, .val 43), (13, .val 0), (14, .val 0)])], [.row 165 44, .box 57 [.val 7], .box 57 [.val 7]]⟩ (fun z => z67 φ (fun a0 a1 a2 a3 a4 => zk9 (a0, a1, a2, a3, a4, ())) z.1 z.2.1 z.2.2.1 z.2.2.2.1 z.2.2.2.2.1 z.2.2.2.2.2.1 z.2.2.2.2.2.2.1) (.alt ⟨[(67, [(1, .val 10), (5, .own 0), (7, .ptr 1 0), (12, .val 43), (13, .val 0), (14, .val 0)])], [.row 165 44, .box 200 [.val 42]]⟩ (fun z => z5y φ (fun a0 a1 a2 a3 a4 => zk9 (a0, a1, a2, a3, a4, ())) z.1 z.2.1 z.2.2.1 z.2.2.2.1 z.2.2.2.2.1 z.2.2.2.2.2.1) (fun z => z7r φ (fun a0 a1 a2 a3 a4 => zk9 (a0, a1, a2, a3, a4, ())) z.1 z.2.1 z.2.2.1 z.2.2.2.1 z.2.2.2.2.1 z.2.2.2.2.2.1))) .x))) .x))))))) .x)))
def zad (P : Program) (φ : Nat) : Env TV := ⟨P, lk [(136, za8 φ), (138, z8c φ)], lk [(137, z3x φ)], lk [], lk []⟩
theorem zmo (φ : Nat) (a) : (zao φ).F a = fnX TV (zad Tryz.prog φ) φ Tryz.f98 [39, 10] [.val 45] (z7b φ) a := by kernel_rfl
theorem znq (φ : Nat) : fnO TV (zad Tryz.prog φ) φ Tryz.f98 [.val 45] (z7b φ) := by
 unfold fnO
 show obl _ _ _ _ _ _ _
 unfold z7b
 repeat' (first | exact trivial | (refine ⟨?_, ?_⟩) | (intro _) | kernel_rfl | exact zgh ..)
theorem zna [Dr] (φ : Nat) : z0s TV Tryz.prog 98 (zao φ) :=
 z1f (N := zad Tryz.prog φ) (zg ⟨zn5 φ, zjz φ, trivial⟩ ⟨(zbz φ), trivial⟩ trivial trivial) (z7b φ) Tryz.func98 (by kernel_rfl) (zmo φ) (znq φ)
def z7g (φ : Nat) : H TV (RTup TT [.val 47]) := (.seq .x (.seq .x (.seq (.seq .x (.body (.loop ⟨[(72, [(2, .val 0), (7, .own 0), (28, .val 45), (29, .val 0), (30, .val 0)])], [.row 127 46]⟩ (fun n z => z62 φ n z.1 z.2.1 z.2.2.1 z.2.2.2.1 z.2.2.2.2.1) (fun zk10 => .x)))) .x)))
def zae (P : Program) (φ : Nat) : Env TV := ⟨P, lk [(98, zao φ)], lk [], lk [], lk []⟩
theorem zn4 (φ : Nat) (a) : (zaq φ).F a = fnX TV (zae Tryz.prog φ) φ Tryz.f62 [39, 10, 0] [.val 47] (z7g φ) a := by kernel_rfl
theorem zmz (φ : Nat) : fnO TV (zae Tryz.prog φ) φ Tryz.f62 [.val 47] (z7g φ) := by
 unfold fnO
 show obl _ _ _ _ _ _ _
 unfold z7g
 repeat' (first | exact trivial | (refine ⟨?_, ?_⟩) | (intro _) | kernel_rfl)
theorem znf [Dr] (φ : Nat) : z0s TV Tryz.prog 62 (zaq φ) :=
 z1f (N := zae Tryz.prog φ) (zg ⟨zna φ, trivial⟩ trivial trivial trivial) (z7g φ) Tryz.func62 (by kernel_rfl) (zn4 φ) (zmz φ)
def zbk (φ : Nat) : H TV (RTup TT [.val 0, .val 0]) := (.seq .x (.seq .x (.seq .x (.seq .x (.seq (.body (.loop ⟨[(42, [(3, .val 0), (11, .val 47), (12, .val 0)])], []⟩ (fun n z => zbw φ n z.1 z.2.1 z.2.2.1) (fun zk10 => .x))) .x)))))
def zfk (P : Program) (φ : Nat) : Env TV := ⟨P, lk [(61, zas φ), (62, zaq φ)], lk [], lk [], lk []⟩
theorem zs5 (φ : Nat) (a) : (zft φ).F a = fnX TV (zfk Tryz.prog φ) φ Tryz.f32 [39, 10, 0, 0] [.val 0, .val 0] (zbk φ) a := by kernel_rfl
theorem zst (φ : Nat) : fnO TV (zfk Tryz.prog φ) φ Tryz.f32 [.val 0, .val 0] (zbk φ) := by
 unfold fnO
 show obl _ _ _ _ _ _ _
 unfold zbk
 repeat' (first | exact trivial | (refine ⟨?_, ?_⟩) | (intro _) | kernel_rfl)
theorem zsw [Dr] (φ : Nat) : z0s TV Tryz.prog 32 (zft φ) :=
 z1f (N := zfk Tryz.prog φ) (zg ⟨zn0 φ, znf φ, trivial⟩ trivial trivial trivial) (zbk φ) Tryz.func32 (by kernel_rfl) (zs5 φ) (zst φ)
def z9p (φ : Nat) : H TV (RTup TT [.val 0, .val 0]) := (.seq .x (.seq .x (.seq .x (.seq .x (.seq (.seq .x (.body (.loop ⟨[(116, [(1, .val 10), (3, .ptr 0 0), (5, .ptr 1 0), (9, .ptr 2 0), (35, .val 5), (36, .val 0), (37, .val 0)])], [.box 51 [.val 39], .box 57 [.val 7], .box 114 [.own 3], .map 9 1 0]⟩ (fun n z => z78 φ n z.1 z.2.1 z.2.2.1 z.2.2.2.1 z.2.2.2.2.1 z.2.2.2.2.2.1 z.2.2.2.2.2.2.1) (fun zk13 => .x)))) (.seq .x (.seq (.seq .x (.body (.loop ⟨[(116, [(1, .val 10), (3, .ptr 0 0), (5, .ptr 1 0), (9, .ptr 2 0), (12, .own 3), (48, .val 10), (49, .val 0), (50, .val 0)])], [.box 51 [.val 39], .box 57 [.val 7], .box 114 [.own 4], .row 57 7, .map 9 1 0]⟩ (fun n z => zai φ n z.1 z.2.1 z.2.2.1 z.2.2.2.1 z.2.2.2.2.1 z.2.2.2.2.2.1 z.2.2.2.2.2.2.1 z.2.2.2.2.2.2.2.1) (fun zk23 => (.seq .x (.seq .x (.seq (.body (.seq .x (.seq (.ins 4 50 (.seq .x (.seq (.ins 2 78 (.seq .x (.seq (.seq .x (.body (.loop ⟨[(19, [(0, .val 5), (1, .func 51 [.ptr 0 0]), (7, .val 0), (8, .val 0)]), (9, []), (116, [(1, .val 10), (3, .ptr 1 0), (5, .ptr 2 0), (9, .ptr 0 0), (12, .own 3), (14, .ptr 4 0), (48, .val 10), (49, .val 0), (50, .val 0)])], [.box 114 [.own 5], .box 51 [.val 39], .box 57 [.val 7], .row 57 7, .box 57 [.val 7], .map 9 1 0]⟩ (fun n z => zac φ (fun a0 a1 a2 a3 a4 a5 a6 a7 => zk23 (a0, a1, a2, a3, a4, a5, a6, a7, ())) n z.1 z.2.1 z.2.2.1 z.2.2.2.1 z.2.2.2.2.1 z.2.2.2.2.2.1 z.2.2.2.2.2.2.1 z.2.2.2.2.2.2.2.1 z.2.2.2.2.2.2.2.2.1 z.2.2.2.2.2.2.2.2.2.1 z.2.2.2.2.2.2.2.2.2.2.1 z.2.2.2.2.2.2.2.2.2.2.2.1) (fun zk36 => .x)))) .x)) .x) .x)) .x) .x))) .x))))))) (.seq (.frz [(9, some 0), (3, none), (5, none), (9, none)] .x) .x))))))))
def ze5 (P : Program) (φ : Nat) : Env TV := ⟨P, lk [(49, z3u φ), (30, zfq φ), (47, z9m φ), (53, z9t φ), (32, zft φ)], lk [(52, z3l φ)], lk [(51, zau φ)], lk []⟩
theorem zqu (φ : Nat) (a) : (zea φ).F a = fnX TV (ze5 Tryz.prog φ) φ Tryz.f22 [39, 10, 7] [.val 0, .val 0] (z9p φ) a := by kernel_rfl
theorem zqa (φ : Nat) : fnO TV (ze5 Tryz.prog φ) φ Tryz.f22 [.val 0, .val 0] (z9p φ) := by
 unfold fnO
 show obl _ _ _ _ _ _ _
 unfold z9p
 repeat' (first | exact trivial | (refine ⟨?_, ?_⟩) | (intro _) | kernel_rfl)
theorem zqd [Dr] (φ : Nat) : z0s TV Tryz.prog 22 (zea φ) :=
 z1f (N := ze5 Tryz.prog φ) (zg ⟨z6h φ, zoc φ, zfx φ, ziw φ, zsw φ, trivial⟩ ⟨(z8f φ), trivial⟩ ⟨zmp φ, trivial⟩ trivial) (z9p φ) Tryz.func22 (by kernel_rfl) (zqu φ) (zqa φ)
def zdm (φ : Nat) : H TV (RTup TT [.val 1]) := .x
def zgu (P : Program) (φ : Nat) : Env TV := ⟨P, lk [(26, zd9 φ), (25, zat φ), (16, z6q φ), (33, zbq φ), (15, z54 φ), (13, z8p φ), (12, z6k φ), (24, zdx φ), (19, z7i φ), (18, z7j φ), (34, zhq φ), (22, zea φ)], lk [], lk [], lk []⟩
theorem zus (φ : Nat) (a) : (zgi φ).F a = fnX TV (zgu Tryz.prog φ) φ Tryz.f10 [] [.val 1] (zdm φ) a := by kernel_rfl
theorem zvj (φ : Nat) : fnO TV (zgu Tryz.prog φ) φ Tryz.f10 [.val 1] (zdm φ) := by
 unfold fnO
 show obl _ _ _ _ _ _ _
 unfold zdm
 repeat' (first | exact trivial | (refine ⟨?_, ?_⟩) | (intro _) | kernel_rfl)
theorem zun (φ : Nat) : z0s TV Tryz.prog 10 (zgi φ) :=
 z1f (N := zgu Tryz.prog φ) (zg ⟨zmf φ, zn2 φ, zex φ, zpr φ, zb8 φ, zh2 φ, zeq φ, zq8 φ, zg2 φ, zfy φ, zv7 φ, zqd φ, trivial⟩ trivial trivial trivial) (zdm φ) Tryz.func10 (by kernel_rfl) (zus φ) (zvj φ)
def zfc (φ : Nat) : H TV (RTup TT [.val 1]) := (.seq .x (.seq .x (.seq (.seq .x (.body (.loop ⟨[(21, [(0, .val 10), (3, .val 0)])], []⟩ (fun n z => z7z φ n z.1 z.2.1) (fun zk4 => .x)))) .x)))
def zj3 (P : Program) (φ : Nat) : Env TV := ⟨P, lk [], lk [], lk [], lk []⟩
theorem zxj (φ : Nat) (a) : (zj0 φ).F a = fnX TV (zj3 Tryz.prog φ) φ Tryz.f11 [10] [.val 1] (zfc φ) a := by kernel_rfl
theorem zwv (φ : Nat) : fnO TV (zj3 Tryz.prog φ) φ Tryz.f11 [.val 1] (zfc φ) := by
 unfold fnO
 show obl _ _ _ _ _ _ _
 unfold zfc
 repeat' (first | exact trivial | (refine ⟨?_, ?_⟩) | (intro _) | kernel_rfl)
theorem zxl [Dr] (φ : Nat) : z0s TV Tryz.prog 11 (zj0 φ) :=
 z1f (N := zj3 Tryz.prog φ) (zg trivial trivial trivial trivial) (zfc φ) Tryz.func11 (by kernel_rfl) (zxj φ) (zwv φ)
def z9y (φ : Nat) : H TV (RTup TT [.val 1]) := .x
def ze6 (P : Program) (φ : Nat) : Env TV := ⟨P, lk [], lk [], lk [], lk []⟩
theorem zqh (φ : Nat) (a) : (zdu φ).F a = fnX TV (ze6 Tryz.prog φ) φ Tryz.f57 [3, 3] [.val 1] (z9y φ) a := by kernel_rfl
theorem zqq (φ : Nat) : fnO TV (ze6 Tryz.prog φ) φ Tryz.f57 [.val 1] (z9y φ) := by
 unfold fnO
 show obl _ _ _ _ _ _ _
 unfold z9y
 repeat' (first | exact trivial | (refine ⟨?_, ?_⟩) | (intro _) | kernel_rfl)
theorem zqr [Dr] (φ : Nat) : z0s TV Tryz.prog 57 (zdu φ) :=
 z1f (N := ze6 Tryz.prog φ) (zg trivial trivial trivial trivial) (z9y φ) Tryz.func57 (by kernel_rfl) (zqh φ) (zqq φ)
def z92 (φ : Nat) : H TV (RTup TT [.val 1]) := .x
def zcq (P : Program) (φ : Nat) : Env TV := ⟨P, lk [(57, zdu φ)], lk [], lk [], lk []⟩
theorem zol (φ : Nat) (a) : (zby φ).F a = fnX TV (zcq Tryz.prog φ) φ Tryz.f67 [7, 7] [.val 1] (z92 φ) a := by kernel_rfl
theorem zpv (φ : Nat) : fnO TV (zcq Tryz.prog φ) φ Tryz.f67 [.val 1] (z92 φ) := by
 unfold fnO
 show obl _ _ _ _ _ _ _
 unfold z92
 repeat' (first | exact trivial | (refine ⟨?_, ?_⟩) | (intro _) | kernel_rfl)
theorem zop [Dr] (φ : Nat) : z0s TV Tryz.prog 67 (zby φ) :=
 z1f (N := zcq Tryz.prog φ) (zg ⟨zqr φ, trivial⟩ trivial trivial trivial) (z92 φ) Tryz.func67 (by kernel_rfl) (zol φ) (zpv φ)
def z8s (φ : Nat) : H TV (RTup TT [.val 10]) := (.seq .x (.seq .x (.seq (.seq .x (.body (.loop ⟨[(77, [(0, .val 10), (1, .val 0), (5, .own 0), (6, .val 0)])], [.row 57 7]⟩ (fun n z => z1p φ n z.1 z.2.1 z.2.2.1 z.2.2.2.1) (fun zk7 => (.seq .x (.seq (.body (.seq .x (.seq .x (.seq .x (.body (.loop ⟨[(77, [(0, .val 10), (1, .val 0), (5, .own 0), (6, .val 0), (7, .val 0)])], [.row 57 7]⟩ (fun n z => z3v φ (fun a0 a1 a2 a3 => zk7 (a0, a1, a2, a3, ())) n z.1 z.2.1 z.2.2.1 z.2.2.2.1 z.2.2.2.2.1) (fun zk13 => .x))))))) .x)))))) .x)))
def zc8 (P : Program) (φ : Nat) : Env TV := ⟨P, lk [(67, zby φ)], lk [], lk [], lk []⟩
theorem zpg (φ : Nat) (a) : (z6b φ).F a = fnX TV (zc8 Tryz.prog φ) φ Tryz.f41 [10, 0] [.val 10] (z8s φ) a := by kernel_rfl
theorem zpw (φ : Nat) : fnO TV (zc8 Tryz.prog φ) φ Tryz.f41 [.val 10] (z8s φ) := by
 unfold fnO
 show obl _ _ _ _ _ _ _
 unfold z8s
 repeat' (first | exact trivial | (refine ⟨?_, ?_⟩) | (intro _) | kernel_rfl)
theorem zcg [Dr] (φ : Nat) : z0s TV Tryz.prog 41 (z6b φ) :=
 z1f (N := zc8 Tryz.prog φ) (zg ⟨zop φ, trivial⟩ trivial trivial trivial) (z8s φ) Tryz.func41 (by kernel_rfl) (zpg φ) (zpw φ)
def zdl (φ : Nat) : H TV (RTup TT [.val 1]) := .x
def zh9 (P : Program) (φ : Nat) : Env TV := ⟨P, lk [], lk [], lk [], lk []⟩
theorem zue (φ : Nat) (a) : (zgw φ).F a = fnX TV (zh9 Tryz.prog φ) φ Tryz.f68 [2, 2] [.val 1] (zdl φ) a := by kernel_rfl
theorem zvq (φ : Nat) : fnO TV (zh9 Tryz.prog φ) φ Tryz.f68 [.val 1] (zdl φ) := by
 unfold fnO
 show obl _ _ _ _ _ _ _
 unfold zdl
 repeat' (first | exact trivial | (refine ⟨?_, ?_⟩) | (intro _) | kernel_rfl)
theorem zv9 [Dr] (φ : Nat) : z0s TV Tryz.prog 68 (zgw φ) :=
 z1f (N := zh9 Tryz.prog φ) (zg trivial trivial trivial trivial) (zdl φ) Tryz.func68 (by kernel_rfl) (zue φ) (zvq φ)
def z60 (φ : Nat) : H TV (RTup TT [.val 5]) := (.seq .x (.seq .x (.seq (.seq .x (.body (.loop ⟨[(83, [(0, .val 10), (3, .own 0), (4, .val 0)])], [.row 24 2]⟩ (fun n z => z0d φ n z.1 z.2.1 z.2.2.1) (fun zk5 => (.seq .x (.seq (.body (.seq .x (.body (.loop ⟨[(83, [(0, .val 10), (3, .own 0), (4, .val 0), (5, .val 0)])], [.row 24 2]⟩ (fun n z => z1o φ (fun a0 a1 a2 => zk5 (a0, a1, a2, ())) n z.1 z.2.1 z.2.2.1 z.2.2.2.1) (fun zk10 => (.seq .x (.seq (.body (.seq .x (.seq .x (.seq .x (.seq (.seq .x (.body (.loop ⟨[(83, [(0, .val 10), (3, .own 0), (4, .val 0), (5, .val 0), (6, .ptr 1 0), (7, .own 2), (8, .val 0)])], [.row 24 2, .box 24 [.val 2], .row 24 2]⟩ (fun n z => z06 φ (fun a0 a1 a2 a3 => zk10 (a0, a1, a2, a3, ())) n z.1 z.2.1 z.2.2.1 z.2.2.2.1 z.2.2.2.2.1 z.2.2.2.2.2.1 z.2.2.2.2.2.2.1) (fun zk18 => .x)))) (.seq .x (.seq (.seq .x (.body (.loop ⟨[(83, [(0, .val 10), (3, .own 0), (4, .val 0), (5, .val 0), (6, .ptr 1 0), (7, .own 2), (9, .val 0)])], [.row 24 2, .box 24 [.val 2], .row 24 2]⟩ (fun n z => z07 φ (fun a0 a1 a2 a3 => zk10 (a0, a1, a2, a3, ())) n z.1 z.2.1 z.2.2.1 z.2.2.2.1 z.2.2.2.2.1 z.2.2.2.2.2.1 z.2.2.2.2.2.2.1) (fun zk27 => .x)))) .x))))))) .x))))))) .x)))))) .x)))
def z8h (P : Program) (φ : Nat) : Env TV := ⟨P, lk [(68, zgw φ)], lk [], lk [], lk []⟩
theorem zk2 (φ : Nat) (a) : (z8y φ).F a = fnX TV (z8h Tryz.prog φ) φ Tryz.f42 [10] [.val 5] (z60 φ) a := by kernel_rfl
theorem zkw (φ : Nat) : fnO TV (z8h Tryz.prog φ) φ Tryz.f42 [.val 5] (z60 φ) := by
 unfold fnO
 show obl _ _ _ _ _ _ _
 unfold z60
 repeat' (first | exact trivial | (refine ⟨?_, ?_⟩) | (intro _) | kernel_rfl)
theorem zjt [Dr] (φ : Nat) : z0s TV Tryz.prog 42 (z8y φ) :=
 z1f (N := z8h Tryz.prog φ) (zg ⟨zv9 φ, trivial⟩ trivial trivial trivial) (z60 φ) Tryz.func42 (by kernel_rfl) (zk2 φ) (zkw φ)
end Px
end
section
set_option linter.unusedVariables false
set_option linter.unusedSimpArgs false
set_option maxHeartbeats 4000000
set_option maxRecDepth 100000
namespace Px
open Go Go.RowKit Go.Proofs
def zde (φ : Nat) : H TV (RTup TT [.row 3 0]) := (.seq .x (.seq .x (.seq (.seq .x (.body (.loop ⟨[(52, [(0, .val 8), (1, .val 0), (5, .own 0), (6, .val 0)])], [.row 3 0]⟩ (fun n z => z5h φ n z.1 z.2.1 z.2.2.1 z.2.2.2.1) (fun zk7 => .x)))) (.seq .x (.seq (.seq .x (.body (.loop ⟨[(52, [(0, .val 8), (1, .val 0), (5, .own 0), (7, .val 0)])], [.row 3 0]⟩ (fun n z => z3s φ n z.1 z.2.1 z.2.2.1 z.2.2.2.1) (fun zk12 => .x)))) .x)))))
def zgn (P : Program) (φ : Nat) : Env TV := ⟨P, lk [], lk [], lk [], lk []⟩
theorem zui (φ : Nat) (a) : (zdf φ).F a = fnX TV (zgn Tryz.prog φ) φ Tryz.f48 [8, 0] [.row 3 0] (zde φ) a := by kernel_rfl
theorem zum (φ : Nat) : fnO TV (zgn Tryz.prog φ) φ Tryz.f48 [.row 3 0] (zde φ) := by
 unfold fnO
 show obl _ _ _ _ _ _ _
 unfold zde
 repeat' (first | exact trivial | (refine ⟨?_, ?_⟩) | (intro _) | kernel_rfl)
theorem zmg [Dr] (φ : Nat) : z0s TV Tryz.prog 48 (zdf φ) :=
 z1f (N := zgn Tryz.prog φ) (zg trivial trivial trivial trivial) (zde φ) Tryz.func48 (by kernel_rfl) (zui φ) (zum φ)
def z8g (φ : Nat) : H TV (RTup TT [.row 3 0]) := (.seq .x (.seq .x (.seq (.seq .x (.body (.loop ⟨[(28, [(0, .val 8), (1, .val 0), (5, .own 0), (6, .val 0)])], [.row 3 0]⟩ (fun n z => z3d φ n z.1 z.2.1 z.2.2.1 z.2.2.2.1) (fun zk7 => .x)))) .x)))
def zbp (P : Program) (φ : Nat) : Env TV := ⟨P, lk [], lk [], lk [], lk []⟩
theorem zp0 (φ : Nat) (a) : (zct φ).F a = fnX TV (zbp Tryz.prog φ) φ Tryz.f69 [8, 0] [.row 3 0] (z8g φ) a := by kernel_rfl
theorem zoa (φ : Nat) : fnO TV (zbp Tryz.prog φ) φ Tryz.f69 [.row 3 0] (z8g φ) := by
 unfold fnO
 show obl _ _ _ _ _ _ _
 unfold z8g
 repeat' (first | exact trivial | (refine ⟨?_, ?_⟩) | (intro _) | kernel_rfl)
theorem zom [Dr] (φ : Nat) : z0s TV Tryz.prog 69 (zct φ) :=
 z1f (N := zbp Tryz.prog φ) (zg trivial trivial trivial trivial) (z8g φ) Tryz.func69 (by kernel_rfl) (zp0 φ) (zoa φ)
def z7k (φ : Nat) : H TV (RTup TT [.val 8]) := (.seq .x (.seq .x (.seq (.seq .x (.body (.loop ⟨[(63, [(0, .val 10), (1, .val 0), (2, .val 0), (7, .own 0), (8, .val 0)])], [.row 3 0]⟩ (fun n z => z3w φ n z.1 z.2.1 z.2.2.1 z.2.2.2.1 z.2.2.2.2.1) (fun zk9 => (.seq .x (.seq (.body (.seq .x (.seq .x (.body (.loop ⟨[(63, [(0, .val 10), (1, .val 0), (2, .val 0), (7, .own 0), (8, .val 0), (9, .ptr 1 0), (10, .val 0)])], [.row 3 0, .box 55 [.val 6]]⟩ (fun n z => z09 φ (fun a0 a1 a2 a3 a4 => zk9 (a0, a1, a2, a3, a4, ())) n z.1 z.2.1 z.2.2.1 z.2.2.2.1 z.2.2.2.2.1 z.2.2.2.2.2.1 z.2.2.2.2.2.2.1) (fun zk17 => .x)))))) .x)))))) .x)))
def zay (P : Program) (φ : Nat) : Env TV := ⟨P, lk [(48, zdf φ), (69, zct φ)], lk [], lk [], lk []⟩
theorem zmy (φ : Nat) (a) : (z5m φ).F a = fnX TV (zay Tryz.prog φ) φ Tryz.f43 [10, 0, 0] [.val 8] (z7k φ) a := by kernel_rfl
theorem znp (φ : Nat) : fnO TV (zay Tryz.prog φ) φ Tryz.f43 [.val 8] (z7k φ) := by
 unfold fnO
 show obl _ _ _ _ _ _ _
 unfold z7k
 repeat' (first | exact trivial | (refine ⟨?_, ?_⟩) | (intro _) | kernel_rfl)
theorem zaw [Dr] (φ : Nat) : z0s TV Tryz.prog 43 (z5m φ) :=
 z1f (N := zay Tryz.prog φ) (zg ⟨zmg φ, zom φ, trivial⟩ trivial trivial trivial) (z7k φ) Tryz.func43 (by kernel_rfl) (zmy φ) (znp φ)
def z9r (φ : Nat) : H TV (RTup TT [.val 5]) := (.seq .x (.seq .x (.seq .x (.seq .x (.seq (.seq .x (.body (.loop ⟨[(54, [(1, .val 0), (7, .val 10), (8, .val 5), (9, .own 0), (10, .val 0)])], [.row 24 2]⟩ (fun n z => z3a φ n z.1 z.2.1 z.2.2.1 z.2.2.2.1 z.2.2.2.2.1) (fun zk11 => .x)))) .x)))))
def zei (P : Program) (φ : Nat) : Env TV := ⟨P, lk [(41, z6b φ), (42, z8y φ), (43, z5m φ)], lk [], lk [], lk []⟩
theorem zqe (φ : Nat) (a) : (zem φ).F a = fnX TV (zei Tryz.prog φ) φ Tryz.f14 [10, 0, 0] [.val 5] (z9r φ) a := by kernel_rfl
theorem zqf (φ : Nat) : fnO TV (zei Tryz.prog φ) φ Tryz.f14 [.val 5] (z9r φ) := by
 unfold fnO
 show obl _ _ _ _ _ _ _
 unfold z9r
 repeat' (first | exact trivial | (refine ⟨?_, ?_⟩) | (intro _) | kernel_rfl)
theorem zqn [Dr] (φ : Nat) : z0s TV Tryz.prog 14 (zem φ) :=
 z1f (N := zei Tryz.prog φ) (zg ⟨zcg φ, zjt φ, zaw φ, trivial⟩ trivial trivial trivial) (z9r φ) Tryz.func14 (by kernel_rfl) (zqe φ) (zqf φ)
def z75 (φ : Nat) : H TV (RTup TT [.val 14]) := (.seq .x (.seq .x (.seq .x (.seq (.seq .x (.body (.loop ⟨[(40, [(1, .val 0), (2, .val 0), (9, .val 8), (10, .own 0), (11, .val 0)])], [.row 73 13]⟩ (fun n z => z2x φ n z.1 z.2.1 z.2.2.1 z.2.2.2.1 z.2.2.2.2.1) (fun zk12 => .x)))) .x))))
def za9 (P : Program) (φ : Nat) : Env TV := ⟨P, lk [(41, z6b φ), (43, z5m φ)], lk [], lk [], lk []⟩
theorem znj (φ : Nat) (a) : (zaj φ).F a = fnX TV (za9 Tryz.prog φ) φ Tryz.f17 [10, 0, 0, 0] [.val 14] (z75 φ) a := by kernel_rfl
theorem zms (φ : Nat) : fnO TV (za9 Tryz.prog φ) φ Tryz.f17 [.val 14] (z75 φ) := by
 unfold fnO
 show obl _ _ _ _ _ _ _
 unfold z75
 repeat' (first | exact trivial | (refine ⟨?_, ?_⟩) | (intro _) | kernel_rfl)
theorem znd [Dr] (φ : Nat) : z0s TV Tryz.prog 17 (zaj φ) :=
 z1f (N := za9 Tryz.prog φ) (zg ⟨zcg φ, zaw φ, trivial⟩ trivial trivial trivial) (z75 φ) Tryz.func17 (by kernel_rfl) (znj φ) (zms φ)
def z8x (φ : Nat) : H TV (RTup TT [.val 8]) := (.seq .x (.seq .x (.seq .x (.seq (.seq .x (.body (.loop ⟨[(83, [(0, .val 10), (1, .val 0), (5, .val 10), (6, .own 0), (7, .val 0)])], [.row 3 0]⟩ (fun n z => z36 φ n z.1 z.2.1 z.2.2.1 z.2.2.2.1 z.2.2.2.2.1) (fun zk9 => (.seq .x (.seq (.body (.seq .x (.seq .x (.body (.loop ⟨[(83, [(0, .val 10), (1, .val 0), (5, .val 10), (6, .own 0), (7, .val 0), (8, .val 0)])], [.row 3 0]⟩ (fun n z => z20 φ (fun a0 a1 a2 a3 a4 => zk9 (a0, a1, a2, a3, a4, ())) n z.1 z.2.1 z.2.2.1 z.2.2.2.1 z.2.2.2.2.1 z.2.2.2.2.2.1) (fun zk16 => (.seq .x (.seq (.body (.seq .x (.seq .x (.body (.loop ⟨[(83, [(0, .val 10), (1, .val 0), (5, .val 10), (6, .own 0), (7, .val 0), (8, .val 0), (9, .val 8), (10, .val 0)])], [.row 3 0]⟩ (fun n z => z2e φ (fun a0 a1 a2 a3 a4 a5 => zk16 (a0, a1, a2, a3, a4, a5, ())) n z.1 z.2.1 z.2.2.1 z.2.2.2.1 z.2.2.2.2.1 z.2.2.2.2.2.1 z.2.2.2.2.2.2.1 z.2.2.2.2.2.2.2.1) (fun zk26 => .x)))))) .x)))))))) .x)))))) .x))))
def zbs (P : Program) (φ : Nat) : Env TV := ⟨P, lk [(41, z6b φ), (43, z5m φ), (48, zdf φ)], lk [], lk [], lk []⟩
theorem zpk (φ : Nat) (a) : (zch φ).F a = fnX TV (zbs Tryz.prog φ) φ Tryz.f20 [10, 0] [.val 8] (z8x φ) a := by kernel_rfl
theorem zob (φ : Nat) : fnO TV (zbs Tryz.prog φ) φ Tryz.f20 [.val 8] (z8x φ) := by
 unfold fnO
 show obl _ _ _ _ _ _ _
 unfold z8x
 repeat' (first | exact trivial | (refine ⟨?_, ?_⟩) | (intro _) | kernel_rfl)
theorem zo4 [Dr] (φ : Nat) : z0s TV Tryz.prog 20 (zch φ) :=
 z1f (N := zbs Tryz.prog φ) (zg ⟨zcg φ, zaw φ, zmg φ, trivial⟩ trivial trivial trivial) (z8x φ) Tryz.func20 (by kernel_rfl) (zpk φ) (zob φ)
def z0p (φ : Nat) : H TV (RTup TT [.val 1]) := .x
def z2v (P : Program) (φ : Nat) : Env TV := ⟨P, lk [(10, zgi φ), (11, zj0 φ), (13, z8p φ), (14, zem φ), (12, z6k φ), (16, z6q φ), (17, zaj φ), (15, z54 φ), (19, z7i φ), (20, zch φ), (18, z7j φ)], lk [], lk [], lk []⟩
theorem za4 (φ : Nat) (a) : (z0r φ).F a = fnX TV (z2v Tryz.prog φ) φ Tryz.f3 [10, 0, 2, 0] [.val 1] (z0p φ) a := by kernel_rfl
theorem za1 (φ : Nat) : fnO TV (z2v Tryz.prog φ) φ Tryz.f3 [.val 1] (z0p φ) := by
 unfold fnO
 show obl _ _ _ _ _ _ _
 unfold z0p
 repeat' (first | exact trivial | (refine ⟨?_, ?_⟩) | (intro _) | kernel_rfl)
theorem za5 (φ : Nat) : z0s TV Tryz.prog 3 (z0r φ) :=
 z1f (N := z2v Tryz.prog φ) (zg ⟨zun φ, zxl φ, zh2 φ, zqn φ, zeq φ, zex φ, znd φ, zb8 φ, zg2 φ, zo4 φ, zfy φ, trivial⟩ trivial trivial trivial) (z0p φ) Tryz.func3 (by kernel_rfl) (za4 φ) (za1 φ)
end Px
end
section
namespace Px
open Go
set_option linter.unusedVariables false
set_option linter.unusedSimpArgs false
structure Swo {α : Type} (lt : α -> α -> Bool) : Prop where
 asym : ∀ a b, lt a b = true -> lt b a = false
 ntr : ∀ a b c, lt a b = false -> lt b c = false -> lt a c = false
def Srt {α : Type} (lt : α -> α -> Bool) (l : List α) : Prop := l.Pairwise fun a b => lt b a = false
def eqv2 {α : Type} (lt : α -> α -> Bool) (a b : α) : Bool := !lt a b && !lt b a
def Stb {α : Type} (lt : α -> α -> Bool) (l r : List α) : Prop := r.Perm l /\ ∀ a, r.filter (eqv2 lt a) = l.filter (eqv2 lt a)
section
variable {α : Type} {lt : α -> α -> Bool}
theorem Swo.irr (h : Swo lt) (a : α) : lt a a = false := by
 cases e : lt a a with
 | false => rfl
 | true => exact (h.asym a a e).symm.trans e |>.symm
theorem znv {a b : α} : eqv2 lt a b = true ↔ lt a b = false /\ lt b a = false := by simp [eqv2]
theorem Stb.refl (l : List α) : Stb lt l l := ⟨.refl _, fun _ => rfl⟩
theorem Stb.trans {a b c : List α} (h : Stb lt a b) (h' : Stb lt b c) : Stb lt a c := ⟨h'.1.trans h.1, fun x => (h'.2 x).trans (h.2 x)⟩
theorem Stb.app {a b c d : List α} (h : Stb lt a b) (h' : Stb lt c d) : Stb lt (a ++ c) (b ++ d) := ⟨h.1.append h'.1, fun x => by simp only [List.filter_append, h.2 x, h'.2 x]⟩
theorem Stb.mem {l r : List α} (h : Stb lt l r) {x : α} : x ∈ r ↔ x ∈ l := h.1.mem_iff
theorem Stb.len {l r : List α} (h : Stb lt l r) : r.length = l.length := h.1.length_eq
theorem zvu (a : α) {X : List α} (h : ∀ x ∈ X, eqv2 lt a x = false) : X.filter (eqv2 lt a) = [] := by
 rw [List.filter_eq_nil_iff]; intro x hx; simp [h x hx]
theorem Stb.swap (hs : Swo lt) {X Y : List α} (h : ∀ x ∈ X, ∀ y ∈ Y, lt y x = true) : Stb lt (X ++ Y) (Y ++ X) := by
 refine ⟨List.perm_append_comm, fun a => ?_⟩
 simp only [List.filter_append]
 by_cases hx : ∃ x ∈ X, eqv2 lt a x = true
 ·obtain ⟨x, hx, ex⟩ := hx
  have : Y.filter (eqv2 lt a) = [] := zvu a fun y hy => by
   cases e : eqv2 lt a y with
   | false => rfl
   | true =>
    have h1 := znv.1 e
    have h2 := znv.1 ex
    have := hs.ntr y a x h1.2 h2.1
    rw [h x hx y hy] at this; cases this
  rw [this]; simp
 ·have : X.filter (eqv2 lt a) = [] := zvu a fun x hx' => by
   cases e : eqv2 lt a x with
   | false => rfl
   | true => exact absurd ⟨x, hx', e⟩ hx
  rw [this]; simp
theorem Srt.app {a b : List α} (h : Srt lt a) (h' : Srt lt b) (hc : ∀ x ∈ a, ∀ y ∈ b, lt y x = false) : Srt lt (a ++ b) := List.pairwise_append.2 ⟨h, h', hc⟩
theorem Srt.parts {a b : List α} (h : Srt lt (a ++ b)) : Srt lt a /\ Srt lt b /\ ∀ x ∈ a, ∀ y ∈ b, lt y x = false := List.pairwise_append.1 h
theorem Srt.unique (hs : Swo lt) : ∀ {r r' : List α}, Srt lt r -> Srt lt r' -> Stb lt r r' -> r = r'
 | [], r', _, _, h => by
  have := h.len; simp at this; exact this.symm
 | x :: r, r', hr, hr', h => by
  cases r' with
  | nil => have := h.len; simp at this
  | cons y r' =>
   have hr1 := List.pairwise_cons.1 hr
   have hr2 := List.pairwise_cons.1 hr'
   have h1 : lt y x = false := by
    rcases List.mem_cons.1 (h.mem.1 (List.mem_cons_self (a := y))) with e | e
    ·rw [e]; exact hs.irr _
    ·exact hr1.1 y e
   have h2 : lt x y = false := by
    rcases List.mem_cons.1 (h.mem.2 (List.mem_cons_self (a := x))) with e | e
    ·rw [e]; exact hs.irr _
    ·exact hr2.1 x e
   have e1 : eqv2 lt x x = true := znv.2 ⟨hs.irr _, hs.irr _⟩
   have e2 : eqv2 lt x y = true := znv.2 ⟨h2, h1⟩
   have hf := h.2 x
   rw [List.filter_cons_of_pos e1, List.filter_cons_of_pos e2] at hf
   have hxy : y = x := (List.cons.inj hf).1
   subst hxy
   congr 1
   refine Srt.unique hs hr1.2 hr2.2 ⟨(List.perm_cons _).1 h.1, fun a => ?_⟩
   have := h.2 a
   simp only [List.filter_cons] at this
   split at this
   ·exact (List.cons.inj this).2
   ·exact this
theorem zj7 (hs : Swo lt) {A B C E R1 R2 : List α} (h1 : Srt lt (A ++ B)) (h2 : Srt lt (C ++ E)) (hA : ∀ x ∈ B, ∀ y ∈ C, lt y x = true) (hB : ∀ x ∈ A, ∀ y ∈ E, lt y x = false)
  (s1 : Srt lt R1) (t1 : Stb lt (A ++ C) R1) (s2 : Srt lt R2) (t2 : Stb lt (B ++ E) R2) : Srt lt (R1 ++ R2) /\ Stb lt ((A ++ B) ++ (C ++ E)) (R1 ++ R2) := by
 refine ⟨s1.app s2 fun u hu v hv => ?_, ?_⟩
 ·have hu := List.mem_append.1 (t1.mem.1 hu)
  have hv := List.mem_append.1 (t2.mem.1 hv)
  rcases hu with hu | hu <;> rcases hv with hv | hv
  ·exact h1.parts.2.2 u hu v hv
  ·exact hB u hu v hv
  ·exact hs.asym _ _ (hA v hv u hu)
  ·exact h2.parts.2.2 u hu v hv
 ·have : Stb lt ((A ++ B) ++ (C ++ E)) ((A ++ C) ++ (B ++ E)) := by
   have := ((Stb.refl (lt := lt) A).app (Stb.swap hs hA)).app (Stb.refl E)
   simpa [List.append_assoc] using this
  exact this.trans (t1.app t2)
theorem zm4 (hs : Swo lt) {y c x b : α} (h1 : lt c y = false) (h2 : lt c b = true) (h3 : lt x b = false) : lt y x = true := by
 cases e : lt y x with
 | true => rfl
 | false =>
  have := hs.ntr _ _ _ (hs.ntr _ _ _ h1 e) h3
  rw [h2] at this; cases this
theorem zxe (hs : Swo lt) {y e x a : α} (h1 : lt y e = false) (h2 : lt e a = false) (h3 : lt a x = false) : lt y x = false := hs.ntr _ _ _ (hs.ntr _ _ _ h1 h2) h3
theorem y0a (hs : Swo lt) {A B : List α} {x : α} (h : ∀ y ∈ B, lt x y = true) : Stb lt (A ++ B ++ [x]) (A ++ [x] ++ B) := by
 have := (Stb.refl (lt := lt) A).app (Stb.swap hs (X := B) (Y := [x]) fun z hz y hy => by simp at hy; subst hy; exact h z hz)
 simpa [List.append_assoc] using this
theorem zwn {ρ : Type} (L : Nat -> Int -> Int -> Option ρ) (k : Int -> Option ρ) (pred : Nat -> Bool) (R : Nat) (s0 : Nat)
  (step : ∀ n s r : Nat, s0 <= s -> s < r -> r <= R -> L (n + 1) s r = if pred ((s + r) / 2) = true then L n (((s + r) / 2 + 1 : Nat)) r else L n s ((s + r) / 2 : Nat)) (done : ∀ n s : Nat, L (n + 1) s s = k s) :
  ∀ n s r : Nat, s0 <= s -> s <= r -> r <= R -> r - s < n -> ∃ c : Nat, s <= c /\ c <= r /\ (c = s \/ pred (c - 1) = true) /\ (c = r \/ pred c = false) /\ L n s r = k c := by
 intro n
 induction n with
 | zero => intro s r _ _ _ h; omega
 | succ n ih =>
  intro s r h0 h hR hn
  by_cases e : s = r
  ·subst e; exact ⟨s, Nat.le_refl _, Nat.le_refl _, .inl rfl, .inl rfl, done n s⟩
  ·rw [step n s r h0 (by omega) hR]
   cases hp : pred ((s + r) / 2) with
   | true =>
    rw [if_pos rfl]
    obtain ⟨c, h1, h2, h3, h4, h5⟩ := ih ((s + r) / 2 + 1) r (by omega) (by omega) hR (by omega)
    refine ⟨c, by omega, h2, ?_, h4, h5⟩
    rcases h3 with h3 | h3
    ·right; rw [h3]; simpa using hp
    ·exact .inr h3
   | false =>
    rw [if_neg (by simp)]
    obtain ⟨c, h1, h2, h3, h4, h5⟩ := ih s ((s + r) / 2) h0 (by omega) (by omega) (by omega)
    refine ⟨c, h1, by omega, h3, ?_, h5⟩
    rcases h4 with h4 | h4
    ·right; rw [h4]; exact hp
    ·exact .inr h4
end
section arr
variable {α : Type} [Inhabited α]
theorem zg4 {A B : List α} {x : α} {i : Int} (h : i = A.length) : gt (A ++ x :: B) i = x := by
 subst h; rw [za2 _ _ _ (Int.le_refl _)]; simp [gt]
omit [Inhabited α] in
theorem zm8 {A B : List α} {x y : α} {i : Int} (h : i = A.length) : z0b (A ++ x :: B) i y = A ++ y :: B := by
 subst h; simp [z0b]
theorem y3n {n : Int} (h0 : 0 <= n) (h : n <= 4611686018427387904) : W ((U (W n)).fdiv 2) = n / 2 := by
 rw [W_id (x := n) (by omega) (by omega), U_id h0 (by omega), Int.fdiv_eq_ediv_of_nonneg _ (by omega), W_id (by omega) (by omega)]
end arr
def Cmp {α : Type} (D : α -> Prop) (y : α -> α -> Option Int) (lt : α -> α -> Bool) : Prop := ∀ a b, D a -> D b -> ∃ z, y a b = some z /\ decide (z < 0) = lt a b
theorem z98 {α : Type} (l : List α) : l = [] \/ ∃ S w, l = S ++ [w] := by
 rcases List.eq_nil_or_concat l with h | ⟨S, w, h⟩
 ·exact .inl h
 ·exact .inr ⟨S, w, by rw [h, List.concat_eq_append]⟩
inductive Runs {α : Type} (lt : α -> α -> Bool) (bs : Nat) : List α -> Prop
 | last {l : List α} (h : l.length <= bs) (hs : Srt lt l) : Runs lt bs l
 | cons {b r : List α} (h : b.length = bs) (hs : Srt lt b) (hr : Runs lt bs r) : Runs lt bs (b ++ r)
theorem Runs.small {α : Type} {lt : α -> α -> Bool} {bs : Nat} {l : List α} (h : Runs lt bs l) (hl : l.length <= bs) : Srt lt l := by
 cases h with
 | last _ hs => exact hs
 | cons h hs hr =>
  rename_i b r
  have : r = [] := List.eq_nil_of_length_eq_zero (by simp at hl; omega)
  rw [this, List.append_nil]; exact hs
theorem Runs.big {α : Type} {lt : α -> α -> Bool} {bs : Nat} {l : List α} (h : Runs lt bs l) (hl : bs < l.length) : ∃ b r, l = b ++ r /\ b.length = bs /\ Srt lt b /\ Runs lt bs r /\ r ≠ [] := by
 cases h with
 | last h _ => omega
 | cons h hs hr =>
  rename_i b r
  exact ⟨b, r, rfl, h, hs, hr, by intro e; subst e; simp at hl; omega⟩
end Px
end
section
namespace Px
open Go
set_option linter.unusedVariables false
set_option linter.unusedSimpArgs false
set_option maxHeartbeats 1000000
section
variable {α : Type} [Inhabited α]
def zkc (φ : Nat) (k10 : (Int -> Int -> (α -> α -> Option Int) -> Int -> (List α) -> Option (List α))) : Nat -> Int -> Int -> (α -> α -> Option Int) -> Int -> Int -> (List α) -> Option (List α)
 | 0, _, _, _, _, _, _ => none
 | n17 + 1, x11, x12, x13, x14, x15, x16 => (ck (((decide ((x11 : Int) < x15)) = true) -> (0 : Int) <= x15 /\ x15 < (x16.length : Int)) (ck (((decide ((x11 : Int) < x15)) = true) -> (0 : Int) <= (W (x15 - 1)) /\ (W (x15 - 1)) < (x16.length : Int)) ((z0e (0 : Int) ((decide ((x11 : Int) < x15)) = true) (x13 (gt x16 x15) (gt x16 (W (x15 - 1))))).bind fun y18 => (if ((decide ((x11 : Int) < x15)) && (decide ((y18 : Int) < 0))) = true then (ck ((0 : Int) <= (W (x15 - 1)) /\ (W (x15 - 1)) < (x16.length : Int)) (ck ((0 : Int) <= x15 /\ x15 < (x16.length : Int)) (ck ((0 : Int) <= x15 /\ x15 < (x16.length : Int)) (ck ((0 : Int) <= (W (x15 - 1)) /\ (W (x15 - 1)) < (((z0b x16 x15 (gt x16 (W (x15 - 1))))).length : Int)) ((zkc φ k10 n17) x11 x12 x13 x14 (W (x15 - 1)) ((z0b ((z0b x16 x15 (gt x16 (W (x15 - 1))))) (W (x15 - 1)) (gt x16 x15)))))))) else (k10 x11 x12 x13 (W (x14 + 1)) x16)))))
def zfe (φ : Nat) : Nat -> Int -> Int -> (α -> α -> Option Int) -> Int -> (List α) -> Option (List α)
 | 0, _, _, _, _, _ => none
 | n10 + 1, x5, x6, x7, x8, x9 => (if (decide ((x8 : Int) < x6)) = true then (zkc φ (zfe φ n10) φ x5 x6 x7 x8 x8 x9) else (some x9))
def gins (φ : Nat) (x1 : (List α)) (x2 : Int) (x3 : Int) (x4 : (α -> α -> Option Int)) : Option (List α) := (zfe φ φ x2 x3 x4 (W (x2 + 1)) x1)
def zgo (φ : Nat) : Nat -> Int -> Int -> Int -> Int -> (List α) -> Option (List α)
 | 0, _, _, _, _, _ => none
 | n11 + 1, x6, x7, x8, x9, x10 => (if (decide ((x9 : Int) < x8)) = true then (ck ((0 : Int) <= (W (x7 + x9)) /\ (W (x7 + x9)) < (x10.length : Int)) (ck ((0 : Int) <= (W (x6 + x9)) /\ (W (x6 + x9)) < (x10.length : Int)) (ck ((0 : Int) <= (W (x6 + x9)) /\ (W (x6 + x9)) < (x10.length : Int)) (ck ((0 : Int) <= (W (x7 + x9)) /\ (W (x7 + x9)) < (((z0b x10 (W (x6 + x9)) (gt x10 (W (x7 + x9))))).length : Int)) ((zgo φ n11) x6 x7 x8 (W (x9 + 1)) ((z0b ((z0b x10 (W (x6 + x9)) (gt x10 (W (x7 + x9))))) (W (x7 + x9)) (gt x10 (W (x6 + x9)))))))))) else (some x10))
def y1a (φ : Nat) (x1 : (List α)) (x2 : Int) (x3 : Int) (x4 : Int) (x5 : (α -> α -> Option Int)) : Option (List α) := (zgo φ φ x2 x3 x4 0 x1)
def zjp (φ : Nat) : Nat -> Int -> (α -> α -> Option Int) -> Int -> Int -> (List α) -> Option (List α)
 | 0, _, _, _, _, _ => none
 | n11 + 1, x6, x7, x8, x9, x10 => (if ((x8 : Int) != x9) = true then (if (decide ((x9 : Int) < x8)) = true then ((y1a φ x10 (W (x6 - x8)) x6 x9 x7).bind fun y12 => ((zjp φ n11) x6 x7 (W (x8 - x9)) x9 y12)) else ((y1a φ x10 (W (x6 - x8)) ((W ((W (x6 + x9)) - x8))) x8 x7).bind fun y13 => ((zjp φ n11) x6 x7 x8 (W (x9 - x8)) y13))) else ((y1a φ x10 (W (x6 - x8)) x6 x8 x7).bind fun y14 => (some y14)))
def grot (φ : Nat) (x1 : (List α)) (x2 : Int) (x3 : Int) (x4 : Int) (x5 : (α -> α -> Option Int)) : Option (List α) := (zjp φ φ x3 x5 (W (x3 - x2)) (W (x4 - x3)) x1)
def zic (φ : Nat) : Nat -> Int -> Int -> (List α) -> Option (List α)
 | 0, _, _, _ => none
 | n16 + 1, x13, x14, x15 => (if (decide ((x14 : Int) < (W (x13 - 1)))) = true then (ck ((0 : Int) <= (W (x14 + 1)) /\ (W (x14 + 1)) < (x15.length : Int)) (ck ((0 : Int) <= x14 /\ x14 < (x15.length : Int)) (ck ((0 : Int) <= x14 /\ x14 < (x15.length : Int)) (ck ((0 : Int) <= (W (x14 + 1)) /\ (W (x14 + 1)) < (((z0b x15 x14 (gt x15 (W (x14 + 1))))).length : Int)) ((zic φ n16) x13 (W (x14 + 1)) ((z0b ((z0b x15 x14 (gt x15 (W (x14 + 1))))) (W (x14 + 1)) (gt x15 x14)))))))) else (some x15))
def zbj (φ : Nat) : Nat -> Int -> (α -> α -> Option Int) -> Int -> Int -> (List α) -> Option (List α)
 | 0, _, _, _, _, _ => none
 | n11 + 1, x6, x7, x8, x9, x10 => (if (decide ((x8 : Int) < x9)) = true then (if 0 <= (1 : Int) then (ck ((0 : Int) <= (W ((((U ((W (x8 + x9)))) : Int).fdiv (2 ^ (min (1 : Int).toNat 64))))) /\ (W ((((U ((W (x8 + x9)))) : Int).fdiv (2 ^ (min (1 : Int).toNat 64))))) < (x10.length : Int)) (ck ((0 : Int) <= x6 /\ x6 < (x10.length : Int)) ((x7 (((gt x10 ((W ((((U ((W (x8 + x9)))) : Int).fdiv (2 ^ (min (1 : Int).toNat 64))))))))) (gt x10 x6)).bind fun y12 => (if (decide ((y12 : Int) < 0)) = true then ((zbj φ n11) x6 x7 ((W ((W ((((U ((W (x8 + x9)))) : Int).fdiv (2 ^ (min (1 : Int).toNat 64))))) + 1))) x9 x10) else ((zbj φ n11) x6 x7 x8 ((W ((((U ((W (x8 + x9)))) : Int).fdiv (2 ^ (min (1 : Int).toNat 64)))))) x10))))) else none) else (zic φ φ x8 x6 x10))
def zi5 (φ : Nat) : Nat -> Int -> Int -> (List α) -> Option (List α)
 | 0, _, _, _ => none
 | n27 + 1, x24, x25, x26 => (if (decide ((x24 : Int) < x25)) = true then (ck ((0 : Int) <= (W (x25 - 1)) /\ (W (x25 - 1)) < (x26.length : Int)) (ck ((0 : Int) <= x25 /\ x25 < (x26.length : Int)) (ck ((0 : Int) <= x25 /\ x25 < (x26.length : Int)) (ck ((0 : Int) <= (W (x25 - 1)) /\ (W (x25 - 1)) < (((z0b x26 x25 (gt x26 (W (x25 - 1))))).length : Int)) ((zi5 φ n27) x24 (W (x25 - 1)) ((z0b ((z0b x26 x25 (gt x26 (W (x25 - 1))))) (W (x25 - 1)) (gt x26 x25)))))))) else (some x26))
def zbg (φ : Nat) : Nat -> Int -> (α -> α -> Option Int) -> Int -> Int -> (List α) -> Option (List α)
 | 0, _, _, _, _, _ => none
 | n22 + 1, x17, x18, x19, x20, x21 => (if (decide ((x19 : Int) < x20)) = true then (if 0 <= (1 : Int) then (ck ((0 : Int) <= x17 /\ x17 < (x21.length : Int)) (ck ((0 : Int) <= (W ((((U ((W (x19 + x20)))) : Int).fdiv (2 ^ (min (1 : Int).toNat 64))))) /\ (W ((((U ((W (x19 + x20)))) : Int).fdiv (2 ^ (min (1 : Int).toNat 64))))) < (x21.length : Int)) ((x18 (gt x21 x17) (((gt x21 ((W ((((U ((W (x19 + x20)))) : Int).fdiv (2 ^ (min (1 : Int).toNat 64)))))))))).bind fun y23 => (if (!(decide ((y23 : Int) < 0))) = true then ((zbg φ n22) x17 x18 ((W ((W ((((U ((W (x19 + x20)))) : Int).fdiv (2 ^ (min (1 : Int).toNat 64))))) + 1))) x20 x21) else ((zbg φ n22) x17 x18 x19 ((W ((((U ((W (x19 + x20)))) : Int).fdiv (2 ^ (min (1 : Int).toNat 64)))))) x21))))) else none) else (zi5 φ φ x19 x17 x21))
def zku (φ : Nat) (k0 : ((List α) -> Int -> Int -> Int -> (α -> α -> Option Int) -> Option (List α))) (x58 : Int) (x59 : (α -> α -> Option Int)) (x60 : Int) (x61 : Int) (x62 : (List α)) : Option (List α) := (if ((decide ((x60 : Int) < x61)) && (decide ((x61 : Int) < x58))) = true then ((k0 x62 x60 x61 x58 x59).bind fun y64 => (some y64)) else (some x62))
def zf7 (φ : Nat) (k0 : ((List α) -> Int -> Int -> Int -> (α -> α -> Option Int) -> Option (List α))) (x50 : Int) (x51 : Int) (x52 : (α -> α -> Option Int)) (x53 : Int) (x54 : Int) (x55 : Int) (x56 : (List α)) : Option (List α) := (if ((decide ((x50 : Int) < x54)) && (decide ((x54 : Int) < x53))) = true then ((k0 x56 x50 x54 x53 x52).bind fun y65 => (zku φ k0 x51 x52 x53 x55 y65)) else (zku φ k0 x51 x52 x53 x55 x56))
def zbb (φ : Nat) (k0 : ((List α) -> Int -> Int -> Int -> (α -> α -> Option Int) -> Option (List α))) : Nat -> Int -> Int -> Int -> (α -> α -> Option Int) -> Int -> Int -> Int -> Int -> Int -> (List α) -> Option (List α)
 | 0, _, _, _, _, _, _, _, _, _, _ => none
 | n48 + 1, x38, x39, x40, x41, x42, x43, x44, x45, x46, x47 => (if (decide ((x44 : Int) < x45)) = true then (if 0 <= (1 : Int) then (ck ((0 : Int) <= (W (x46 - (W ((((U ((W (x44 + x45)))) : Int).fdiv (2 ^ (min (1 : Int).toNat 64))))))) /\ (W (x46 - (W ((((U ((W (x44 + x45)))) : Int).fdiv (2 ^ (min (1 : Int).toNat 64))))))) < (x47.length : Int)) (ck ((0 : Int) <= (W ((((U ((W (x44 + x45)))) : Int).fdiv (2 ^ (min (1 : Int).toNat 64))))) /\ (W ((((U ((W (x44 + x45)))) : Int).fdiv (2 ^ (min (1 : Int).toNat 64))))) < (x47.length : Int)) ((x41 (((gt x47 ((W (x46 - (W ((((U ((W (x44 + x45)))) : Int).fdiv (2 ^ (min (1 : Int).toNat 64))))))))))) (((gt x47 ((W ((((U ((W (x44 + x45)))) : Int).fdiv (2 ^ (min (1 : Int).toNat 64)))))))))).bind fun y49 => (if (!(decide ((y49 : Int) < 0))) = true then ((zbb φ k0 n48) x38 x39 x40 x41 x42 x43 ((W ((W ((((U ((W (x44 + x45)))) : Int).fdiv (2 ^ (min (1 : Int).toNat 64))))) + 1))) x45 x46 x47) else ((zbb φ k0 n48) x38 x39 x40 x41 x42 x43 x44 ((W ((((U ((W (x44 + x45)))) : Int).fdiv (2 ^ (min (1 : Int).toNat 64)))))) x46 x47))))) else none) else (if ((decide ((x44 : Int) < x39)) && (decide ((x39 : Int) < (W (x43 - x44))))) = true then ((grot φ x47 x44 x39 (W (x43 - x44)) x41).bind fun y66 => (zf7 φ k0 x38 x40 x41 x42 x44 (W (x43 - x44)) y66)) else (zf7 φ k0 x38 x40 x41 x42 x44 (W (x43 - x44)) x47)))
def zhx (φ : Nat) (k0 : ((List α) -> Int -> Int -> Int -> (α -> α -> Option Int) -> Option (List α))) (x28 : Int) (x29 : Int) (x30 : Int) (x31 : (α -> α -> Option Int)) (x32 : Int) (x33 : Int) (x34 : Int) (x35 : Int) (x36 : (List α)) : Option (List α) := (zbb φ k0 φ x28 x29 x30 x31 x32 x33 x34 x35 (W (x33 - 1)) x36)
def gsym (φ : Nat) : Nat -> (List α) -> Int -> Int -> Int -> (α -> α -> Option Int) -> Option (List α)
 | 0, _, _, _, _, _ => none
 | d + 1, x1, x2, x3, x4, x5 => (if (((W (x3 - x2)) : Int) == 1) = true then (zbj φ φ x2 x5 x3 x4 x1) else (if (((W (x4 - x3)) : Int) == 1) = true then (zbg φ φ x3 x5 x2 x3 x1) else (if 0 <= (1 : Int) then (if (decide (((W ((((U ((W (x2 + x4)))) : Int).fdiv (2 ^ (min (1 : Int).toNat 64))))) : Int) < x3)) = true then (zhx φ (gsym φ d) x2 x3 x4 x5 ((W ((((U ((W (x2 + x4)))) : Int).fdiv (2 ^ (min (1 : Int).toNat 64)))))) ((W ((W ((((U ((W (x2 + x4)))) : Int).fdiv (2 ^ (min (1 : Int).toNat 64))))) + x3))) ((W ((W ((W ((((U ((W (x2 + x4)))) : Int).fdiv (2 ^ (min (1 : Int).toNat 64))))) + x3)) - x4))) ((W ((((U ((W (x2 + x4)))) : Int).fdiv (2 ^ (min (1 : Int).toNat 64)))))) x1) else (zhx φ (gsym φ d) x2 x3 x4 x5 ((W ((((U ((W (x2 + x4)))) : Int).fdiv (2 ^ (min (1 : Int).toNat 64)))))) ((W ((W ((((U ((W (x2 + x4)))) : Int).fdiv (2 ^ (min (1 : Int).toNat 64))))) + x3))) x2 x3 x1)) else none)))
def zkt (φ : Nat) (k17 : (Int -> (α -> α -> Option Int) -> Int -> (List α) -> Option (List α))) : Nat -> Int -> (α -> α -> Option Int) -> Int -> Int -> Int -> (List α) -> Option (List α)
 | 0, _, _, _, _, _, _ => none
 | n24 + 1, x18, x19, x20, x21, x22, x23 => (if (decide ((x22 : Int) <= x18)) = true then ((gsym φ φ x23 x21 (W (x21 + x20)) x22 x19).bind fun y25 => ((zkt φ k17 n24) x18 x19 x20 x22 ((W (x22 + (W (2 * x20))))) y25)) else (if (decide (((W (x21 + x20)) : Int) < x18)) = true then ((gsym φ φ x23 x21 (W (x21 + x20)) x18 x19).bind fun y26 => (k17 x18 x19 (W (x20 * 2)) y26)) else (k17 x18 x19 (W (x20 * 2)) x23)))
def z9z (φ : Nat) : Nat -> Int -> (α -> α -> Option Int) -> Int -> (List α) -> Option (List α)
 | 0, _, _, _, _ => none
 | n17 + 1, x13, x14, x15, x16 => (if (decide ((x15 : Int) < x13)) = true then (zkt φ (z9z φ n17) φ x13 x14 x15 0 (W (2 * x15)) x16) else (some x16))
def zgz (φ : Nat) : Nat -> Int -> (α -> α -> Option Int) -> Int -> Int -> Int -> (List α) -> Option (List α)
 | 0, _, _, _, _, _, _ => none
 | n10 + 1, x4, x5, x6, x7, x8, x9 => (if (decide ((x8 : Int) <= x4)) = true then ((gins φ x9 x7 x8 x5).bind fun y11 => ((zgz φ n10) x4 x5 x6 x8 (W (x8 + x6)) y11)) else ((gins φ x9 x7 x4 x5).bind fun y12 => (z9z φ φ x4 x5 x6 y12)))
def ydw (φ : Nat) (x1 : (List α)) (x2 : Int) (x3 : (α -> α -> Option Int)) : Option (List α) := (zgz φ φ x2 x3 20 0 20 x1)
def ycw (φ : Nat) (x1 : (List α)) (x2 : (α -> α -> Option Int)) : Option (List α) := ((ydw φ x1 (x1.length : Int) x2).bind fun y3 => (some y3))
theorem yeu {β : Type} {z : β} {p : Prop} [Decidable p] {x : Option β} (h : p) : z0e z p x = x := if_pos h
variable {D : α -> Prop} {lt : α -> α -> Bool} {y : α -> α -> Option Int}
theorem ybd (hy : Cmp D y lt) (φ : Nat) (k : Int -> Int -> (α -> α -> Option Int) -> Int -> List α -> Option (List α)) (b i0 : Int) (P : List α) (x : α) (hx : D x) : ∀ (n : Nat) (S1 S2 : List α), (∀ z ∈ S1, D z) -> P.length + S1.length + S2.length <= 1000000 -> S1.length < n ->
  ∃ A B, S1 = A ++ B /\ (∀ z ∈ B, lt x z = true) /\ (A = [] \/ ∃ A' z, A = A' ++ [z] /\ lt x z = false) /\
   zkc φ k n (P.length : Int) b y i0 ((P.length : Int) + S1.length) (P ++ S1 ++ x :: S2) = k (P.length : Int) b y (W (i0 + 1)) (P ++ A ++ x :: (B ++ S2)) := by
 intro n
 induction n with
 | zero => intro S1 S2 _ _ h; omega
 | succ n ih =>
  intro S1 S2 hD hl hn
  rcases List.eq_nil_or_concat S1 with rfl | ⟨S, z, rfl⟩
  ·refine ⟨[], [], rfl, by simp, .inl rfl, ?_⟩
   have h0 : decide ((P.length : Int) < (P.length : Int) + (([] : List α).length : Int)) = false := by simp
   rw [zkc, h0]
   simp [ck, z0e]
  ·simp only [List.concat_eq_append] at hD hl hn ⊢
   simp only [List.length_append, List.length_cons, List.length_nil] at hl hn
   have e1 : P ++ (S ++ [z]) ++ x :: S2 = (P ++ S ++ [z]) ++ x :: S2 := by simp
   have e2 : P ++ (S ++ [z]) ++ x :: S2 = (P ++ S) ++ z :: (x :: S2) := by simp
   have g1 : gt (P ++ (S ++ [z]) ++ x :: S2) ((P.length : Int) + ((S ++ [z]).length : Int)) = x := by
    rw [e1]; exact zg4 (by simp <;> omega)
   have hw : W ((P.length : Int) + ((S ++ [z]).length : Int) - 1) = (P.length : Int) + S.length := by
    rw [W_id (by simp; omega) (by simp; omega)]; simp; omega
   have g2 : gt (P ++ (S ++ [z]) ++ x :: S2) ((P.length : Int) + (S.length : Int)) = z := by
    rw [e2]; exact zg4 (by simp)
   have h0 : decide ((P.length : Int) < (P.length : Int) + ((S ++ [z]).length : Int)) = true := by simp; omega
   have hlen : ((P ++ (S ++ [z]) ++ x :: S2).length : Int) = P.length + S.length + 1 + 1 + S2.length := by simp; omega
   obtain ⟨w, hw1, hw2⟩ := hy x z hx (hD z (by simp))
   have s1 : z0b (P ++ (S ++ [z]) ++ x :: S2) ((P.length : Int) + ((S ++ [z]).length : Int)) z = (P ++ S) ++ z :: (z :: S2) := by
    rw [e1, zm8 (by simp <;> omega)]; simp
   have s2 : z0b ((P ++ S) ++ z :: (z :: S2)) ((P.length : Int) + (S.length : Int)) x = P ++ S ++ x :: (z :: S2) := zm8 (by simp)
   rw [zkc, hw, h0, g1, g2, hw1, hlen]
   rw [zc (fun _ => ⟨by omega, by simp; omega⟩), zc (fun _ => ⟨by omega, by omega⟩), yeu rfl]
   simp only [Option.bind_some, hw2, Bool.true_and]
   cases hlt : lt x z with
   | true =>
    rw [if_pos rfl, zc ⟨by omega, by omega⟩, zc ⟨by omega, by simp; omega⟩, zc ⟨by omega, by simp; omega⟩, s1]
    rw [zc ⟨by omega, by simp; omega⟩, s2]
    obtain ⟨A, B, q1, q2, q3, q4⟩ := ih S (z :: S2) (fun u hu => hD u (by simp [hu])) (by simp; omega) (by omega)
    refine ⟨A, B ++ [z], by rw [q1]; simp, ?_, q3, ?_⟩
    ·intro u hu
     rcases List.mem_append.1 hu with h | h
     ·exact q2 u h
     ·simp at h; rw [h]; exact hlt
    ·rw [q4]; simp
   | false =>
    rw [if_neg (by simp)]
    exact ⟨S ++ [z], [], by simp, by simp, .inr ⟨S, z, rfl, hlt⟩, by simp⟩
theorem y5q (hs : Swo lt) (hy : Cmp D y lt) (φ : Nat) (P Q : List α) : ∀ (n : Nat) (S R : List α), S ≠ [] -> Srt lt S -> (∀ z ∈ S, D z) -> (∀ z ∈ R, D z) -> P.length + S.length + R.length + Q.length <= 1000000 -> P.length + S.length + R.length < φ -> R.length < n ->
  ∃ S', Srt lt S' /\ Stb lt (S ++ R) S' /\ zfe φ n (P.length : Int) ((P.length : Int) + S.length + R.length) y ((P.length : Int) + S.length) (P ++ S ++ R ++ Q) = some (P ++ S' ++ Q) := by
 intro n
 induction n with
 | zero => intro S R _ _ _ _ _ _ h; omega
 | succ n ih =>
  intro S R hne hS hD hD' hl hφ hn
  cases R with
  | nil =>
   refine ⟨S, hS, by simpa using Stb.refl S, ?_⟩
   rw [zfe, if_neg (by simp)]
   simp
  | cons x R =>
   simp only [List.length_cons] at hl hφ hn
   rw [zfe, if_pos (by simp; omega)]
   obtain ⟨A, B, q1, q2, q3, q4⟩ := ybd hy φ (zfe φ n) ((P.length : Int) + S.length + (x :: R).length) ((P.length : Int) + S.length) P x (hD' x (by simp)) φ S (R ++ Q) hD (by simp; omega) (by omega)
   rw [show P ++ S ++ x :: R ++ Q = P ++ S ++ x :: (R ++ Q) by simp, q4]
   have hA : ∀ u ∈ A, lt x u = false := by
    rcases q3 with rfl | ⟨A', z, rfl, hz⟩
    ·simp
    ·intro u hu
     rcases List.mem_append.1 hu with h | h
     ·subst q1
      have := (hS.parts.1).parts.2.2 u h z (by simp)
      exact hs.ntr _ _ _ hz this
     ·simp at h; rw [h]; exact hz
   have hS2 : Srt lt (A ++ x :: B) := by
    subst q1
    refine hS.parts.1.app (List.pairwise_cons.2 ⟨fun u hu => hs.asym _ _ (q2 u hu), hS.parts.2.1⟩) fun u hu v hv => ?_
    rcases List.mem_cons.1 hv with h | h
    ·subst h; exact hA u hu
    ·exact hS.parts.2.2 u hu v h
   obtain ⟨S', p1, p2, p3⟩ := ih (A ++ x :: B) R (by simp) hS2 (fun z hz => by
    subst q1
    simp only [List.mem_append, List.mem_cons] at hz
    rcases hz with h | h | h
    ·exact hD z (by simp [h])
    ·subst h; exact hD' _ (by simp)
    ·exact hD z (by simp [h])) (fun z hz => hD' z (by simp [hz])) (by subst q1; simp at hl ⊢; omega) (by subst q1; simp at hφ ⊢; omega) (by omega)
   refine ⟨S', p1, ?_, ?_⟩
   ·have h1 : Stb lt (S ++ [x]) (A ++ [x] ++ B) := by subst q1; exact y0a hs q2
    have := h1.app (Stb.refl R)
    refine Stb.trans ?_ (Stb.trans this ?_)
    ·simpa using Stb.refl (lt := lt) (S ++ x :: R)
    ·simpa using p2
   ·rw [<- p3]
    have e1 : W ((P.length : Int) + S.length + 1) = (P.length : Int) + S.length + 1 := W_id (by omega) (by omega)
    have hSl : S.length = A.length + B.length := by rw [q1]; simp
    have e2 : (P.length : Int) + S.length + 1 = P.length + (A ++ x :: B).length := by simp; omega
    have e3 : (P.length : Int) + S.length + (x :: R).length = P.length + (A ++ x :: B).length + R.length := by simp; omega
    have e4 : P ++ A ++ x :: (B ++ (R ++ Q)) = P ++ (A ++ x :: B) ++ R ++ Q := by simp
    rw [e1, e2, e3, e4]
theorem y4t (hs : Swo lt) (hy : Cmp D y lt) (φ : Nat) (P X Q : List α) (hD : ∀ z ∈ X, D z) (hl : P.length + X.length + Q.length <= 1000000) (hφ : P.length + X.length < φ) :
  ∃ X', Srt lt X' /\ Stb lt X X' /\ gins φ (P ++ X ++ Q) (P.length : Int) ((P.length : Int) + X.length) y = some (P ++ X' ++ Q) := by
 unfold gins
 rw [W_id (x := (P.length : Int) + 1) (by omega) (by omega)]
 cases X with
 | nil =>
  refine ⟨[], List.Pairwise.nil, Stb.refl _, ?_⟩
  obtain ⟨n, rfl⟩ : ∃ n, φ = n + 1 := ⟨φ - 1, by omega⟩
  rw [zfe, if_neg (by simp; omega)]
 | cons x R =>
  simp only [List.length_cons] at hl hφ
  obtain ⟨S', p1, p2, p3⟩ := y5q hs hy φ P Q φ [x] R (by simp) (List.pairwise_singleton _ _) (fun z hz => hD z (by simp at hz; simp [hz])) (fun z hz => hD z (by simp [hz])) (by simp; omega) (by simp; omega) (by omega)
  refine ⟨S', p1, by simpa using p2, ?_⟩
  rw [<- p3]
  simp only [List.append_assoc, List.cons_append, List.length_cons, List.length_nil, List.nil_append]
  congr 1
  simp; omega
theorem yd9 (φ : Nat) (P Z Q : List α) (c : Nat) : ∀ (n : Nat) (X1 X2 Y1 Y2 : List α), X1.length = Y1.length -> X2.length = Y2.length -> c = X1.length + X2.length -> P.length + c + Z.length + c + Q.length <= 1000000 -> X2.length < n ->
  zgo φ n (P.length : Int) ((P.length : Int) + c + Z.length) (c : Int) (X1.length : Int) (P ++ Y1 ++ X2 ++ Z ++ X1 ++ Y2 ++ Q) = some (P ++ Y1 ++ Y2 ++ Z ++ X1 ++ X2 ++ Q) := by
 intro n
 induction n with
 | zero => intro X1 X2 Y1 Y2 _ _ _ _ h; omega
 | succ n ih =>
  intro X1 X2 Y1 Y2 h1 h2 hc hl hn
  cases X2 with
  | nil =>
   have : Y2 = [] := List.eq_nil_of_length_eq_zero (by simpa using h2.symm)
   subst this
   simp only [List.length_nil, Nat.add_zero] at hc
   rw [zgo, if_neg (by simp; omega)]
  | cons x X2 =>
   cases Y2 with
   | nil => simp at h2
   | cons w Y2 =>
    simp only [List.length_cons, Nat.add_right_cancel_iff] at h2 hc hn
    have w1 : W ((P.length : Int) + c + Z.length + X1.length) = (P.length : Int) + c + Z.length + X1.length := W_id (by omega) (by omega)
    have w2 : W ((P.length : Int) + X1.length) = (P.length : Int) + X1.length := W_id (by omega) (by omega)
    have w3 : W ((X1.length : Int) + 1) = (X1.length : Int) + 1 := W_id (by omega) (by omega)
    have e1 : P ++ Y1 ++ x :: X2 ++ Z ++ X1 ++ w :: Y2 ++ Q = (P ++ Y1) ++ x :: (X2 ++ Z ++ X1 ++ w :: Y2 ++ Q) := by simp
    have e2 : P ++ Y1 ++ x :: X2 ++ Z ++ X1 ++ w :: Y2 ++ Q = (P ++ Y1 ++ x :: X2 ++ Z ++ X1) ++ w :: (Y2 ++ Q) := by simp
    have g1 : gt (P ++ Y1 ++ x :: X2 ++ Z ++ X1 ++ w :: Y2 ++ Q) ((P.length : Int) + X1.length) = x := by rw [e1]; exact zg4 (by simp; omega)
    have g2 : gt (P ++ Y1 ++ x :: X2 ++ Z ++ X1 ++ w :: Y2 ++ Q) ((P.length : Int) + c + Z.length + X1.length) = w := by rw [e2]; exact zg4 (by simp; omega)
    have s1 : z0b (P ++ Y1 ++ x :: X2 ++ Z ++ X1 ++ w :: Y2 ++ Q) ((P.length : Int) + X1.length) w = (P ++ Y1) ++ w :: (X2 ++ Z ++ X1 ++ w :: Y2 ++ Q) := by rw [e1]; exact zm8 (by simp; omega)
    have e3 : (P ++ Y1) ++ w :: (X2 ++ Z ++ X1 ++ w :: Y2 ++ Q) = (P ++ Y1 ++ w :: X2 ++ Z ++ X1) ++ w :: (Y2 ++ Q) := by simp
    have s2 : z0b ((P ++ Y1 ++ w :: X2 ++ Z ++ X1) ++ w :: (Y2 ++ Q)) ((P.length : Int) + c + Z.length + X1.length) x = (P ++ Y1 ++ w :: X2 ++ Z ++ X1) ++ x :: (Y2 ++ Q) := zm8 (by simp; omega)
    have e4 : (P ++ Y1 ++ w :: X2 ++ Z ++ X1) ++ x :: (Y2 ++ Q) = P ++ (Y1 ++ [w]) ++ X2 ++ Z ++ (X1 ++ [x]) ++ Y2 ++ Q := by simp
    have hlen : ((P ++ Y1 ++ x :: X2 ++ Z ++ X1 ++ w :: Y2 ++ Q).length : Int) = P.length + c + Z.length + c + Q.length := by simp; omega
    have hlen2 : (((P ++ Y1 ++ w :: X2 ++ Z ++ X1) ++ w :: (Y2 ++ Q)).length : Int) = P.length + c + Z.length + c + Q.length := by simp; omega
    rw [zgo, if_pos (by simp; omega), w1, w2, w3, g1, g2, s1, e3, s2, e4, hlen, hlen2]
    rw [zc ⟨by omega, by omega⟩, zc ⟨by omega, by omega⟩, zc ⟨by omega, by omega⟩, zc ⟨by omega, by omega⟩]
    have := ih (X1 ++ [x]) X2 (Y1 ++ [w]) Y2 (by simp [h1]) h2 (by simp; omega) hl (by omega)
    have e5 : (((X1 ++ [x]).length : Nat) : Int) = (X1.length : Int) + 1 := by simp
    rw [e5] at this
    rw [this]
    simp
theorem ztg (φ : Nat) (P X Z Y Q : List α) (y : α -> α -> Option Int) (h : X.length = Y.length) (hl : P.length + X.length + Z.length + X.length + Q.length <= 1000000) (hφ : X.length < φ) :
  y1a φ (P ++ X ++ Z ++ Y ++ Q) (P.length : Int) ((P.length : Int) + X.length + Z.length) (X.length : Int) y = some (P ++ Y ++ Z ++ X ++ Q) := by
 have := yd9 φ P Z Q X.length φ [] X [] Y rfl h (by simp) hl hφ
 simpa [y1a] using this
theorem yf5 (φ : Nat) (y : α -> α -> Option Int) : ∀ (n : Nat) (P X Y Q : List α), X ≠ [] -> Y ≠ [] -> P.length + X.length + Y.length + Q.length <= 1000000 -> X.length + Y.length <= n -> X.length + Y.length < φ ->
  zjp φ n ((P.length : Int) + X.length) y (X.length : Int) (Y.length : Int) (P ++ X ++ Y ++ Q) = some (P ++ Y ++ X ++ Q) := by
 intro n
 induction n with
 | zero => intro P X Y Q hX hY _ h; have := List.length_pos_iff.2 hX; omega
 | succ n ih =>
  intro P X Y Q hX hY hl hn hφ
  have hX0 := List.length_pos_iff.2 hX
  have hY0 := List.length_pos_iff.2 hY
  have w1 : W ((P.length : Int) + X.length - X.length) = (P.length : Int) := by rw [W_id (by omega) (by omega)]; omega
  rw [zjp, w1]
  by_cases he : X.length = Y.length
  ·rw [if_neg (by simp [he])]
   have := ztg φ P X [] Y Q y he (by simp; omega) (by omega)
   simp only [List.append_nil, List.length_nil, Int.ofNat_zero, Int.add_zero] at this
   rw [this]; rfl
  ·rw [if_pos (by simp; omega)]
   by_cases hlt : Y.length < X.length
   ·rw [if_pos (by simp; omega)]
    obtain ⟨X1, X2, rfl, h1⟩ : ∃ X1 X2, X = X1 ++ X2 /\ X1.length = Y.length := ⟨X.take Y.length, X.drop Y.length, (List.take_append_drop _ _).symm, by simp; omega⟩
    simp only [List.length_append] at hl hn hφ hlt hX0 he
    have e1 : P ++ (X1 ++ X2) ++ Y ++ Q = P ++ X1 ++ X2 ++ Y ++ Q := by simp
    have e2 : (P.length : Int) + ((X1 ++ X2).length : Nat) = (P.length : Int) + X1.length + X2.length := by simp; omega
    rw [e1, e2, <- h1, ztg φ P X1 X2 Y Q y h1 (by omega) (by omega)]
    simp only [Option.bind_some]
    have w2 : W (((X1 ++ X2).length : Int) - X1.length) = (X2.length : Int) := by simp; rw [W_id (by omega) (by omega)]; omega
    rw [w2]
    have := ih (P ++ Y) X2 X1 Q (by intro e; subst e; simp at hlt; omega) (by intro e; subst e; simp at h1; omega) (by simp; omega) (by omega) (by omega)
    have e3 : (((P ++ Y).length : Nat) : Int) + X2.length = (P.length : Int) + X1.length + X2.length := by simp; omega
    rw [e3] at this
    rw [this]
    simp
   ·rw [if_neg (by simp; omega)]
    obtain ⟨Y1, Y2, rfl, h1⟩ : ∃ Y1 Y2, Y = Y1 ++ Y2 /\ Y2.length = X.length := ⟨Y.take (Y.length - X.length), Y.drop (Y.length - X.length), (List.take_append_drop _ _).symm, by simp; omega⟩
    simp only [List.length_append] at hl hn hφ hlt hY0 he
    have e1 : P ++ X ++ (Y1 ++ Y2) ++ Q = P ++ X ++ Y1 ++ Y2 ++ Q := by simp
    have w3 : W ((P.length : Int) + X.length + ((Y1 ++ Y2).length : Nat)) = (P.length : Int) + X.length + Y1.length + Y2.length := by simp; rw [W_id (by omega) (by omega)]; omega
    have w4 : W ((P.length : Int) + X.length + Y1.length + Y2.length - X.length) = (P.length : Int) + X.length + Y1.length := by rw [W_id (by omega) (by omega)]; omega
    have w5 : W (((Y1 ++ Y2).length : Int) - X.length) = (Y1.length : Int) := by simp; rw [W_id (by omega) (by omega)]; omega
    rw [e1, w3, w4, w5, ztg φ P X Y1 Y2 Q y h1.symm (by omega) (by omega)]
    simp only [Option.bind_some]
    have := ih P Y2 Y1 (X ++ Q) (by intro e; subst e; simp at h1; omega) (by intro e; subst e; simp at h1 hlt he; omega) (by simp; omega) (by omega) (by omega)
    rw [h1] at this
    have e2 : P ++ Y2 ++ Y1 ++ X ++ Q = P ++ Y2 ++ Y1 ++ (X ++ Q) := by simp
    rw [e2, this]
    simp
theorem yba (φ : Nat) (P X Y Q : List α) (y : α -> α -> Option Int) (hX : X ≠ []) (hY : Y ≠ []) (hl : P.length + X.length + Y.length + Q.length <= 1000000) (hφ : X.length + Y.length < φ) :
  grot φ (P ++ X ++ Y ++ Q) (P.length : Int) ((P.length : Int) + X.length) ((P.length : Int) + X.length + Y.length) y = some (P ++ Y ++ X ++ Q) := by
 have := yf5 φ y φ P X Y Q hX hY hl (by omega) hφ
 rw [<- this]
 unfold grot
 have w1 : W ((P.length : Int) + X.length - P.length) = (X.length : Int) := by rw [W_id (by omega) (by omega)]; omega
 have w2 : W ((P.length : Int) + X.length + Y.length - ((P.length : Int) + X.length)) = (Y.length : Int) := by rw [W_id (by omega) (by omega)]; omega
 rw [w1, w2]
end
end Px
end
section
namespace Px
open Go
set_option linter.unusedVariables false
set_option linter.unusedSimpArgs false
set_option maxHeartbeats 4000000
section
variable {α : Type} [Inhabited α]
variable {D : α -> Prop} {lt : α -> α -> Bool} {y : α -> α -> Option Int}
theorem p21 : (2 : Int) ^ (min (1 : Int).toNat 64) = 2 := by decide
theorem y8i (φ : Nat) (x : α) : ∀ (n : Nat) (P C E : List α), P.length + C.length + E.length <= 999999 -> C.length < n ->
  zic φ n ((P.length : Int) + C.length + 1) (P.length : Int) (P ++ x :: (C ++ E)) = some (P ++ C ++ x :: E) := by
 intro n
 induction n with
 | zero => intro P C E _ h; omega
 | succ n ih =>
  intro P C E hl hn
  have w0 : W ((P.length : Int) + C.length + 1 - 1) = (P.length : Int) + C.length := by rw [W_id (by omega) (by omega)]; omega
  rw [zic, w0]
  cases C with
  | nil => rw [if_neg (by simp)]; simp
  | cons w C =>
   simp only [List.length_cons] at hl hn
   have w1 : W ((P.length : Int) + 1) = (P.length : Int) + 1 := W_id (by omega) (by omega)
   have e1 : P ++ x :: (w :: C ++ E) = (P ++ [x]) ++ w :: (C ++ E) := by simp
   have g1 : gt (P ++ x :: (w :: C ++ E)) (P.length : Int) = x := zg4 rfl
   have g2 : gt (P ++ x :: (w :: C ++ E)) ((P.length : Int) + 1) = w := by rw [e1]; exact zg4 (by simp)
   have s1 : z0b (P ++ x :: (w :: C ++ E)) (P.length : Int) w = P ++ w :: (w :: C ++ E) := zm8 rfl
   have e2 : P ++ w :: (w :: C ++ E) = (P ++ [w]) ++ w :: (C ++ E) := by simp
   have s2 : z0b ((P ++ [w]) ++ w :: (C ++ E)) ((P.length : Int) + 1) x = (P ++ [w]) ++ x :: (C ++ E) := zm8 (by simp)
   have hlen : ((P ++ x :: (w :: C ++ E)).length : Int) = P.length + C.length + E.length + 2 := by simp; omega
   have hlen2 : (((P ++ [w]) ++ w :: (C ++ E)).length : Int) = P.length + C.length + E.length + 2 := by simp; omega
   rw [if_pos (by simp; omega), w1, g1, g2, s1, e2, s2, hlen, hlen2, zc ⟨by omega, by omega⟩, zc ⟨by omega, by omega⟩, zc ⟨by omega, by omega⟩, zc ⟨by omega, by omega⟩]
   have := ih (P ++ [w]) C E (by simp; omega) (by omega)
   have e3 : (((P ++ [w]).length : Nat) : Int) = (P.length : Int) + 1 := by simp
   have e4 : (P.length : Int) + ((w :: C).length : Nat) + 1 = (P.length : Int) + 1 + C.length + 1 := by simp; omega
   rw [e3] at this
   rw [e4, this]
   simp
theorem zzn (φ : Nat) (x : α) (P : List α) : ∀ (n : Nat) (C E : List α), P.length + C.length + E.length <= 999999 -> C.length < n ->
  zi5 φ n (P.length : Int) ((P.length : Int) + C.length) (P ++ C ++ x :: E) = some (P ++ x :: (C ++ E)) := by
 intro n
 induction n with
 | zero => intro C E _ h; omega
 | succ n ih =>
  intro C E hl hn
  rw [zi5]
  rcases z98 C with rfl | ⟨S, z, rfl⟩
  ·rw [if_neg (by simp)]; simp
  ·simp only [List.length_append, List.length_cons, List.length_nil] at hl hn
   have w1 : W ((P.length : Int) + ((S ++ [z]).length : Nat) - 1) = (P.length : Int) + S.length := by
    rw [W_id (by simp; omega) (by simp; omega)]; simp; omega
   have e1 : P ++ (S ++ [z]) ++ x :: E = (P ++ S ++ [z]) ++ x :: E := by simp
   have e2 : P ++ (S ++ [z]) ++ x :: E = (P ++ S) ++ z :: (x :: E) := by simp
   have g1 : gt (P ++ (S ++ [z]) ++ x :: E) ((P.length : Int) + ((S ++ [z]).length : Nat)) = x := by rw [e1]; exact zg4 (by simp <;> omega)
   have g2 : gt (P ++ (S ++ [z]) ++ x :: E) ((P.length : Int) + S.length) = z := by rw [e2]; exact zg4 (by simp)
   have s1 : z0b (P ++ (S ++ [z]) ++ x :: E) ((P.length : Int) + ((S ++ [z]).length : Nat)) z = (P ++ S) ++ z :: (z :: E) := by rw [e1, zm8 (by simp <;> omega)]; simp
   have s2 : z0b ((P ++ S) ++ z :: (z :: E)) ((P.length : Int) + S.length) x = P ++ S ++ x :: (z :: E) := zm8 (by simp)
   have hlen : ((P ++ (S ++ [z]) ++ x :: E).length : Int) = P.length + S.length + E.length + 2 := by simp; omega
   have hlen2 : (((P ++ S) ++ z :: (z :: E)).length : Int) = P.length + S.length + E.length + 2 := by simp; omega
   rw [if_pos (by simp; omega), w1, g1, g2, s1, s2, hlen, hlen2, zc ⟨by omega, by omega⟩, zc ⟨by simp; omega, by simp; omega⟩, zc ⟨by simp; omega, by simp; omega⟩, zc ⟨by omega, by omega⟩]
   rw [ih S (z :: E) (by simp; omega) (by omega)]
   simp
theorem zwu (hs : Swo lt) (hy : Cmp D y lt) (φ : Nat) (P L Q : List α) (x : α) (hx : D x) (hD : ∀ z ∈ L, D z) (hS : Srt lt L) (hl : P.length + L.length + Q.length <= 999998) (hφ : P.length + L.length + 2 < φ) :
  ∃ R, Srt lt R /\ Stb lt (x :: L) R /\ zbj φ φ (P.length : Int) y ((P.length : Int) + 1) ((P.length : Int) + 1 + L.length) (P ++ x :: (L ++ Q)) = some (P ++ R ++ Q) := by
 have gx : gt (P ++ x :: (L ++ Q)) (P.length : Int) = x := zg4 rfl
 have hlen : ((P ++ x :: (L ++ Q)).length : Int) = P.length + L.length + Q.length + 1 := by simp; omega
 have gL : ∀ i : Nat, P.length + 1 <= i -> i < P.length + 1 + L.length -> gt (P ++ x :: (L ++ Q)) (i : Int) = gt L ((i - (P.length + 1) : Nat) : Int) := by
  intro i h1 h2
  have e : P ++ x :: (L ++ Q) = (P ++ [x]) ++ (L ++ Q) := by simp
  rw [e, za2 _ _ _ (by simp; omega), zfh _ _ _ (by simp; omega) (by simp; omega)]
  congr 1; simp; omega
 obtain ⟨c, h1, h2, h3, h4, h5⟩ := zwn (fun n s r => zbj φ n (P.length : Int) y s r (P ++ x :: (L ++ Q)))
  (fun s => zic φ φ s (P.length : Int) (P ++ x :: (L ++ Q))) (fun h => lt (gt (P ++ x :: (L ++ Q)) (h : Int)) x) (P.length + 1 + L.length) (P.length + 1)
  (by
   intro n s r h0 hlt hR
   have hm : (W ((U (W ((s : Int) + r))).fdiv 2)) = (((s + r) / 2 : Nat) : Int) := by rw [y3n (by omega) (by omega)]; omega
   have hm1 : W ((((s + r) / 2 : Nat) : Int) + 1) = (((s + r) / 2 + 1 : Nat) : Int) := by rw [W_id (by omega) (by omega)]; simp
   obtain ⟨w, hw1, hw2⟩ := hy (gt (P ++ x :: (L ++ Q)) (((s + r) / 2 : Nat) : Int)) x (by
    rw [gL _ (by omega) (by omega)]; exact hD _ (ziv (by omega) (by omega))) hx
   show zbj φ (n + 1) _ _ _ _ _ = _
   rw [zbj, if_pos (by simp; omega), if_pos (by decide), p21, hm, hm1, hlen, gx, zc ⟨by omega, by omega⟩, zc ⟨by omega, by omega⟩, hw1]
   simp only [Option.bind_some, hw2])
  (by
   intro n s
   show zbj φ (n + 1) _ _ _ _ _ = _
   rw [zbj, if_neg (by simp)]) φ (P.length + 1) (P.length + 1 + L.length) (Nat.le_refl _) (by omega) (Nat.le_refl _) (by omega)
 obtain ⟨C, E, rfl, hC⟩ : ∃ C E, L = C ++ E /\ C.length = c - (P.length + 1) := ⟨L.take (c - (P.length + 1)), L.drop (c - (P.length + 1)), (List.take_append_drop _ _).symm, by simp; omega⟩
 simp only [List.length_append] at hl hφ h2 gL
 have hCx : ∀ z ∈ C, lt z x = true := by
  intro z hz
  rcases z98 C with rfl | ⟨S, w, rfl⟩
  ·cases hz
  ·simp only [List.length_append, List.length_cons, List.length_nil] at hC hz hS gL h2
   have hp : lt w x = true := by
    rcases h3 with h3 | h3
    ·omega
    ·rw [gL _ (by omega) (by omega)] at h3
     have e : S ++ [w] ++ E = S ++ w :: E := by simp
     rw [e, zg4 (by omega)] at h3
     exact h3
   rcases List.mem_append.1 hz with h | h
   ·exact zm4 hs (hS.parts.1.parts.2.2 z h w (by simp)) hp (hs.irr x)
   ·simp at h; rw [h]; exact hp
 have hEx : ∀ z ∈ E, lt z x = false := by
  intro z hz
  cases E with
  | nil => cases hz
  | cons w E =>
   simp only [List.length_cons] at h2 gL h4
   have hp : lt w x = false := by
    rcases h4 with h4 | h4
    ·simp at h4; omega
    ·rw [gL _ (by omega) (by omega), zg4 (by omega)] at h4
     exact h4
   rcases List.mem_cons.1 hz with h | h
   ·rw [h]; exact hp
   ·exact hs.ntr _ _ _ ((List.pairwise_cons.1 hS.parts.2.1).1 z h) hp
 have hm := zj7 hs (A := []) (B := [x]) (C := C) (E := E) (R1 := C) (R2 := x :: E) (List.pairwise_singleton _ _) hS (by simpa using hCx) (by simp) hS.parts.1 (by simpa using Stb.refl C) (List.pairwise_cons.2 ⟨hEx, hS.parts.2.1⟩) (by simpa using Stb.refl (x :: E))
 refine ⟨C ++ x :: E, hm.1, by simpa using hm.2, ?_⟩
 have e5 : ((P.length : Int) + 1 + ((C ++ E).length : Nat)) = ((P.length + 1 + (C ++ E).length : Nat) : Int) := by simp
 have e6 : ((P.length : Int) + 1) = ((P.length + 1 : Nat) : Int) := by simp
 rw [e5, e6]
 refine h5.trans ?_
 show zic φ φ _ _ _ = _
 have e7 : (c : Int) = (P.length : Int) + C.length + 1 := by omega
 have e8 : P ++ x :: (C ++ E ++ Q) = P ++ x :: (C ++ (E ++ Q)) := by simp
 rw [e7, e8, y8i φ x φ P C (E ++ Q) (by simp; omega) (by omega)]
 simp
theorem zzx (hs : Swo lt) (hy : Cmp D y lt) (φ : Nat) (P L Q : List α) (x : α) (hx : D x) (hD : ∀ z ∈ L, D z) (hS : Srt lt L) (hl : P.length + L.length + Q.length <= 999998) (hφ : P.length + L.length + 2 < φ) :
  ∃ R, Srt lt R /\ Stb lt (L ++ [x]) R /\ zbg φ φ ((P.length : Int) + L.length) y (P.length : Int) ((P.length : Int) + L.length) (P ++ L ++ x :: Q) = some (P ++ R ++ Q) := by
 have gx : gt (P ++ L ++ x :: Q) ((P.length : Int) + L.length) = x := zg4 (by simp)
 have hlen : ((P ++ L ++ x :: Q).length : Int) = P.length + L.length + Q.length + 1 := by simp; omega
 have gL : ∀ i : Nat, P.length <= i -> i < P.length + L.length -> gt (P ++ L ++ x :: Q) (i : Int) = gt L ((i - P.length : Nat) : Int) := by
  intro i h1 h2
  rw [List.append_assoc, za2 _ _ _ (by omega), zfh _ _ _ (by omega) (by omega)]
  congr 1; omega
 obtain ⟨c, h1, h2, h3, h4, h5⟩ := zwn (fun n s r => zbg φ n ((P.length : Int) + L.length) y s r (P ++ L ++ x :: Q))
  (fun s => zi5 φ φ s ((P.length : Int) + L.length) (P ++ L ++ x :: Q)) (fun h => !lt x (gt (P ++ L ++ x :: Q) (h : Int))) (P.length + L.length) P.length
  (by
   intro n s r h0 hlt hR
   have hm : (W ((U (W ((s : Int) + r))).fdiv 2)) = (((s + r) / 2 : Nat) : Int) := by rw [y3n (by omega) (by omega)]; omega
   have hm1 : W ((((s + r) / 2 : Nat) : Int) + 1) = (((s + r) / 2 + 1 : Nat) : Int) := by rw [W_id (by omega) (by omega)]; simp
   obtain ⟨w, hw1, hw2⟩ := hy x (gt (P ++ L ++ x :: Q) (((s + r) / 2 : Nat) : Int)) hx (by
    rw [gL _ (by omega) (by omega)]; exact hD _ (ziv (by omega) (by omega)))
   show zbg φ (n + 1) _ _ _ _ _ = _
   rw [zbg, if_pos (by simp; omega), if_pos (by decide), p21, hm, hm1, hlen, gx, zc ⟨by omega, by omega⟩, zc ⟨by omega, by omega⟩, hw1]
   simp only [Option.bind_some, hw2])
  (by
   intro n s
   show zbg φ (n + 1) _ _ _ _ _ = _
   rw [zbg, if_neg (by simp)]) φ P.length (P.length + L.length) (Nat.le_refl _) (by omega) (Nat.le_refl _) (by omega)
 obtain ⟨A, B, rfl, hC⟩ : ∃ A B, L = A ++ B /\ A.length = c - P.length := ⟨L.take (c - P.length), L.drop (c - P.length), (List.take_append_drop _ _).symm, by simp; omega⟩
 simp only [List.length_append] at hl hφ h2 gL
 have hA : ∀ z ∈ A, lt x z = false := by
  intro z hz
  rcases z98 A with rfl | ⟨S, w, rfl⟩
  ·cases hz
  ·simp only [List.length_append, List.length_cons, List.length_nil] at hC hz hS gL h2
   have hp : lt x w = false := by
    rcases h3 with h3 | h3
    ·omega
    ·rw [gL _ (by omega) (by omega)] at h3
     have e : S ++ [w] ++ B = S ++ w :: B := by simp
     rw [e, zg4 (by omega)] at h3
     simpa using h3
   rcases List.mem_append.1 hz with h | h
   ·exact hs.ntr _ _ _ hp (hS.parts.1.parts.2.2 z h w (by simp))
   ·simp at h; rw [h]; exact hp
 have hB : ∀ z ∈ B, lt x z = true := by
  intro z hz
  cases B with
  | nil => cases hz
  | cons w B =>
   simp only [List.length_cons] at h2 gL h4
   have hp : lt x w = true := by
    rcases h4 with h4 | h4
    ·simp at h4; omega
    ·rw [gL _ (by omega) (by omega), zg4 (by omega)] at h4
     simpa using h4
   rcases List.mem_cons.1 hz with h | h
   ·rw [h]; exact hp
   ·exact zm4 hs (hs.irr x) hp ((List.pairwise_cons.1 hS.parts.2.1).1 z h)
 have hm := zj7 hs (A := A) (B := B) (C := [x]) (E := []) (R1 := A ++ [x]) (R2 := B) hS (by rw [List.append_nil]; exact List.pairwise_singleton _ x) (by simpa using hB) (by simp)
  (hS.parts.1.app (List.pairwise_singleton _ _) (by simpa using hA)) (Stb.refl _) hS.parts.2.1 (by simpa using Stb.refl B)
 refine ⟨A ++ [x] ++ B, hm.1, by simpa using hm.2, ?_⟩
 have e5 : ((P.length : Int) + ((A ++ B).length : Nat)) = ((P.length + (A ++ B).length : Nat) : Int) := by simp
 rw [e5] at h5 ⊢
 refine h5.trans ?_
 show zi5 φ φ _ _ _ = _
 have e7 : (c : Int) = (((P ++ A).length : Nat) : Int) := by simp; omega
 have e8 : P ++ (A ++ B) ++ x :: Q = (P ++ A) ++ B ++ x :: Q := by simp
 have e9 : ((P.length + (A ++ B).length : Nat) : Int) = (((P ++ A).length : Nat) : Int) + B.length := by simp; omega
 rw [e7, e8, e9, zzn φ x (P ++ A) φ B Q (by simp; omega) (by omega)]
 simp
def y4d (φ : Nat) (k0 : List α -> Int -> Int -> Int -> (α -> α -> Option Int) -> Option (List α)) (a m b : Int) (y : α -> α -> Option Int) (mid n s : Int) (l : List α) : Option (List α) :=
 (if ((decide ((s : Int) < m)) && (decide ((m : Int) < (W (n - s))))) = true then ((grot φ l s m (W (n - s)) y).bind fun y66 => (zf7 φ k0 a b y mid s (W (n - s)) y66)) else (zf7 φ k0 a b y mid s (W (n - s)) l))
theorem yas (hs : Swo lt) (hy : Cmp D y lt) (φ : Nat) (k0 : List α -> Int -> Int -> Int -> (α -> α -> Option Int) -> Option (List α)) (P L1 L2 Q : List α) (hD1 : ∀ z ∈ L1, D z) (hD2 : ∀ z ∈ L2, D z) (hS1 : Srt lt L1) (hS2 : Srt lt L2)
  (a m b mid s0 r0 : Nat) (ha : a = P.length) (hm : m = a + L1.length) (hb : b = m + L2.length) (hmid : mid = (a + b) / 2) (hl : b + Q.length <= 999998) (hφ : b < φ)
  (h1 : 1 <= L1.length) (h2 : 1 <= L2.length) (hs0 : (mid < m /\ s0 = mid + m - b /\ r0 = mid) \/ (m <= mid /\ s0 = a /\ r0 = m)) :
  ∃ A B C E, L1 = A ++ B /\ L2 = C ++ E /\ mid + m - (a + A.length) = m + C.length /\ (∀ x ∈ B, ∀ y ∈ C, lt y x = true) /\ (∀ x ∈ A, ∀ y ∈ E, lt y x = false) /\
   zbb φ k0 φ (a : Int) (m : Int) (b : Int) y (mid : Int) ((mid + m : Nat) : Int) (s0 : Int) (r0 : Int) ((mid + m - 1 : Nat) : Int) (P ++ L1 ++ L2 ++ Q) = y4d φ k0 (a : Int) (m : Int) (b : Int) y (mid : Int) ((mid + m : Nat) : Int) ((a + A.length : Nat) : Int) (P ++ L1 ++ L2 ++ Q) := by
 have g1 : ∀ i : Nat, a <= i -> i < m -> gt (P ++ L1 ++ L2 ++ Q) (i : Int) = gt L1 ((i - a : Nat) : Int) := by
  intro i q1 q2
  have e : P ++ L1 ++ L2 ++ Q = P ++ (L1 ++ (L2 ++ Q)) := by simp
  rw [e, za2 _ _ _ (by omega), zfh _ _ _ (by omega) (by omega)]
  congr 1; omega
 have g2 : ∀ i : Nat, m <= i -> i < b -> gt (P ++ L1 ++ L2 ++ Q) (i : Int) = gt L2 ((i - m : Nat) : Int) := by
  intro i q1 q2
  have e : P ++ L1 ++ L2 ++ Q = (P ++ L1) ++ (L2 ++ Q) := by simp
  rw [e, za2 _ _ _ (by simp; omega), zfh _ _ _ (by simp; omega) (by simp; omega)]
  congr 1; simp; omega
 have hlen : ((P ++ L1 ++ L2 ++ Q).length : Int) = b + Q.length := by simp; omega
 have hW : W ((U (W ((a : Int) + b))).fdiv 2) = (mid : Int) := by rw [y3n (by omega) (by omega)]; omega
 have hn : W ((mid : Int) + m) = ((mid + m : Nat) : Int) := by rw [W_id (by omega) (by omega)]; simp
 have hp : W (((mid + m : Nat) : Int) - 1) = ((mid + m - 1 : Nat) : Int) := by rw [W_id (by omega) (by omega)]; omega
 have hmb : mid <= b := by omega
 have ham : a <= mid := by omega
 obtain ⟨c, h3, h4, h5, h6, h7⟩ := zwn (fun n s r => zbb φ k0 n (a : Int) (m : Int) (b : Int) y (mid : Int) ((mid + m : Nat) : Int) s r ((mid + m - 1 : Nat) : Int) (P ++ L1 ++ L2 ++ Q)) (fun s => y4d φ k0 (a : Int) (m : Int) (b : Int) y (mid : Int) ((mid + m : Nat) : Int) s (P ++ L1 ++ L2 ++ Q))
  (fun c => !lt (gt (P ++ L1 ++ L2 ++ Q) ((mid + m - 1 - c : Nat) : Int)) (gt (P ++ L1 ++ L2 ++ Q) (c : Int))) r0 s0
  (by
   intro n s r q0 hlt hR
   have hm' : (W ((U (W ((s : Int) + r))).fdiv 2)) = (((s + r) / 2 : Nat) : Int) := by rw [y3n (by omega) (by omega)]; omega
   have hm1 : W ((((s + r) / 2 : Nat) : Int) + 1) = (((s + r) / 2 + 1 : Nat) : Int) := by rw [W_id (by omega) (by omega)]; simp
   have hpc : W (((mid + m - 1 : Nat) : Int) - (((s + r) / 2 : Nat) : Int)) = ((mid + m - 1 - (s + r) / 2 : Nat) : Int) := by rw [W_id (by omega) (by omega)]; omega
   obtain ⟨w, hw1, hw2⟩ := hy (gt (P ++ L1 ++ L2 ++ Q) ((mid + m - 1 - (s + r) / 2 : Nat) : Int)) (gt (P ++ L1 ++ L2 ++ Q) (((s + r) / 2 : Nat) : Int))
    (by rw [g2 _ (by omega) (by omega)]; exact hD2 _ (ziv (by omega) (by omega))) (by rw [g1 _ (by omega) (by omega)]; exact hD1 _ (ziv (by omega) (by omega)))
   show zbb φ k0 (n + 1) _ _ _ _ _ _ _ _ _ _ = _
   rw [zbb, if_pos (by simp; omega), if_pos (by decide), p21, hm', hm1, hpc, hlen, zc ⟨by omega, by omega⟩, zc ⟨by omega, by omega⟩, hw1]
   simp only [Option.bind_some, hw2])
  (by
   intro n s
   show zbb φ k0 (n + 1) _ _ _ _ _ _ _ _ _ _ = _
   rw [zbb, if_neg (by simp)]
   rfl) φ s0 r0 (Nat.le_refl _) (by omega) (Nat.le_refl _) (by omega)
 obtain ⟨A, B, rfl, hA⟩ : ∃ A B, L1 = A ++ B /\ A.length = c - a := ⟨L1.take (c - a), L1.drop (c - a), (List.take_append_drop _ _).symm, by simp; omega⟩
 obtain ⟨C, E, rfl, hC⟩ : ∃ C E, L2 = C ++ E /\ C.length = mid - c := ⟨L2.take (mid - c), L2.drop (mid - c), (List.take_append_drop _ _).symm, by simp; omega⟩
 simp only [List.length_append] at hm hb g1 g2
 refine ⟨A, B, C, E, rfl, rfl, by omega, ?_, ?_, ?_⟩
 ·intro x hx z hz
  rcases z98 C with rfl | ⟨S, w, rfl⟩
  ·cases hz
  ·cases B with
   | nil => cases hx
   | cons x0 B =>
    simp only [List.length_append, List.length_cons, List.length_nil] at hC hm hb g1 g2 hA
    have hp : lt w x0 = true := by
     rcases h6 with h6 | h6
     ·omega
     ·rw [g1 c (by omega) (by omega), g2 (mid + m - 1 - c) (by omega) (by omega)] at h6
      have e : S ++ [w] ++ E = S ++ w :: E := by simp
      rw [e, zg4 (by omega), zg4 (by omega)] at h6
      simpa using h6
    have hz1 : lt w z = false := by
     rcases List.mem_append.1 hz with h | h
     ·exact hS2.parts.1.parts.2.2 z h w (by simp)
     ·simp at h; rw [h]; exact hs.irr _
    have hx1 : lt x x0 = false := by
     rcases List.mem_cons.1 hx with h | h
     ·rw [h]; exact hs.irr _
     ·exact (List.pairwise_cons.1 hS1.parts.2.1).1 x h
    exact zm4 hs hz1 hp hx1
 ·intro x hx z hz
  rcases z98 A with rfl | ⟨S, w, rfl⟩
  ·cases hx
  ·cases E with
   | nil => cases hz
   | cons e0 E =>
    simp only [List.length_append, List.length_cons, List.length_nil] at hC hm hb g1 g2 hA
    have hp : lt e0 w = false := by
     rcases h5 with h5 | h5
     ·omega
     ·have e1 : mid + m - 1 - (c - 1) = mid + m - c := by omega
      rw [e1, g1 (c - 1) (by omega) (by omega), g2 (mid + m - c) (by omega) (by omega)] at h5
      have e : S ++ [w] ++ B = S ++ w :: B := by simp
      rw [e, zg4 (by omega), zg4 (by omega)] at h5
      simpa using h5
    have hz1 : lt z e0 = false := by
     rcases List.mem_cons.1 hz with h | h
     ·rw [h]; exact hs.irr _
     ·exact (List.pairwise_cons.1 hS2.parts.2.1).1 z h
    have hx1 : lt w x = false := by
     rcases List.mem_append.1 hx with h | h
     ·exact hS1.parts.1.parts.2.2 x h w (by simp)
     ·simp at h; rw [h]; exact hs.irr _
    exact zxe hs hz1 hp hx1
 ·refine h7.trans ?_
  have e : (c : Int) = ((a + A.length : Nat) : Int) := by omega
  show y4d φ k0 _ _ _ _ _ _ _ _ = _
  rw [e]
theorem zut (hs : Swo lt) (hy : Cmp D y lt) (φ : Nat) : ∀ (d : Nat) (P L1 L2 Q : List α), (∀ z ∈ L1, D z) -> (∀ z ∈ L2, D z) -> Srt lt L1 -> Srt lt L2 -> L1 ≠ [] -> L2 ≠ [] ->
  P.length + L1.length + L2.length + Q.length <= 999998 -> P.length + L1.length + L2.length + 3 < φ -> L1.length + L2.length <= d ->
  ∃ R, Srt lt R /\ Stb lt (L1 ++ L2) R /\ gsym φ d (P ++ L1 ++ L2 ++ Q) (P.length : Int) ((P.length : Int) + L1.length) ((P.length : Int) + L1.length + L2.length) y = some (P ++ R ++ Q) := by
 intro d
 induction d with
 | zero => intro P L1 L2 Q _ _ _ _ h1 _ _ _ h; have := List.length_pos_iff.2 h1; omega
 | succ d ih =>
  intro P L1 L2 Q hD1 hD2 hS1 hS2 hn1 hn2 hl hφ hd
  have hp1 := List.length_pos_iff.2 hn1
  have hp2 := List.length_pos_iff.2 hn2
  rw [gsym]
  have w1 : W ((P.length : Int) + L1.length - P.length) = (L1.length : Int) := by rw [W_id (by omega) (by omega)]; omega
  have w2 : W ((P.length : Int) + L1.length + L2.length - ((P.length : Int) + L1.length)) = (L2.length : Int) := by rw [W_id (by omega) (by omega)]; omega
  rw [w1, w2]
  by_cases q1 : L1.length = 1
  ·rw [if_pos (by simp [q1])]
   match L1, q1 with
   | [x], _ =>
    obtain ⟨R, r1, r2, r3⟩ := zwu hs hy φ P L2 Q x (hD1 x (by simp)) hD2 hS2 (by simp at hl; omega) (by simp at hφ; omega)
    refine ⟨R, r1, r2, ?_⟩
    rw [<- r3]
    simp
  ·rw [if_neg (by simp; omega)]
   by_cases q2 : L2.length = 1
   ·rw [if_pos (by simp [q2])]
    match L2, q2 with
    | [x], _ =>
     obtain ⟨R, r1, r2, r3⟩ := zzx hs hy φ P L1 Q x (hD2 x (by simp)) hD1 hS1 (by simp at hl; omega) (by simp at hφ; omega)
     refine ⟨R, r1, r2, ?_⟩
     rw [<- r3]
     simp
   ·rw [if_neg (by simp; omega)]
    obtain ⟨a, ha⟩ : ∃ a, a = P.length := ⟨_, rfl⟩
    obtain ⟨m, hm⟩ : ∃ m, m = a + L1.length := ⟨_, rfl⟩
    obtain ⟨b, hb⟩ : ∃ b, b = m + L2.length := ⟨_, rfl⟩
    obtain ⟨mid, hmid⟩ : ∃ mid, mid = (a + b) / 2 := ⟨_, rfl⟩
    have ea : (P.length : Int) = (a : Int) := by omega
    have em : (P.length : Int) + L1.length = (m : Int) := by omega
    have eb : (P.length : Int) + L1.length + L2.length = (b : Int) := by omega
    rw [eb, em, ea]
    have hW : W ((U (W ((a : Int) + b))).fdiv 2) = (mid : Int) := by rw [y3n (by omega) (by omega)]; omega
    have hn : W ((mid : Int) + m) = ((mid + m : Nat) : Int) := by rw [W_id (by omega) (by omega)]; simp
    rw [if_pos (show (0 : Int) <= 1 by decide), p21, hW, hn]
    have key : ∃ s0 r0 : Nat, ((mid < m /\ s0 = mid + m - b /\ r0 = mid) \/ (m <= mid /\ s0 = a /\ r0 = m)) /\
      (if decide ((mid : Int) < m) = true then zhx φ (gsym φ d) (a : Int) (m : Int) (b : Int) y (mid : Int) ((mid + m : Nat) : Int) (W (((mid + m : Nat) : Int) - b)) (mid : Int) (P ++ L1 ++ L2 ++ Q)
       else zhx φ (gsym φ d) (a : Int) (m : Int) (b : Int) y (mid : Int) ((mid + m : Nat) : Int) (a : Int) (m : Int) (P ++ L1 ++ L2 ++ Q)) =
      zhx φ (gsym φ d) (a : Int) (m : Int) (b : Int) y (mid : Int) ((mid + m : Nat) : Int) (s0 : Int) (r0 : Int) (P ++ L1 ++ L2 ++ Q) := by
     by_cases q : mid < m
     ·refine ⟨mid + m - b, mid, .inl ⟨q, rfl, rfl⟩, ?_⟩
      have : W (((mid + m : Nat) : Int) - b) = ((mid + m - b : Nat) : Int) := by rw [W_id (by omega) (by omega)]; omega
      rw [if_pos (by simp; omega), this]
     ·refine ⟨a, m, .inr ⟨by omega, rfl, rfl⟩, ?_⟩
      rw [if_neg (by simp; omega)]
    obtain ⟨s0, r0, hk, e⟩ := key
    rw [e]
    unfold zhx
    have hp : W (((mid + m : Nat) : Int) - 1) = ((mid + m - 1 : Nat) : Int) := by rw [W_id (by omega) (by omega)]; omega
    rw [hp]
    obtain ⟨A, B, C, E, rfl, rfl, hc, hA, hB, hL⟩ := yas hs hy φ (gsym φ d) P L1 L2 Q hD1 hD2 hS1 hS2 a m b mid s0 r0 ha hm hb hmid (by omega) (by omega) (by omega) (by omega) hk
    rw [hL]
    simp only [List.length_append] at hm hb hl hφ hp1 hp2 q1 q2
    have hcm : mid = a + A.length + C.length := by omega
    have hend : W (((mid + m : Nat) : Int) - ((a + A.length : Nat) : Int)) = ((m + C.length : Nat) : Int) := by rw [W_id (by omega) (by omega)]; omega
    have step1 : y4d φ (gsym φ d) (a : Int) (m : Int) (b : Int) y (mid : Int) ((mid + m : Nat) : Int) ((a + A.length : Nat) : Int) (P ++ (A ++ B) ++ (C ++ E) ++ Q) =
      zf7 φ (gsym φ d) (a : Int) (b : Int) y (mid : Int) ((a + A.length : Nat) : Int) ((m + C.length : Nat) : Int) (P ++ A ++ C ++ B ++ E ++ Q) := by
     unfold y4d
     rw [hend]
     by_cases hBC : B = [] \/ C = []
     ·rw [if_neg (by
       rcases hBC with rfl | rfl
       ·simp at hm ⊢; omega
       ·simp)]
      rcases hBC with rfl | rfl <;> simp
     ·obtain ⟨hB0, hC0⟩ := not_or.1 hBC
      have b0 := List.length_pos_iff.2 hB0
      have c0 := List.length_pos_iff.2 hC0
      rw [if_pos (by simp; omega)]
      have := yba φ (P ++ A) B C (E ++ Q) y hB0 hC0 (by simp; omega) (by omega)
      have e1 : P ++ (A ++ B) ++ (C ++ E) ++ Q = P ++ A ++ B ++ C ++ (E ++ Q) := by simp
      have e2 : ((a + A.length : Nat) : Int) = ((P ++ A).length : Nat) := by simp; omega
      have e3 : (m : Int) = ((P ++ A).length : Nat) + (B.length : Int) := by simp; omega
      have e4 : ((m + C.length : Nat) : Int) = ((P ++ A).length : Nat) + (B.length : Int) + C.length := by simp; omega
      rw [e1]
      conv => lhs; arg 1; rw [e4, e2, e3]
      rw [this]
      simp only [Option.bind_some]
      congr 1
      simp
    rw [step1]
    have step2 : ∃ R1, Srt lt R1 /\ Stb lt (A ++ C) R1 /\ zf7 φ (gsym φ d) (a : Int) (b : Int) y (mid : Int) ((a + A.length : Nat) : Int) ((m + C.length : Nat) : Int) (P ++ A ++ C ++ B ++ E ++ Q) =
      zku φ (gsym φ d) (b : Int) y (mid : Int) ((m + C.length : Nat) : Int) (P ++ R1 ++ B ++ E ++ Q) := by
     unfold zf7
     by_cases hAC : A = [] \/ C = []
     ·refine ⟨A ++ C, ?_, Stb.refl _, ?_⟩
      ·rcases hAC with rfl | rfl
       ·simpa using hS2.parts.1
       ·simpa using hS1.parts.1
      ·rw [if_neg (by
        rcases hAC with rfl | rfl
        ·simp
        ·simp at hcm ⊢; omega)]
       simp
     ·obtain ⟨hA0, hC0⟩ := not_or.1 hAC
      have a0 := List.length_pos_iff.2 hA0
      have c0 := List.length_pos_iff.2 hC0
      obtain ⟨R1, r1, r2, r3⟩ := ih P A C (B ++ E ++ Q) (fun z hz => hD1 z (by simp [hz])) (fun z hz => hD2 z (by simp [hz])) hS1.parts.1 hS2.parts.1 hA0 hC0 (by simp; omega) (by omega) (by omega)
      refine ⟨R1, r1, r2, ?_⟩
      rw [if_pos (by simp; omega)]
      have e1 : P ++ A ++ C ++ B ++ E ++ Q = P ++ A ++ C ++ (B ++ E ++ Q) := by simp
      have e2 : ((a + A.length : Nat) : Int) = (P.length : Int) + A.length := by simp; omega
      have e3 : (mid : Int) = (P.length : Int) + A.length + C.length := by omega
      rw [e1]
      conv => lhs; arg 1; rw [e3, e2, <- ea]
      rw [r3]
      simp
    obtain ⟨R1, r1, r2, e2⟩ := step2
    rw [e2]
    have hR1 : R1.length = A.length + C.length := by rw [r2.len]; simp
    have step3 : ∃ R2, Srt lt R2 /\ Stb lt (B ++ E) R2 /\ zku φ (gsym φ d) (b : Int) y (mid : Int) ((m + C.length : Nat) : Int) (P ++ R1 ++ B ++ E ++ Q) = some (P ++ (R1 ++ R2) ++ Q) := by
     unfold zku
     by_cases hBE : B = [] \/ E = []
     ·refine ⟨B ++ E, ?_, Stb.refl _, ?_⟩
      ·rcases hBE with rfl | rfl
       ·simpa using hS2.parts.2.1
       ·simpa using hS1.parts.2.1
      ·rw [if_neg (by
        rcases hBE with rfl | rfl
        ·simp at hm ⊢; omega
        ·simp at hb ⊢; omega)]
       simp
     ·obtain ⟨hB0, hE0⟩ := not_or.1 hBE
      have b0 := List.length_pos_iff.2 hB0
      have c0 := List.length_pos_iff.2 hE0
      obtain ⟨R2, p1, p2, p3⟩ := ih (P ++ R1) B E Q (fun z hz => hD1 z (by simp [hz])) (fun z hz => hD2 z (by simp [hz])) hS1.parts.2.1 hS2.parts.2.1 hB0 hE0 (by simp; omega) (by simp; omega) (by omega)
      refine ⟨R2, p1, p2, ?_⟩
      rw [if_pos (by simp; omega)]
      have e1 : (mid : Int) = ((P ++ R1).length : Nat) := by simp; omega
      have e3 : ((m + C.length : Nat) : Int) = ((P ++ R1).length : Nat) + (B.length : Int) := by simp; omega
      have e4 : (b : Int) = ((P ++ R1).length : Nat) + (B.length : Int) + E.length := by simp; omega
      conv => lhs; arg 1; rw [e4, e3, e1]
      rw [p3]
      simp
    obtain ⟨R2, p1, p2, e3⟩ := step3
    rw [e3]
    have hm' := zj7 hs hS1 hS2 hA hB r1 r2 p1 p2
    exact ⟨R1 ++ R2, hm'.1, hm'.2, rfl⟩
theorem zzu (hs : Swo lt) (hy : Cmp D y lt) (φ N : Nat) (hN : N <= 900000) (hφ : N < φ) :
  ∀ (n : Nat) (X Y : List α), (∀ z ∈ Y, D z) -> X.length + Y.length = N -> Y.length < n ->
  ∃ Y1 Y2 Y1', Y = Y1 ++ Y2 /\ Runs lt 20 (Y1' ++ []) /\ Y2.length < 20 /\ Stb lt Y1 Y1' /\ (∀ T, Runs lt 20 T -> Runs lt 20 (Y1' ++ T)) /\
   zgz φ n (N : Int) y 20 (X.length : Int) ((X.length : Int) + 20) (X ++ Y) = ((gins φ (X ++ Y1' ++ Y2) ((X.length : Int) + Y1.length) (N : Int) y).bind fun y12 => z9z φ φ (N : Int) y 20 y12) := by
 intro n
 induction n with
 | zero => intro X Y _ _ h; omega
 | succ n ih =>
  intro X Y hD hl hn
  rw [zgz]
  by_cases h : Y.length < 20
  ·refine ⟨[], Y, [], rfl, .last (by simp) List.Pairwise.nil, h, Stb.refl _, fun T hT => hT, ?_⟩
   rw [if_neg (by simp; omega)]
   simp
  ·obtain ⟨B, Z, rfl, hB⟩ : ∃ B Z, Y = B ++ Z /\ B.length = 20 := ⟨Y.take 20, Y.drop 20, (List.take_append_drop _ _).symm, by simp; omega⟩
   simp only [List.length_append] at hl hn h
   rw [if_pos (by simp; omega)]
   obtain ⟨B', b1, b2, b3⟩ := y4t hs hy φ X B Z (fun z hz => hD z (by simp [hz])) (by omega) (by omega)
   rw [hB] at b3
   have e1 : X ++ (B ++ Z) = X ++ B ++ Z := by simp
   have e2 : ((20 : Nat) : Int) = 20 := rfl
   rw [e2] at b3
   rw [e1, b3]
   simp only [Option.bind_some]
   have hB' : B'.length = 20 := by rw [b2.len, hB]
   have w1 : W ((X.length : Int) + 20 + 20) = (X.length : Int) + 20 + 20 := W_id (by omega) (by omega)
   have e3 : (X.length : Int) + 20 = ((X ++ B').length : Nat) := by simp [hB']
   rw [w1]
   obtain ⟨Y1, Y2, Y1', q1, q2, q3, q4, q5, q6⟩ := ih (X ++ B') Z (fun z hz => hD z (by simp [hz])) (by simp; omega) (by omega)
   rw [<- e3] at q6
   refine ⟨B ++ Y1, Y2, B' ++ Y1', by rw [q1]; simp, ?_, q3, b2.app q4, fun T hT => ?_, ?_⟩
   ·rw [List.append_assoc]; exact .cons hB' b1 q2
   ·rw [List.append_assoc]; exact .cons hB' b1 (q5 T hT)
   ·rw [q6]
    have e4 : (X.length : Int) + 20 + Y1.length = (X.length : Int) + ((B ++ Y1).length : Nat) := by simp; omega
    rw [e4]
    simp
theorem yf9 (hs : Swo lt) (hy : Cmp D y lt) (φ N bs : Nat) (k : Int -> (α -> α -> Option Int) -> Int -> List α -> Option (List α)) (hN : N <= 900000) (hφ : 2 * N + 3 < φ) (hb0 : 0 < bs) (hb : bs <= 900000) :
  ∀ (n : Nat) (X Y : List α), (∀ z ∈ Y, D z) -> Runs lt bs Y -> X.length + Y.length = N -> Y.length < n ->
  ∃ Y', Runs lt (bs * 2) Y' /\ Stb lt Y Y' /\ zkt φ k n (N : Int) y (bs : Int) (X.length : Int) ((X.length : Int) + 2 * bs) (X ++ Y) = k (N : Int) y ((bs * 2 : Nat) : Int) (X ++ Y') := by
 intro n
 induction n with
 | zero => intro X Y _ _ _ h; omega
 | succ n ih =>
  intro X Y hD hR hl hn
  have w1 : W ((X.length : Int) + bs) = (X.length : Int) + bs := W_id (by omega) (by omega)
  have w2 : W ((bs : Int) * 2) = ((bs * 2 : Nat) : Int) := by rw [W_id (by omega) (by omega)]; simp
  have w3 : W (2 * (bs : Int)) = 2 * (bs : Int) := W_id (by omega) (by omega)
  have w4 : W ((X.length : Int) + 2 * bs + 2 * bs) = (X.length : Int) + 2 * bs + 2 * bs := W_id (by omega) (by omega)
  rw [zkt, w1, w3, w4]
  by_cases h : 2 * bs <= Y.length
  ·rw [if_pos (by simp; omega)]
   obtain ⟨B1, r, rfl, h1, s1, hr, hne⟩ := hR.big (by omega)
   simp only [List.length_append] at hl hn h
   obtain ⟨B2, Z, rfl, h2, s2, hZ⟩ : ∃ B2 Z, r = B2 ++ Z /\ B2.length = bs /\ Srt lt B2 /\ Runs lt bs Z := by
    by_cases q : r.length = bs
    ·exact ⟨r, [], by simp, q, hr.small (by omega), .last (by simp) List.Pairwise.nil⟩
    ·obtain ⟨b, r', e, q1, q2, q3, _⟩ := hr.big (by omega)
     exact ⟨b, r', e, q1, q2, q3⟩
   simp only [List.length_append] at hl hn h
   obtain ⟨R, r1, r2, r3⟩ := zut hs hy φ φ X B1 B2 Z (fun z hz => hD z (by simp [hz])) (fun z hz => hD z (by simp [hz])) s1 s2 (by intro e; subst e; simp at h1; omega) (by intro e; subst e; simp at h2; omega) (by omega) (by omega) (by omega)
   have hRl : R.length = 2 * bs := by rw [r2.len]; simp; omega
   have e1 : X ++ (B1 ++ (B2 ++ Z)) = X ++ B1 ++ B2 ++ Z := by simp
   have e2 : (X.length : Int) + bs = (X.length : Int) + B1.length := by omega
   have e3 : (X.length : Int) + 2 * bs = (X.length : Int) + B1.length + B2.length := by omega
   have e4 : (X.length : Int) + 2 * bs = ((X ++ R).length : Nat) := by simp; omega
   obtain ⟨Y', p1, p2, p3⟩ := ih (X ++ R) Z (fun z hz => hD z (by simp [hz])) hZ (by simp; omega) (by omega)
   refine ⟨R ++ Y', .cons (by omega) r1 p1, ?_, ?_⟩
   ·have := r2.app p2
    simpa using this
   ·rw [e1]
    conv => lhs; arg 1; rw [e2, e3]
    rw [r3]
    simp only [Option.bind_some]
    rw [e4, p3]
    simp
  ·rw [if_neg (by simp; omega)]
   rw [w2]
   by_cases q : bs < Y.length
   ·rw [if_pos (by simp; omega)]
    obtain ⟨B1, B2, rfl, h1, s1, hr, hne⟩ := hR.big q
    simp only [List.length_append] at hl hn h
    obtain ⟨R, r1, r2, r3⟩ := zut hs hy φ φ X B1 B2 [] (fun z hz => hD z (by simp [hz])) (fun z hz => hD z (by simp [hz])) s1 (hr.small (by omega)) (by intro e; subst e; simp at h1; omega) hne (by simp; omega) (by omega) (by omega)
    have e1 : X ++ (B1 ++ B2) = X ++ B1 ++ B2 ++ [] := by simp
    have e2 : (X.length : Int) + bs = (X.length : Int) + B1.length := by omega
    have e3 : (N : Int) = (X.length : Int) + B1.length + B2.length := by omega
    refine ⟨R, .last (by rw [r2.len]; simp; omega) r1, r2, ?_⟩
    rw [e1, e2, e3, r3]
    simp
   ·rw [if_neg (by simp; omega)]
    exact ⟨Y, .last (by omega) (hR.small (by omega)), Stb.refl _, rfl⟩
theorem yc3 (hs : Swo lt) (hy : Cmp D y lt) (φ N : Nat) (hN : N <= 400000) (hφ : 2 * N + 3 < φ) :
  ∀ (n bs : Nat) (Y : List α), (∀ z ∈ Y, D z) -> Runs lt bs Y -> Y.length = N -> 0 < bs -> bs <= 900000 -> N - bs < n ->
  ∃ Y', Srt lt Y' /\ Stb lt Y Y' /\ z9z φ n (N : Int) y (bs : Int) Y = some Y' := by
 intro n
 induction n with
 | zero => intro bs Y _ _ _ _ _ h; omega
 | succ n ih =>
  intro bs Y hD hR hl hb0 hb hn
  rw [z9z]
  by_cases h : bs < N
  ·rw [if_pos (by simp; omega), W_id (x := 2 * (bs : Int)) (by omega) (by omega)]
   obtain ⟨Y', p1, p2, p3⟩ := yf9 hs hy φ N bs (z9z φ n) (by omega) hφ hb0 hb φ [] Y hD hR (by simpa using hl) (by omega)
   obtain ⟨Y'', q1, q2, q3⟩ := ih (bs * 2) Y' (fun z hz => hD z (p2.mem.1 hz)) p1 (by rw [p2.len, hl]) (by omega) (by omega) (by omega)
   refine ⟨Y'', q1, p2.trans q2, ?_⟩
   rw [<- q3]
   simpa using p3
  ·rw [if_neg (by simp; omega)]
   exact ⟨Y, hR.small (by omega), Stb.refl _, rfl⟩
theorem y7u (hs : Swo lt) (hy : Cmp D y lt) (φ : Nat) (v : List α) (hD : ∀ z ∈ v, D z) (hN : v.length <= 400000) (hφ : 2 * v.length + 3 < φ) :
  ∃ r, Srt lt r /\ Stb lt v r /\ ycw φ v y = some r := by
 unfold ycw ydw
 obtain ⟨Y1, Y2, Y1', q1, q2, q3, q4, q5, q6⟩ := zzu hs hy φ v.length (by omega) (by omega) φ [] v hD (by simp) (by omega)
 have q6' : zgz φ φ (v.length : Int) y 20 0 20 v = ((gins φ (Y1' ++ Y2) (Y1.length : Int) (v.length : Int) y).bind fun y12 => z9z φ φ (v.length : Int) y 20 y12) := by simpa using q6
 rw [q6']
 have hl : v.length = Y1.length + Y2.length := by rw [q1]; simp
 have hl1 : Y1'.length = Y1.length := q4.len
 obtain ⟨Y2', p1, p2, p3⟩ := y4t hs hy φ Y1' Y2 [] (fun z hz => hD z (by rw [q1]; simp [hz])) (by simp; omega) (by omega)
 simp only [List.append_nil] at p3
 have e1 : (Y1.length : Int) = Y1'.length := by omega
 have e2 : (v.length : Int) = (Y1'.length : Int) + Y2.length := by omega
 have p3' : gins φ (Y1' ++ Y2) (Y1.length : Int) (v.length : Int) y = some (Y1' ++ Y2') := by rw [e1, e2]; exact p3
 have hst : Stb lt v (Y1' ++ Y2') := by rw [q1]; exact q4.app p2
 obtain ⟨r, r1, r2, r3⟩ := yc3 hs hy φ v.length hN hφ φ 20 (Y1' ++ Y2') (fun z hz => hD z (hst.mem.1 hz)) (q5 _ (.last (by rw [p2.len]; omega) p1)) hst.len (by omega) (by omega) (by omega)
 refine ⟨r, r1, hst.trans r2, ?_⟩
 rw [p3']
 simp only [Option.bind_some]
 have r3' : z9z φ φ (v.length : Int) y 20 (Y1' ++ Y2') = some r := r3
 rw [r3']
 rfl
end
end Px
end
section
namespace Px
open Go
set_option linter.unusedVariables false
set_option linter.unusedSimpArgs false
set_option maxRecDepth 100000
theorem zer {n b : Nat} (h : n <= 100000) (hb : b <= 1000) : fits n b := by
 unfold fits
 exact Nat.le_trans (Nat.mul_le_mul h hb) (by omega)
theorem y9a (φ : Nat) (v : List z6) (y : z6 -> z6 -> Option Int) : z2j φ v y = ycw φ v y := by kernel_rfl
def ycs (a b : Ref) : Bool := decide (a.railway < b.railway) || (decide (a.railway = b.railway) && decide (a.no < b.no))
def zg6 (a b : z6) : Bool := decide (a.item.to < b.item.to) || (decide (a.item.to = b.item.to) && ycs a.ref b.ref)
theorem y1v {a b : Ref} : ycs a b = true ↔ a.railway < b.railway \/ (a.railway = b.railway /\ a.no < b.no) := by simp [ycs]
theorem zho {a b : z6} : zg6 a b = true ↔ a.item.to < b.item.to \/ (a.item.to = b.item.to /\ (a.ref.railway < b.ref.railway \/ (a.ref.railway = b.ref.railway /\ a.ref.no < b.ref.no))) := by
 simp [zg6, y1v]
theorem zyx {a b : z6} : zg6 a b = false ↔ ¬ (a.item.to < b.item.to \/ (a.item.to = b.item.to /\ (a.ref.railway < b.ref.railway \/ (a.ref.railway = b.ref.railway /\ a.ref.no < b.ref.no)))) := by
 rw [<- zho]; simp
theorem zey : Swo zg6 where
 asym := fun a b h => by rw [zyx]; rw [zho] at h; omega
 ntr := fun a b c h1 h2 => by rw [zyx] at *; omega
theorem yd7 {α : Type} {lt : α -> α -> Bool} (h : Swo lt) : Sort.SWO lt where
 irrefl := fun a => h.irr a
 trans := fun a b c h1 h2 => by
  cases h3 : lt a c with
  | true => rfl
  | false =>
   have h4 := h.asym _ _ h2
   rw [h.ntr a c b h3 h4] at h1; cases h1
 ntrans := fun a b c h1 h2 => h.ntr a b c h1 h2
theorem y9f (φ : Nat) (h : 3 <= φ) (a b : z6) : za0 φ a b = some (or2 (cmpI a.ref.railway b.ref.railway) (cmpI a.ref.no b.ref.no), ()) := by
 unfold za0
 simp only [zlx, Option.bind_some]
 rw [yaj φ h]; rfl
theorem ycp (φ : Nat) (h : 3 <= φ) : Cmp (fun _ => True) (fun a b => (z5a φ a b).bind fun r => (some r.1)) zg6 := by
 intro a b _ _
 refine ⟨or2 (cmpI a.item.to b.item.to) (or2 (cmpI a.ref.railway b.ref.railway) (cmpI a.ref.no b.ref.no)), ?_, ?_⟩
 ·simp only [z5a, zlx, y9f φ h, Option.bind_some]
  rw [yaj φ h]; rfl
 ·rw [Bool.eq_iff_iff, decide_eq_true_eq, y0t, y0t, zq1, zq1, zq1, zx3, zx3, zho]
section
variable {α : Type} {lt : α -> α -> Bool}
theorem ybv (hs : Swo lt) {a x y : α} (h1 : eqv2 lt a x = true) (h2 : eqv2 lt a y = true) : lt y x = false := by
 simp only [eqv2, Bool.and_eq_true, Bool.not_eq_true'] at h1 h2
 exact hs.ntr y a x h2.2 h1.1
theorem zxx (hs : Swo lt) (a x : α) : ∀ r : List α, (insL lt x r).filter (eqv2 lt a) = (x :: r).filter (eqv2 lt a)
 | [] => rfl
 | y :: r => by
  simp only [insL]
  cases h : lt y x with
  | false => rfl
  | true =>
   simp only [cond_true]
   rw [List.filter_cons, zxx hs a x r]
   cases h1 : eqv2 lt a x <;> cases h2 : eqv2 lt a y <;> simp [List.filter_cons, h1, h2]
   rw [ybv hs h1 h2] at h; cases h
theorem zuf (hs : Swo lt) : ∀ l : List α, Stb lt l (zii lt l)
 | [] => Stb.refl _
 | x :: l => by
  refine ⟨z4m _ _, fun a => ?_⟩
  show (insL lt x (zii lt l)).filter _ = _
  rw [zxx hs, List.filter_cons, List.filter_cons, (zuf hs l).2 a]
theorem y3j (hs : Swo lt) (l : List α) : Srt lt (zii lt l) := z7x (yd7 hs) l
theorem zu2 (hs : Swo lt) {l r : List α} (h1 : Srt lt r) (h2 : Stb lt l r) : r = zii lt l := by
 refine Srt.unique hs h1 (y3j hs l) ⟨(z4m _ _).trans h2.1.symm, fun a => ?_⟩
 rw [(zuf hs l).2 a, h2.2 a]
end
def zm2 (at_ : Int) (r : z6) : Bool := ((r.item.kind : Int) == 9) && decide ((r.item.to : Int) <= at_)
def hist (l : List z6) (at_ : Int) : List z6 := zii zg6 (l.filter (zm2 at_))
theorem zdb (l : List z6) (at_ : Int) : (hist l at_).length <= l.length := by
 unfold hist; rw [(z4m _ _).length_eq]; exact List.length_filter_le _ _
theorem zdq {l : List z6} {at_ : Int} {r : z6} : r ∈ hist l at_ ↔ r ∈ l /\ zm2 at_ r = true := by
 unfold hist; rw [(z4m _ _).mem_iff, List.mem_filter]
abbrev Cmps := List (z1 × List (Int × Bool))
def ofP (p : Part) : z1 := ⟨p.kind, p.serial⟩
def zji (w : Int) (M : Cmps) (p : Part) : Cmps :=
 if p.fitted = false then (match cget kl_9 M (ofP p) with
  | some s => cset kl_9 M (ofP p) (cdel kl_0 s w)
  | none => M)
 else (match cget kl_9 M (ofP p) with
  | some s => cset kl_9 M (ofP p) (cset kl_0 s w true)
  | none => cset kl_9 (cset kl_9 M (ofP p) (default : List (Int × Bool))) (ofP p) (cset kl_0 ([] : List (Int × Bool)) w true))
def zql (M : Cmps) (r : z6) : Cmps := r.item.parts.foldl (zji r.item.wagon) M
def zjo (rs : List z6) : Cmps := rs.foldl zql []
theorem z7p {α : Type} (p : α -> Bool) (l : List α) : ∀ acc : List α, l.foldl (fun s r => if p r = true then s ++ [r] else s) acc = acc ++ l.filter p := by
 induction l with
 | nil => intro acc; simp
 | cons a l ih =>
  intro acc
  rw [List.foldl_cons, ih, List.filter_cons]
  cases p a <;> simp
theorem zp9 (φ : Nat) (k14) (at1 i1 : Int) (r : z6) (rs : List z6) (hp : r.item.parts.length <= 1000) (n : Nat) (hn : r.item.parts.length < n) (M : Cmps) :
  zp φ k14 n at1 i1 r.item.parts (r.item.parts.length : Int) 0 M r rs = k14 at1 (W (i1 + 1)) (zql M r) rs := by
 refine (z10 (fun n i M => zp φ k14 n at1 i1 r.item.parts (r.item.parts.length : Int) i M r rs) (fun M => k14 at1 (W (i1 + 1)) M rs) r.item.parts (zji r.item.wagon) (fun _ _ => True) ?_ ?_ n M trivial hn).1
 ·intro n i M hi _
  refine ⟨?_, trivial⟩
  rw [zp, if_pos (by simp; omega), zc ⟨by omega, by omega⟩, W_id (x := (i : Int) + 1) (by omega) (by omega)]
  simp only [zcm, Option.bind_some]
  show _ = zp φ k14 n at1 i1 r.item.parts (r.item.parts.length : Int) ((i : Int) + 1) (zji r.item.wagon M (gt r.item.parts (i : Int))) r rs
  unfold zji ofP
  cases hf : (gt r.item.parts (i : Int)).fitted with
  | false =>
   simp only [Bool.not_false, if_true]
   cases hc : cget kl_9 M (⟨(gt r.item.parts (i : Int)).kind, (gt r.item.parts (i : Int)).serial⟩ : z1) with
   | none => simp [ck]
   | some s => simp [ck]
  | true =>
   simp only [Bool.not_true, Bool.false_eq_true, if_false]
   cases hc : cget kl_9 M (⟨(gt r.item.parts (i : Int)).kind, (gt r.item.parts (i : Int)).serial⟩ : z1) with
   | none => simp [ck]
   | some s => simp [ck]
 ·intro n M _
  rw [zp, if_neg (by simp)]
theorem zpe (φ : Nat) (hφ : 1000 < φ) (rs : List z6) (hl : rs.length <= 1000) (hp : ∀ r ∈ rs, r.item.parts.length <= 1000) (n : Nat) (hn : rs.length < n) :
  z0f φ n (rs.length : Int) 0 [] rs = some (zjo rs, ()) := by
 refine (z10 (fun n i M => z0f φ n (rs.length : Int) i M rs) (fun M => some (M, ())) rs zql (fun _ _ => True) ?_ ?_ n [] trivial hn).1
 ·intro n i M hi _
  refine ⟨?_, trivial⟩
  rw [z0f, if_pos (by simp; omega), zc ⟨by omega, by omega⟩]
  have hg := ziv (l := rs) (i := (i : Int)) (by omega) (by omega)
  rw [zp9 φ _ _ _ _ rs (hp _ hg) φ (by have := hp _ hg; omega), W_id (x := (i : Int) + 1) (by omega) (by omega)]
 ·intro n M _
  rw [z0f, if_neg (by simp)]
theorem zw9 (φ : Nat) (hφ : 10000 < φ) (l : List z6) (at_ : Int) (hl : l.length <= 1000) (hp : ∀ r ∈ l, r.item.parts.length <= 1000) : z3z φ l at_ = some (zjo (hist l at_), ()) := by
 unfold z3z
 refine (z10 (fun n i acc => z1e φ n at_ l (l.length : Int) i acc) (fun acc => (z2j φ acc (fun a b => (z5a φ a b).bind fun r => (some r.1))).bind fun y9 => (z0f φ φ (y9.length : Int) 0 (([] : (List (z1 × (List (Int × Bool)))))) y9)) l (fun s r => if zm2 at_ r = true then s ++ [r] else s) (fun i s => s.length <= i) ?_ ?_ φ [] (by simp) (by omega)).1.trans ?_
 ·intro n i acc hi ha
  refine ⟨?_, ?_⟩
  ·rw [z1e, if_pos (by simp; omega), zc ⟨by omega, by omega⟩, W_id (x := (i : Int) + 1) (by omega) (by omega)]
   show (if zm2 at_ (gt l (i : Int)) = true then _ else _) = _
   cases h : zm2 at_ (gt l (i : Int)) with
   | false => simp
   | true =>
    simp only [if_true]
    rw [zc (zer (by simp; omega) (by omega))]
  ·show (if zm2 at_ (gt l (i : Int)) = true then _ else _ : List z6).length <= _
   split
   ·simp; omega
   ·omega
 ·intro n acc _
  rw [z1e, if_neg (by simp)]
 ·rw [z7p, List.nil_append, y9a]
  have hfl : (l.filter (zm2 at_)).length <= 1000 := Nat.le_trans (List.length_filter_le _ _) hl
  obtain ⟨r, h1, h2, h3⟩ := y7u zey (ycp φ (by omega)) φ (l.filter (zm2 at_)) (fun _ _ => trivial) (by omega) (by omega)
  have hr : r = hist l at_ := zu2 zey h1 h2
  subst hr
  rw [h3, Option.bind_some]
  have hlen := zdb l at_
  exact zpe φ (by omega) _ (by omega) (fun r hr => hp r (zdq.1 hr).1) φ (by omega)
end Px
end
section
namespace Px
open Go
set_option linter.unusedVariables false
set_option linter.unusedSimpArgs false
def zez (s : List Int) (w : Int) : List Int := s.filter (fun x => decide (x < w)) ++ w :: s.filter (fun x => decide (w < x))
def zi1 (s : List Int) (w : Int) : List Int := s.filter (fun x => x != w)
abbrev Inc (s : List Int) : Prop := s.Pairwise fun a b => a < b
theorem zwf {a b : List Int} (ha : Inc a) (hb : Inc b) (h : ∀ x, x ∈ a ↔ x ∈ b) : a = b := by
 have na : a.Nodup := ha.imp fun h => by omega
 have nb : b.Nodup := hb.imp fun h => by omega
 refine List.Perm.eq_of_pairwise (le := fun a b : Int => a <= b) (fun a b _ _ h1 h2 => by omega) (ha.imp fun h => by omega) (hb.imp fun h => by omega) ?_
 exact (List.perm_ext_iff_of_nodup na nb).2 h
theorem zjy {s : List Int} {w x : Int} : x ∈ zez s w ↔ x = w \/ x ∈ s := by
 unfold zez
 simp only [List.mem_append, List.mem_filter, List.mem_cons, decide_eq_true_eq]
 constructor
 ·rintro (h | h | h)
  ·exact .inr h.1
  ·exact .inl h
  ·exact .inr h.1
 ·rintro (h | h)
  ·exact .inr (.inl h)
  ·rcases Int.lt_trichotomy x w with q | q | q
   ·exact .inl ⟨h, q⟩
   ·exact .inr (.inl q)
   ·exact .inr (.inr ⟨h, q⟩)
theorem zty {s : List Int} (h : Inc s) (w : Int) : Inc (zez s w) := by
 unfold zez Inc
 rw [List.pairwise_append]
 refine ⟨h.filter _, List.pairwise_cons.2 ⟨fun x hx => ?_, h.filter _⟩, fun a ha b hb => ?_⟩
 ·simpa using (List.mem_filter.1 hx).2
 ·have h1 : a < w := by simpa using (List.mem_filter.1 ha).2
  rcases List.mem_cons.1 hb with rfl | hb
  ·exact h1
  ·have h2 : w < b := by simpa using (List.mem_filter.1 hb).2
   omega
theorem zme {s : List Int} {w x : Int} : x ∈ zi1 s w ↔ x ∈ s /\ x ≠ w := by simp [zi1]
theorem zvt {s : List Int} (h : Inc s) (w : Int) : Inc (zi1 s w) := h.filter _
theorem yd2 {a b : Int} : ltI (kl_0 a) (kl_0 b) = true ↔ a < b := by
 show ltI [a] [b] = true ↔ _
 simp only [ltI]
 by_cases h : a < b
 ·simp [h]
 ·by_cases h2 : a = b
  ·simp [h2]
  ·simp [h, h2]
theorem zi2 {s : List (Int × Bool)} (h : Srt' kl_0 s) : Inc (s.map (·.1)) := List.pairwise_map.2 (List.Pairwise.imp (fun {a b} q => yd2.1 q) h)
theorem zwz {a b : Int} (h : kl_0 a = kl_0 b) : a = b := by
 have h : [a] = [b] := h
 cases h; rfl
theorem y3o {a b : z1} (h : kl_9 a = kl_9 b) : a = b := by
 obtain ⟨a1, a2⟩ := a
 obtain ⟨b1, b2⟩ := b
 have h : [a1, a2] = [b1, b2] := h
 cases h; rfl
theorem zrw {s : List (Int × Bool)} (h : Srt' kl_0 s) (w : Int) (v : Bool) : (cset kl_0 s w v).map (·.1) = zez (s.map (·.1)) w := by
 refine zwf (zi2 (h.set w v)) (zty (zi2 h) w) fun x => ?_
 rw [zjy]
 simp only [List.mem_map]
 constructor
 ·rintro ⟨p, hp, rfl⟩
  rcases (z4t h).1 hp with rfl | ⟨hp, _⟩
  ·exact .inl rfl
  ·exact .inr ⟨p, hp, rfl⟩
 ·rintro (rfl | ⟨p, hp, rfl⟩)
  ·exact ⟨_, (z4t h).2 (.inl rfl), rfl⟩
  ·by_cases e : p.1 = w
   ·exact ⟨(w, v), (z4t h).2 (.inl rfl), e.symm⟩
   ·exact ⟨p, (z4t h).2 (.inr ⟨hp, fun q => e (zwz q).symm⟩), rfl⟩
theorem y7g {s : List (Int × Bool)} (h : Srt' kl_0 s) (w : Int) : (cdel kl_0 s w).map (·.1) = zi1 (s.map (·.1)) w := by
 refine zwf (zi2 (h.del w)) (zvt (zi2 h) w) fun x => ?_
 rw [zme, z9e h.ndp]
 simp only [List.mem_map, List.mem_filter, Bool.not_eq_true', beq_eq_false_iff_ne]
 constructor
 ·rintro ⟨p, ⟨hp, hn⟩, rfl⟩
  exact ⟨⟨p, hp, rfl⟩, fun e => hn (by rw [e])⟩
 ·rintro ⟨⟨p, hp, rfl⟩, hn⟩
  exact ⟨p, ⟨hp, fun e => hn (zwz e).symm⟩, rfl⟩
instance : DecidableEq z1 := fun a b => decidable_of_iff (a.kind = b.kind /\ a.serial = b.serial) ⟨fun h => by cases a; cases b; cases h.1; cases h.2; rfl, fun h => by rw [h]; exact ⟨rfl, rfl⟩⟩
def OkS (s : List (Int × Bool)) : Prop := Srt' kl_0 s /\ ∀ q ∈ s, q.2 = true
theorem OkS.nil : OkS [] := ⟨List.Pairwise.nil, fun q hq => by cases hq⟩
theorem OkS.set {s : List (Int × Bool)} (h : OkS s) (w : Int) : OkS (cset kl_0 s w true) :=
 ⟨h.1.set w true, fun q hq => by
  rcases (z4t h.1).1 hq with rfl | ⟨hq, _⟩
  ·rfl
  ·exact h.2 q hq⟩
theorem OkS.del {s : List (Int × Bool)} (h : OkS s) (w : Int) : OkS (cdel kl_0 s w) :=
 ⟨h.1.del w, fun q hq => h.2 q ((znr s w).subset hq)⟩
theorem OkS.get {s : List (Int × Bool)} (h : OkS s) (w : Int) : (cget kl_0 s w).getD (default : Bool) = (s.map (·.1)).contains w := by
 cases hc : cget kl_0 s w with
 | none =>
  have hn := zoz.1 hc
  have : (s.map (·.1)).contains w = false := by
   rw [List.contains_eq_mem, decide_eq_false_iff_not]
   intro hm
   obtain ⟨p, hp, e⟩ := List.mem_map.1 hm
   exact hn p hp (by rw [e])
  rw [this]; rfl
 | some b =>
  obtain ⟨a, hm, e⟩ := z9q hc
  have hb : b = true := h.2 _ hm
  have : (s.map (·.1)).contains w = true := by
   rw [List.contains_eq_mem, decide_eq_true_eq]
   exact List.mem_map.2 ⟨_, hm, (zwz e).symm⟩
  rw [this, hb]; rfl
structure OkM (M : Cmps) : Prop where
 srt : Srt' kl_9 M
 vals : ∀ p ∈ M, OkS p.2
def wk (M : Cmps) (c : z1) : List (Int × Bool) := (cget kl_9 M c).getD (default : List (Int × Bool))
theorem OkM.nil : OkM [] := ⟨List.Pairwise.nil, fun q hq => by cases hq⟩
theorem OkM.set {M : Cmps} (h : OkM M) (c : z1) {s : List (Int × Bool)} (hs : OkS s) : OkM (cset kl_9 M c s) :=
 ⟨h.srt.set c s, fun q hq => by
  rcases (z4t h.srt).1 hq with rfl | ⟨hq, _⟩
  ·exact hs
  ·exact h.vals q hq⟩
theorem OkM.get {M : Cmps} (h : OkM M) {c : z1} {s : List (Int × Bool)} (hc : cget kl_9 M c = some s) : OkS s := by
 obtain ⟨a, hm, _⟩ := z9q hc
 exact h.vals _ hm
theorem OkM.wk {M : Cmps} (h : OkM M) (c : z1) : OkS (wk M c) := by
 unfold Px.wk
 cases hc : cget kl_9 M c with
 | none => exact OkS.nil
 | some s => exact h.get hc
theorem OkM.step {M : Cmps} (h : OkM M) (w : Int) (p : Part) : OkM (zji w M p) := by
 unfold zji
 split
 ·split
  ·rename_i s hc; exact h.set _ ((h.get hc).del w)
  ·exact h
 ·split
  ·rename_i s hc; exact h.set _ ((h.get hc).set w)
  ·exact (h.set _ OkS.nil).set _ (OkS.nil.set w)
theorem zyi {M : Cmps} (h : Srt' kl_9 M) (c d : z1) (s : List (Int × Bool)) : wk (cset kl_9 M c s) d = if d = c then s else wk M d := by
 unfold wk
 rw [zsr h]
 by_cases e : d = c
 ·subst e; simp
 ·have : (kl_9 d == kl_9 c) = false := by rw [beq_eq_false_iff_ne]; exact fun q => e (y3o q)
  rw [this, if_neg e]; rfl
def zkv (c : z1) (w : Int) (s : List Int) (p : Part) : List Int := if ofP p = c then (if p.fitted = true then zez s w else zi1 s w) else s
theorem yc7 {M : Cmps} (h : OkM M) (w : Int) (p : Part) (c : z1) : (wk (zji w M p) c).map (·.1) = zkv c w ((wk M c).map (·.1)) p := by
 unfold zji zkv
 cases hf : p.fitted with
 | false =>
  simp only [if_true]
  split
  ·rename_i s hc
   rw [zyi h.srt]
   by_cases e : c = ofP p
   ·rw [if_pos e, if_pos e.symm, if_neg (by simp), y7g (h.get hc).1]
    have : wk M c = s := by unfold wk; rw [e, hc]; rfl
    rw [this]
   ·rw [if_neg e, if_neg (fun q => e q.symm)]
  ·rename_i hc
   by_cases e : c = ofP p
   ·rw [if_pos e.symm, if_neg (by simp)]
    have : wk M c = [] := by unfold wk; rw [e, hc]; rfl
    rw [this]; rfl
   ·rw [if_neg (fun q => e q.symm)]
 | true =>
  simp only [Bool.true_eq_false, if_false]
  split
  ·rename_i s hc
   rw [zyi h.srt]
   by_cases e : c = ofP p
   ·rw [if_pos e, if_pos e.symm, if_pos trivial, zrw (h.get hc).1]
    have : wk M c = s := by unfold wk; rw [e, hc]; rfl
    rw [this]
   ·rw [if_neg e, if_neg (fun q => e q.symm)]
  ·rename_i hc
   rw [zyi (h.srt.set _ _), zyi h.srt]
   by_cases e : c = ofP p
   ·rw [if_pos e, if_pos e.symm, if_pos trivial, zrw OkS.nil.1]
    have : wk M c = [] := by unfold wk; rw [e, hc]; rfl
    rw [this]
   ·rw [if_neg e, if_neg e, if_neg (fun q => e q.symm)]
def posR (c : z1) (s : List Int) (r : z6) : List Int := r.item.parts.foldl (zkv c r.item.wagon) s
def posW (c : z1) (rs : List z6) : List Int := rs.foldl (posR c) []
theorem zt8 (w : Int) (c : z1) : ∀ (ps : List Part) (M : Cmps), OkM M -> OkM (ps.foldl (zji w) M) /\ (wk (ps.foldl (zji w) M) c).map (·.1) = ps.foldl (zkv c w) ((wk M c).map (·.1))
 | [], M, h => ⟨h, rfl⟩
 | p :: ps, M, h => by
  have := zt8 w c ps (zji w M p) (h.step w p)
  rw [yc7 h] at this
  exact this
theorem zww (c : z1) : ∀ (rs : List z6) (M : Cmps), OkM M -> OkM (rs.foldl zql M) /\ (wk (rs.foldl zql M) c).map (·.1) = rs.foldl (posR c) ((wk M c).map (·.1))
 | [], M, h => ⟨h, rfl⟩
 | r :: rs, M, h => by
  have h1 := zt8 r.item.wagon c r.item.parts M h
  have := zww c rs (zql M r) h1.1
  show _ /\ _ = rs.foldl (posR c) (posR c _ r)
  rw [show posR c ((wk M c).map (·.1)) r = (wk (zql M r) c).map (·.1) from h1.2.symm]
  exact this
theorem zny (rs : List z6) : OkM (zjo rs) := (zww ⟨0, 0⟩ rs [] OkM.nil).1
theorem zeo (rs : List z6) (c : z1) : (wk (zjo rs) c).map (·.1) = posW c rs := (zww c rs [] OkM.nil).2
theorem y8o (c : z1) (rs : List z6) : Inc (posW c rs) := by
 rw [<- zeo]; exact zi2 ((zny rs).wk c).1
theorem y3p {rs : List z6} {e : z1 × List (Int × Bool)} (h : e ∈ zjo rs) : e.2 = wk (zjo rs) e.1 := by
 unfold wk
 rw [zow (zny rs).srt.ndp (a := e.1) (v := e.2) h rfl]; rfl
theorem zud (c : z1) (w : Int) : ∀ (ps : List Part) (s : List Int) (x : Int), x ∈ ps.foldl (zkv c w) s -> x = w \/ x ∈ s
 | [], s, x, h => .inr h
 | p :: ps, s, x, h => by
  rcases zud c w ps _ x h with q | q
  ·exact .inl q
  ·unfold zkv at q
   split at q
   ·split at q
    ·exact zjy.1 q
    ·exact .inr (zme.1 q).1
   ·exact .inr q
theorem zz2 (c : z1) : ∀ (rs : List z6) (s : List Int) (x : Int), x ∈ rs.foldl (posR c) s -> x ∈ s \/ ∃ r ∈ rs, x = r.item.wagon
 | [], s, x, h => .inl h
 | r :: rs, s, x, h => by
  rcases zz2 c rs _ x h with q | ⟨r', hr, q⟩
  ·rcases zud c _ _ _ x q with q | q
   ·exact .inr ⟨r, by simp, q⟩
   ·exact .inl q
  ·exact .inr ⟨r', by simp [hr], q⟩
theorem zia {c : z1} {rs : List z6} {x : Int} (h : x ∈ posW c rs) : ∃ r ∈ rs, x = r.item.wagon := by
 rcases zz2 c rs [] x h with q | q
 ·cases q
 ·exact q
theorem zfw : ∀ {a : List Int} {b : List Int}, Inc a -> (∀ x ∈ a, x ∈ b) -> a.length <= b.length
 | [], b, _, _ => Nat.zero_le _
 | x :: a, b, ha, h => by
  have hx := h x (by simp)
  have h2 := List.pairwise_cons.1 ha
  have := zfw (a := a) (b := b.erase x) h2.2 fun y hy => (List.mem_erase_of_ne (fun e => by have := h2.1 y hy; omega)).2 (h y (by simp [hy]))
  rw [List.length_erase_of_mem hx] at this
  have := List.length_pos_of_mem hx
  simp only [List.length_cons]; omega
theorem zkg (c : z1) (rs : List z6) : (posW c rs).length <= rs.length := by
 have := zfw (y8o c rs) (b := rs.map fun r => r.item.wagon) fun x hx => by
  obtain ⟨r, hr, e⟩ := zia hx
  exact List.mem_map.2 ⟨r, hr, e.symm⟩
 simpa using this
end Px
end
section
namespace Px
open Go
set_option linter.unusedVariables false
set_option linter.unusedSimpArgs false
structure FewP (l : List z6) : Prop where
 len : l.length <= 100
 parts : ∀ r ∈ l, r.item.parts.length <= 40
 wagon : ∀ r ∈ l, -9223372036854775808 <= r.item.wagon /\ r.item.wagon < 9223372036854775808
theorem FewP.carriers {l : List z6} (h : FewP l) (φ : Nat) (hφ : 10000 < φ) (at_ : Int) : z3z φ l at_ = some (zjo (hist l at_), ()) :=
 zw9 φ hφ l at_ (by have := h.len; omega) (fun r hr => by have := h.parts r hr; omega)
theorem zri {l : List z6} (h : FewP l) {c : z1} {at_ x : Int} (hx : x ∈ posW c (hist l at_)) : -9223372036854775808 <= x /\ x < 9223372036854775808 := by
 obtain ⟨r, hr, rfl⟩ := zia hx
 exact h.wagon r (zdq.1 hr).1
theorem y9k {s : List (Int × Bool)} (h : ∀ x ∈ s.map (·.1), -9223372036854775808 <= x /\ x < 9223372036854775808) (hl : s.length <= 100000) : soK kl_0 s = true := by
 unfold soK
 rw [Bool.and_eq_true]
 refine ⟨List.all_eq_true.2 fun p hp => ?_, Nat.ble_eq_true_of_le (by omega)⟩
 obtain ⟨h1, h2⟩ := h p.1 (List.mem_map.2 ⟨p, hp, rfl⟩)
 show inI [p.1] = true
 simp [inI, h1, h2]
def carL (c : z1) (ws : List Int) : List z27 := ws.map fun w => ⟨⟨c.kind, c.serial, true⟩, w, ((ws.length : Int) : Int) == 1⟩
theorem zy0 {α β : Type} (f : α -> β) (l : List α) : ∀ acc : List β, l.foldl (fun s r => s ++ [f r]) acc = acc ++ l.map f := by
 induction l with
 | nil => intro acc; simp
 | cons a l ih => intro acc; rw [List.foldl_cons, ih]; simp
theorem zxn {l : List z6} (h : FewP l) (φ : Nat) (hφ : 10000 < φ) (k s at_ : Int) : z04 φ l k s at_ = some (carL ⟨k, s⟩ (posW ⟨k, s⟩ (hist l at_)), ()) := by
 unfold z04
 rw [h.carriers φ hφ, Option.bind_some]
 simp only
 have hk := zeo (hist l at_) ⟨k, s⟩
 unfold wk at hk
 generalize hS : (cget kl_9 (zjo (hist l at_)) (⟨k, s⟩ : z1)).getD (default : List (Int × Bool)) = S at hk ⊢
 have hlen : S.length <= 100 := by
  have h1 := congrArg List.length hk
  rw [List.length_map] at h1
  have := zkg ⟨k, s⟩ (hist l at_)
  have := zdb l at_
  have := h.len
  omega
 rw [zc (y9k (fun x hx => zri h (c := ⟨k, s⟩) (at_ := at_) (by rw [<- hk]; exact hx)) (by omega))]
 have hW : (List.map (fun p : Int × Bool => p.1) S) = posW ⟨k, s⟩ (hist l at_) := hk
 rw [hW]
 have hSl : S.length = (posW ⟨k, s⟩ (hist l at_)).length := by rw [<- hk, List.length_map]
 generalize posW ⟨k, s⟩ (hist l at_) = ws at *
 refine (z10 (fun n i acc => z2b φ n S (ws.length : Int) i acc ⟨k, s⟩ ws) (fun acc => some (acc, ())) ws (fun acc w => acc ++ [(⟨⟨k, s, true⟩, w, ((ws.length : Int) : Int) == 1⟩ : z27)]) (fun i acc => acc.length = i) ?_ ?_ φ [] rfl (by omega)).1.trans ?_
 ·intro n i acc hi ha
  refine ⟨?_, by simp [ha]⟩
  rw [z2b, if_pos (by simp; omega), zc ⟨by omega, by omega⟩, W_id (x := (i : Int) + 1) (by omega) (by omega)]
  simp only [zw, Option.bind_some]
  rw [zc (zer (by simp; omega) (by omega)), hSl]
 ·intro n acc _
  rw [z2b, if_neg (by simp)]
 ·rw [zy0, List.nil_append]; rfl
theorem zso {κ ν : Type} {e : κ -> List Int} {m : List (κ × ν)} (h : Srt' e m) (k : κ) (v : ν) : (cset e m k v).length <= m.length + 1 := by
 rw [(zkr h k v).length_eq, List.length_cons]
 have := (znr (e := e) m k).length_le
 omega
theorem y4a {κ ν : Type} {e : κ -> List Int} {m : List (κ × ν)} (h : Srt' e m) {k : κ} {x : ν} (hx : cget e m k = some x) (v : ν) : (cset e m k v).length <= m.length := by
 rw [(zkr h k v).length_eq, List.length_cons, z9e h.ndp]
 obtain ⟨a, hm, e1⟩ := z9q hx
 have h1 := List.length_filter_lt_length_iff_exists (l := m) (p := fun p => !(e k == e p.1))
 have := h1.2 ⟨_, hm, by simp [e1]⟩
 omega
theorem y0l {M : Cmps} (h : OkM M) (w : Int) (p : Part) : (zji w M p).length <= M.length + 1 := by
 unfold zji
 split
 ·split
  ·exact zso h.srt _ _
  ·omega
 ·split
  ·exact zso h.srt _ _
  ·have h1 := zso h.srt (ofP p) (default : List (Int × Bool))
   have h2 := y4a (h.srt.set (ofP p) (default : List (Int × Bool))) (k := ofP p) (x := default) (by rw [zsr h.srt]; simp) (cset kl_0 ([] : List (Int × Bool)) w true)
   omega
theorem zu7 (w : Int) : ∀ (ps : List Part) (M : Cmps), OkM M -> (ps.foldl (zji w) M).length <= M.length + ps.length
 | [], M, h => by simp
 | p :: ps, M, h => by
  have h1 := zu7 w ps _ (h.step w p)
  have h2 := y0l h w p
  simp only [List.foldl_cons, List.length_cons]; omega
theorem zzg : ∀ (rs : List z6) (M : Cmps), OkM M -> (∀ r ∈ rs, r.item.parts.length <= 40) -> (rs.foldl zql M).length <= M.length + 40 * rs.length
 | [], M, h, _ => by simp
 | r :: rs, M, h, hp => by
  have h0 := (zt8 r.item.wagon ⟨0, 0⟩ r.item.parts M h).1
  have h1 := zzg rs (zql M r) h0 fun r' hr => hp r' (by simp [hr])
  have h2 := zu7 r.item.wagon r.item.parts M h
  have h3 := hp r (by simp)
  have h4 : (zql M r).length = (r.item.parts.foldl (zji r.item.wagon) M).length := rfl
  simp only [List.foldl_cons, List.length_cons]; omega
theorem y4g {l : List z6} (h : FewP l) (at_ : Int) : (zjo (hist l at_)).length <= 4000 := by
 have := zzg (hist l at_) [] OkM.nil fun r hr => h.parts r (zdq.1 hr).1
 have := zdb l at_
 have := h.len
 unfold zjo
 simp only [List.length_nil] at *
 omega
def fitB (w : Int) (e : z1 × List (Int × Bool)) : Bool := (((e.2.length : Int) : Int) == 1) && ((cget kl_0 e.2 w).getD (default : Bool))
def prt (c : z1) : Part := ⟨c.kind, c.serial, true⟩
theorem zgp (φ : Nat) (w : Int) : ∀ (M : Cmps) (n : Nat) (p : List Part), M.length < n -> p.length + M.length <= 10000 ->
  zi φ n w p M = ((zi3 (p ++ (M.filter (fitB w)).map fun e => prt e.1)).bind fun y => some (y, ()))
 | [], n + 1, p, _, _ => by simp [zi, z00]
 | e :: M, n + 1, p, hn, hl => by
  simp only [List.length_cons] at hn hl
  simp only [zi, z00, zw, Option.bind_some]
  show (if fitB w e = true then _ else _) = _
  rw [List.filter_cons]
  cases h : fitB w e with
  | false => simp only [Bool.false_eq_true, if_false]; exact zgp φ w M n p (by omega) (by omega)
  | true =>
   simp only [if_true]
   rw [zc (zer (by simp; omega) (by omega)), zgp φ w M n _ (by omega) (by simp; omega)]
   simp [prt]
def ltC (a b : Part) : Prop := a.kind < b.kind \/ (a.kind = b.kind /\ a.serial < b.serial)
theorem y2g {l : List z6} (h : FewP l) (φ : Nat) (hφ : 10000 < φ) (w at_ : Int) : ∃ p, zm φ l w at_ = some (p, ()) /\ p.Pairwise ltC /\ p.length <= 4000 /\
  ∀ x, x ∈ p ↔ x.fitted = true /\ posW (ofP x) (hist l at_) = [w] := by
 unfold zm
 rw [h.carriers φ hφ, Option.bind_some]
 simp only
 have hM := zny (hist l at_)
 have hlen := y4g h at_
 have hpos := zeo (hist l at_)
 have hmem := @y3p (hist l at_)
 generalize zjo (hist l at_) = M at *
 rw [zgp φ w M φ [] (by omega) (by simp; omega), List.nil_append]
 have hpw : ((M.filter (fitB w)).map fun e => prt e.1).Pairwise fun a b => zba a b < 0 \/ zba b a < 0 := by
  refine List.pairwise_map.2 (List.Pairwise.imp (fun {a b} hab => ?_) (hM.srt.ndp.filter _))
  rw [z5o, z5o]
  have : ¬ (a.1.kind = b.1.kind /\ a.1.serial = b.1.serial) := fun q => hab (by
   show [a.1.kind, a.1.serial] = [b.1.kind, b.1.serial]
   rw [q.1, q.2])
  show (a.1.kind < b.1.kind \/ (a.1.kind = b.1.kind /\ a.1.serial < b.1.serial)) \/ (b.1.kind < a.1.kind \/ (b.1.kind = a.1.kind /\ b.1.serial < a.1.serial))
  omega
 have hfl : ((M.filter (fitB w)).map fun e => prt e.1).length <= 4000 := by
  rw [List.length_map]; exact Nat.le_trans (List.length_filter_le _ _) hlen
 have hs : zi3 ((M.filter (fitB w)).map fun e => prt e.1) = some (zii (fun a b => decide (zba a b < 0)) ((M.filter (fitB w)).map fun e => prt e.1)) :=
  zys (fun _ _ => rfl) (by omega) hpw
 rw [hs, Option.bind_some]
 have hswo : Sort.SWO (fun a b : Part => decide (zba a b < 0)) :=
  ⟨fun a => by simp only [decide_eq_false_iff_not]; rw [z5o]; omega, fun a b c h1 h2 => by simp only [decide_eq_true_eq] at *; rw [z5o] at *; omega, fun a b c h1 h2 => by simp only [decide_eq_false_iff_not] at *; rw [z5o] at *; omega⟩
 refine ⟨_, rfl, ?_, by rw [(z4m _ _).length_eq]; exact hfl, fun x => ?_⟩
 ·have h1 := z7x hswo ((M.filter (fitB w)).map fun e => prt e.1)
  have h2 := ((z4m (fun a b : Part => decide (zba a b < 0)) ((M.filter (fitB w)).map fun e => prt e.1)).pairwise_iff (fun {a b} (h : zba a b < 0 \/ zba b a < 0) => h.symm)).2 hpw
  refine List.Pairwise.imp (fun {a b} q => ?_) (h1.and h2)
  obtain ⟨q1, q2⟩ := q
  rcases q2 with q2 | q2
  ·exact z5o.1 q2
  ·rw [decide_eq_false_iff_not] at q1; exact absurd q2 q1
 ·rw [(z4m _ _).mem_iff]
  simp only [List.mem_map, List.mem_filter]
  have key : ∀ e ∈ M, fitB w e = true ↔ posW e.1 (hist l at_) = [w] := by
   intro e he
   have h1 := hM.vals e he
   have h2 : e.2.map (·.1) = posW e.1 (hist l at_) := by rw [hmem he]; exact hpos e.1
   unfold fitB
   rw [h1.get w, h2, Bool.and_eq_true, beq_iff_eq]
   have h3 : (e.2.length : Int) = ((posW e.1 (hist l at_)).length : Int) := by rw [<- h2, List.length_map]
   rw [h3]
   constructor
   ·rintro ⟨q1, q2⟩
    match hp : posW e.1 (hist l at_), q1, q2 with
    | [y], _, q2 =>
     simp only [List.contains_cons, List.contains_nil, Bool.or_false, beq_iff_eq] at q2
     rw [q2]
    | [], q1, _ => simp at q1
    | _ :: _ :: _, q1, _ => simp at q1; omega
   ·intro q
    rw [q]; simp
  constructor
  ·rintro ⟨e, ⟨he, hf⟩, rfl⟩
   exact ⟨rfl, (key e he).1 hf⟩
  ·rintro ⟨hx, hp⟩
   have h1 := hpos (ofP x)
   rw [hp] at h1
   have hc : ∃ s, cget kl_9 M (ofP x) = some s := by
    unfold wk at h1
    cases hc : cget kl_9 M (ofP x) with
    | none => rw [hc] at h1; cases h1
    | some s => exact ⟨s, rfl⟩
   obtain ⟨s, hc⟩ := hc
   obtain ⟨a, hm, e1⟩ := z9q hc
   have e2 := y3o e1
   refine ⟨(a, s), ⟨hm, (key _ hm).2 (by show posW a _ = _; rw [<- e2]; exact hp)⟩, ?_⟩
   show prt a = x
   rw [<- e2]
   obtain ⟨k, sr, f⟩ := x
   simp only at hx
   subst hx
   rfl
end Px
end
section
namespace Px
open Go
set_option linter.unusedVariables false
set_option linter.unusedSimpArgs false
def cpM (m s : List (Int × Bool)) : List (Int × Bool) := s.foldl (fun m e => cset kl_0 m e.1 e.2) m
theorem ya1 : ∀ {s m : List (Int × Bool)}, OkS m -> (∀ q ∈ s, q.2 = true) -> OkS (cpM m s) /\ ∀ x, x ∈ (cpM m s).map (·.1) ↔ x ∈ m.map (·.1) \/ x ∈ s.map (·.1)
 | [], m, h, _ => ⟨h, fun x => by simp [cpM]⟩
 | e :: s, m, h, hs => by
  have he : e.2 = true := hs e (by simp)
  have h1 : OkS (cset kl_0 m e.1 e.2) := by rw [he]; exact h.set e.1
  obtain ⟨h2, h3⟩ := ya1 (s := s) h1 fun q hq => hs q (by simp [hq])
  refine ⟨h2, fun x => (h3 x).trans ?_⟩
  rw [zrw h.1, zjy]
  simp only [List.map_cons, List.mem_cons]
  constructor
  ·rintro ((q | q) | q)
   ·exact .inr (.inl q)
   ·exact .inl q
   ·exact .inr (.inr q)
  ·rintro (q | q | q)
   ·exact .inl (.inr q)
   ·exact .inl (.inl q)
   ·exact .inr q
theorem zit (φ : Nat) (k20) : ∀ (s : List (Int × Bool)) (n : Nat) (a b c d e f g i) (m : List (Int × Bool)), s.length < n -> zo φ k20 n a b c d e f g i m s = k20 a b c d e f g (W (i + 1)) (cpM m s)
 | [], n + 1, a, b, c, d, e, f, g, i, m, _ => rfl
 | x :: s, n + 1, a, b, c, d, e, f, g, i, m, h => by
  simp only [List.length_cons] at h
  simp only [zo, z1k]
  rw [zit φ k20 s n _ _ _ _ _ _ _ _ _ (by omega)]
  rfl
def zlc (at_ : Int) (r : z6) : Bool := ((r.item.kind : Int) == 10) && decide ((r.time : Int) <= at_)
def blkR (at_ : Int) (M : Cmps) (m : List (Int × Bool)) (r : z6) : List (Int × Bool) := if zlc at_ r = true then r.item.parts.foldl (fun m p => cpM m (wk M (ofP p))) m else m
theorem zqb (φ : Nat) (k10) (at_ : Int) (M : Cmps) (l : List z6) (ln i : Int) (ps : List Part) (hp : ps.length <= 1000) (hM : ∀ c, (wk M c).length < φ) (n : Nat) (hn : ps.length < n) (m : List (Int × Bool)) :
  z0i φ k10 n at_ M l ln i ps (ps.length : Int) 0 m = k10 at_ M l ln (W (i + 1)) (ps.foldl (fun m p => cpM m (wk M (ofP p))) m) := by
 refine (z10 (fun n j m => z0i φ k10 n at_ M l ln i ps (ps.length : Int) j m) (fun m => k10 at_ M l ln (W (i + 1)) m) ps (fun m p => cpM m (wk M (ofP p))) (fun _ _ => True) ?_ ?_ n m trivial hn).1
 ·intro n j m hj _
  refine ⟨?_, trivial⟩
  rw [z0i, if_pos (by simp; omega), zc ⟨by omega, by omega⟩]
  simp only [zcm, Option.bind_some]
  show zo φ (z0i φ k10 n) φ at_ M l ln i ps (ps.length : Int) (j : Int) m (wk M (ofP (gt ps (j : Int)))) = _
  rw [zit φ _ _ φ _ _ _ _ _ _ _ _ _ (hM _), W_id (x := (j : Int) + 1) (by omega) (by omega)]
 ·intro n m _
  rw [z0i, if_neg (by simp)]
theorem zug (φ : Nat) {l : List z6} (h : FewP l) (hφ : 10000 < φ) (at_ : Int) (M : Cmps) (hM : ∀ c, (wk M c).length < φ) :
  z0k φ φ at_ M l (l.length : Int) 0 [] = ck (soK kl_0 (l.foldl (blkR at_ M) []) = true) (some ((l.foldl (blkR at_ M) []).map (·.1), ())) := by
 have hl := h.len
 refine (z10 (fun n i m => z0k φ n at_ M l (l.length : Int) i m) (fun m => ck (soK kl_0 m = true) (some (m.map (·.1), ()))) l (blkR at_ M) (fun _ _ => True) ?_ ?_ φ [] trivial (by omega)).1
 ·intro n i m hi _
  refine ⟨?_, trivial⟩
  rw [z0k, if_pos (by simp; omega), zc ⟨by omega, by omega⟩]
  have hg := ziv (l := l) (i := (i : Int)) (by omega) (by omega)
  rw [W_id (x := (i : Int) + 1) (by omega) (by omega)]
  unfold blkR zlc
  by_cases hk : ((gt l (i : Int)).item.kind : Int) = 10
  ·by_cases ht : ((gt l (i : Int)).time : Int) <= at_
   ·rw [if_neg (by simp; omega), if_pos (by simp [hk, ht]), zqb φ _ at_ M l _ _ _ (by have := h.parts _ hg; omega) hM φ (by have := h.parts _ hg; omega), W_id (x := (i : Int) + 1) (by omega) (by omega)]
   ·rw [if_pos (by simp; omega), if_neg (by simp; omega)]
  ·rw [if_pos (by simp [hk]), if_neg (by simp [hk])]
 ·intro n m _
  rw [z0k, if_neg (by simp)]
theorem zub {M : Cmps} (hM : OkM M) : ∀ (ps : List Part) {m : List (Int × Bool)}, OkS m -> OkS (ps.foldl (fun m p => cpM m (wk M (ofP p))) m) /\ ∀ x, x ∈ (ps.foldl (fun m p => cpM m (wk M (ofP p))) m).map (·.1) ↔ x ∈ m.map (·.1) \/ ∃ p ∈ ps, x ∈ (wk M (ofP p)).map (·.1)
 | [], m, h => ⟨h, fun x => by simp⟩
 | p :: ps, m, h => by
  obtain ⟨h1, h2⟩ := ya1 h (hM.wk (ofP p)).2
  obtain ⟨h3, h4⟩ := zub hM ps h1
  refine ⟨h3, fun x => (h4 x).trans ?_⟩
  rw [h2 x]
  constructor
  ·rintro ((q | q) | ⟨p', hp, q⟩)
   ·exact .inl q
   ·exact .inr ⟨p, by simp, q⟩
   ·exact .inr ⟨p', by simp [hp], q⟩
  ·rintro (q | ⟨p', hp, q⟩)
   ·exact .inl (.inl q)
   ·rcases List.mem_cons.1 hp with rfl | hp
    ·exact .inl (.inr q)
    ·exact .inr ⟨p', hp, q⟩
theorem zz1 (at_ : Int) {M : Cmps} (hM : OkM M) : ∀ (rs : List z6) {m : List (Int × Bool)}, OkS m -> OkS (rs.foldl (blkR at_ M) m) /\
  ∀ x, x ∈ (rs.foldl (blkR at_ M) m).map (·.1) ↔ x ∈ m.map (·.1) \/ ∃ r ∈ rs, zlc at_ r = true /\ ∃ p ∈ r.item.parts, x ∈ (wk M (ofP p)).map (·.1)
 | [], m, h => ⟨h, fun x => by simp⟩
 | r :: rs, m, h => by
  have h1 : OkS (blkR at_ M m r) /\ ∀ x, x ∈ (blkR at_ M m r).map (·.1) ↔ x ∈ m.map (·.1) \/ (zlc at_ r = true /\ ∃ p ∈ r.item.parts, x ∈ (wk M (ofP p)).map (·.1)) := by
   unfold blkR
   cases hr : zlc at_ r with
   | false => simp only [Bool.false_eq_true, if_false]; exact ⟨h, fun x => by simp⟩
   | true =>
    simp only [if_true]
    obtain ⟨q1, q2⟩ := zub hM r.item.parts h
    exact ⟨q1, fun x => (q2 x).trans (by simp)⟩
  obtain ⟨h3, h4⟩ := zz1 at_ hM rs h1.1
  refine ⟨h3, fun x => (h4 x).trans ?_⟩
  rw [h1.2 x]
  constructor
  ·rintro ((q | q) | ⟨r', hr, q⟩)
   ·exact .inl q
   ·exact .inr ⟨r, by simp, q⟩
   ·exact .inr ⟨r', by simp [hr], q⟩
  ·rintro (q | ⟨r', hr, q⟩)
   ·exact .inl (.inl q)
   ·rcases List.mem_cons.1 hr with rfl | hr
    ·exact .inl (.inr q)
    ·exact .inr ⟨r', hr, q⟩
theorem zzp {l : List z6} (h : FewP l) (φ : Nat) (hφ : 10000 < φ) (at_ : Int) : ∃ b, zj φ l at_ = some (b, ()) /\ Inc b /\ b.length <= 100 /\
  ∀ x, x ∈ b ↔ ∃ r ∈ l, zlc at_ r = true /\ ∃ p ∈ r.item.parts, x ∈ posW (ofP p) (hist l at_) := by
 unfold zj
 rw [h.carriers φ hφ, Option.bind_some]
 simp only
 have hM := zny (hist l at_)
 have hw : ∀ c, (wk (zjo (hist l at_)) c).length < φ := fun c => by
  have h1 := congrArg List.length (zeo (hist l at_) c)
  rw [List.length_map] at h1
  have := zkg c (hist l at_)
  have := zdb l at_
  have := h.len
  omega
 rw [zug φ h hφ at_ _ hw]
 obtain ⟨h1, h2⟩ := zz1 at_ hM l OkS.nil
 have hx : ∀ x, x ∈ (l.foldl (blkR at_ (zjo (hist l at_))) []).map (·.1) ↔ ∃ r ∈ l, zlc at_ r = true /\ ∃ p ∈ r.item.parts, x ∈ posW (ofP p) (hist l at_) := by
  intro x
  rw [h2 x]
  simp only [List.map_nil, List.not_mem_nil, false_or]
  constructor
  ·rintro ⟨r, hr, q, p, hp, hx⟩; exact ⟨r, hr, q, p, hp, by rw [<- zeo]; exact hx⟩
  ·rintro ⟨r, hr, q, p, hp, hx⟩; exact ⟨r, hr, q, p, hp, by rw [zeo]; exact hx⟩
 have hinc := zi2 h1.1
 generalize l.foldl (blkR at_ (zjo (hist l at_))) [] = m at *
 have hlen : m.length <= 100 := by
  have := zfw hinc (b := l.map fun r => r.item.wagon) fun x hxx => by
   obtain ⟨r, _, _, p, _, hp⟩ := (hx x).1 hxx
   obtain ⟨r', hr', e⟩ := zia hp
   exact List.mem_map.2 ⟨r', (zdq.1 hr').1, e.symm⟩
  rw [List.length_map, List.length_map] at this
  have := h.len
  omega
 rw [zc (y9k (fun x hxx => by
  obtain ⟨r, _, _, p, _, hp⟩ := (hx x).1 hxx
  exact zri h hp) (by omega))]
 exact ⟨_, rfl, hinc, by rw [List.length_map]; exact hlen, hx⟩
end Px
end
section
namespace Px
open Go
set_option linter.unusedVariables false
set_option linter.unusedSimpArgs false
set_option maxRecDepth 100000
theorem ydz : zie 100000000 = some (true, ()) := by kernel_rfl
theorem y6z (φ : Nat) (hφ : 1000 < φ) (l : List z6) : ∃ b, zke φ l = some (b, ()) /\ (b = true -> l.length <= 30 /\ ∀ r ∈ l, r.item.parts.length <= 20) := by
 unfold zke
 by_cases h : l.length <= 30
 ·rw [if_neg (by simp; omega)]
  refine ⟨l.all (fun r => decide (r.item.parts.length <= 20)), ?_, fun hb => ⟨h, fun r hr => by simpa using List.all_eq_true.1 hb r hr⟩⟩
  refine zhz (fun n i (s : Unit) => z7z φ n l i) l.length (fun i _ => (l.take i).all (fun r => decide (r.item.parts.length <= 20)) = true) (fun o => o = some (l.all (fun r => decide (r.item.parts.length <= 20)), ())) ?_ ?_ φ () rfl (by omega)
  ·intro n i s hi hs hk
   rw [z7z, if_pos (by simp; omega), zc ⟨by omega, by omega⟩, W_id (x := (i : Int) + 1) (by omega) (by omega)]
   by_cases hp : (gt l (i : Int)).item.parts.length <= 20
   ·rw [if_neg (by simp; omega)]
    exact hk () (by rw [zsm _ _ _ hi, hs]; simp [hp])
   ·rw [if_pos (by simp; omega)]
    have : l.all (fun r => decide (r.item.parts.length <= 20)) = false := by
     rw [List.all_eq_false]
     exact ⟨_, ziv (l := l) (i := (i : Int)) (by omega) (by omega), by simpa using hp⟩
    rw [this]
  ·intro n s hs
   rw [List.take_length] at hs
   rw [z7z, if_neg (by simp), hs]
 ·rw [if_pos (by simp; omega)]
  exact ⟨_, rfl, fun h => by cases h⟩
theorem y3d {l : List z6} (h : rdN TV 30 10 l) : ∀ r ∈ l, -9223372036854775808 <= r.item.wagon /\ r.item.wagon < 9223372036854775808 := by
 intro r hr
 have h1 : RL (rdN TV 29 7) l := h
 have h2 : rdN TV 29 7 r := h1.1 r hr
 have h3 : RI .i64 r.item.wagon := h2.2.2.2.2.2.1
 have e1 : IntKind.i64.min = -9223372036854775808 := rfl
 have e2 : IntKind.i64.max = 9223372036854775807 := rfl
 unfold RI at h3
 rw [e1, e2] at h3
 omega
theorem ybn {l : List z6} (h : rdN TV 30 10 l) (h1 : l.length <= 30) (h2 : ∀ r ∈ l, r.item.parts.length <= 20) : FewP l :=
 ⟨by omega, fun r hr => by have := h2 r hr; omega, y3d h⟩
end Px
end
section
namespace Px
open Go
set_option linter.unusedVariables false
set_option linter.unusedSimpArgs false
theorem zln (φ : Nat) (a : List z27) (hl : a.length <= 1000) (hφ : 1000 < φ) : zx φ a a = some (true, ()) := by
 unfold zx
 rw [if_neg (by simp)]
 refine zhz (fun n i (s : Unit) => z12 φ n a a i) a.length (fun _ _ => True) (fun o => o = some (true, ())) ?_ ?_ φ () trivial (by omega)
 ·intro n i s hi _ hk
  rw [z12, if_pos (by simp; omega), zc ⟨by omega, by omega⟩, zc ⟨by omega, by omega⟩, if_neg (by simp), W_id (x := (i : Int) + 1) (by omega) (by omega)]
  exact hk () trivial
 ·intro n s _
  rw [z12, if_neg (by simp)]
theorem zs3 (φ : Nat) (a : List Int) (hl : a.length <= 1000) (hφ : 1000 < φ) : z0h φ a a = some (true, ()) := by
 unfold z0h
 rw [if_neg (by simp)]
 refine zhz (fun n i (s : Unit) => z3t φ n a a i) a.length (fun _ _ => True) (fun o => o = some (true, ())) ?_ ?_ φ () trivial (by omega)
 ·intro n i s hi _ hk
  rw [z3t, if_pos (by simp; omega), zc ⟨by omega, by omega⟩, zc ⟨by omega, by omega⟩, if_neg (by simp), W_id (x := (i : Int) + 1) (by omega) (by omega)]
  exact hk () trivial
 ·intro n s _
  rw [z3t, if_neg (by simp)]
theorem zqc (φ : Nat) (a : List Part) (hl : a.length <= 10000) (hφ : 10000 < φ) : z03 φ a a = some (true, ()) := by
 unfold z03
 rw [if_neg (by simp)]
 refine zhz (fun n i (s : Unit) => z30 φ n a a i) a.length (fun _ _ => True) (fun o => o = some (true, ())) ?_ ?_ φ () trivial (by omega)
 ·intro n i s hi _ hk
  rw [z30, if_pos (by simp; omega), zc ⟨by omega, by omega⟩, zc ⟨by omega, by omega⟩, if_neg (by simp), W_id (x := (i : Int) + 1) (by omega) (by omega)]
  exact hk () trivial
 ·intro n s _
  rw [z30, if_neg (by simp)]
def ownB (c : z1) (r : z6) : Bool := r.item.parts.any fun p => decide (p.kind = c.kind) && decide (p.serial = c.serial)
theorem y05 {c : z1} {r : z6} (h : ownB c r = false) (s : List Int) : posR c s r = s := by
 unfold posR ownB at *
 rw [List.any_eq_false] at h
 generalize r.item.parts = ps at *
 induction ps generalizing s with
 | nil => rfl
 | cons p ps ih =>
  rw [List.foldl_cons]
  have h1 := h p (by simp)
  have : zkv c r.item.wagon s p = s := by
   unfold zkv
   rw [if_neg]
   intro q
   exact h1 (by rw [<- q]; simp [ofP])
  rw [this]
  exact ih s fun p' hp => h p' (by simp [hp])
end Px
end
section
namespace Px
open Go
set_option linter.unusedVariables false
set_option linter.unusedSimpArgs false
theorem y0e (φ : Nat) (a b : z6) : z6i φ a b = some (zg6 a b, ()) := by
 unfold z6i
 by_cases h : (a.item.to : Int) = b.item.to
 ·rw [if_neg (by simp [h])]
  simp only [zh8, Option.bind_some]
  congr 2
  rw [Bool.eq_iff_iff, zho]
  simp [h]
 ·rw [if_pos (by simp [h])]
  congr 2
  rw [Bool.eq_iff_iff, zho]
  simp [h]
theorem zqm (φ : Nat) (k7) (l : List z6) (at_ i : Int) (r : z6) : ∀ (acc Q : List z6) (n : Nat), Srt zg6 acc -> acc.length < n -> acc.length + Q.length <= 1000 ->
  ∃ res, Srt zg6 res /\ Stb zg6 (acc ++ [r]) res /\ z3v φ k7 n l at_ i (acc.length : Int) (acc ++ r :: Q) = k7 l at_ (W (i + 1)) (res ++ Q) := by
 intro acc
 generalize hm : acc.length = m
 induction m generalizing acc with
 | zero =>
  intro Q n hs hn hl
  have := List.length_eq_zero_iff.1 hm
  subst this
  obtain ⟨n, rfl⟩ : ∃ k, n = k + 1 := ⟨n - 1, by omega⟩
  refine ⟨[r], by simp [Srt], Stb.refl _, ?_⟩
  rw [z3v, zc (fun h => by simp at h), zc (fun h => by simp at h)]
  rw [show z0e (default, ()) ((decide ((0 : Int) < ((0 : Nat) : Int))) = true) (z6i φ (gt ([] ++ r :: Q) ((0 : Nat) : Int)) (gt ([] ++ r :: Q) (W (((0 : Nat) : Int) - 1)))) = some (default, ()) from if_neg (by simp), Option.bind_some, if_neg (by simp)]
  rfl
 | succ m ih =>
  intro Q n hs hn hl
  obtain ⟨n, rfl⟩ : ∃ k, n = k + 1 := ⟨n - 1, by omega⟩
  rcases z98 acc with rfl | ⟨A, z, rfl⟩
  ·simp at hm
  have hA : A.length = m := by simp at hm; omega
  obtain ⟨hsA, _, hAz⟩ := Srt.parts hs
  have hAz : ∀ x ∈ A, zg6 z x = false := fun x hx => hAz x hx z (by simp)
  have hlen : ((A ++ [z] ++ r :: Q).length : Int) = (m : Int) + 2 + Q.length := by simp; omega
  have g1 : gt (A ++ [z] ++ r :: Q) ((m + 1 : Nat) : Int) = r := by
   rw [yad (by simp; omega), List.getElem_append_right (by simp; omega)]
   simp [hA]
  have g0 : gt (A ++ [z] ++ r :: Q) ((m : Nat) : Int) = z := by
   rw [yad (by simp; omega), List.getElem_append_left (by simp; omega), List.getElem_append_right (by omega)]
   simp [hA]
  have hW : W (((m + 1 : Nat) : Int) - 1) = (m : Int) := by rw [W_id (by omega) (by omega)]; omega
  rw [z3v, hW, zc (fun _ => ⟨by omega, by omega⟩), zc (fun _ => ⟨by omega, by omega⟩), g1, g0]
  rw [show z0e (default, ()) ((decide ((0 : Int) < ((m + 1 : Nat) : Int))) = true) (z6i φ r z) = some (zg6 r z, ()) from by unfold z0e; rw [if_pos (by simp), y0e], Option.bind_some]
  cases hz : zg6 r z with
  | false =>
   rw [if_neg (by simp)]
   refine ⟨A ++ [z] ++ [r], ?_, Stb.refl _, by simp⟩
   refine Srt.app hs (by simp [Srt]) fun x hx y hy => ?_
   simp only [List.mem_singleton] at hy
   subst hy
   rcases List.mem_append.1 hx with hx | hx
   ·exact zey.ntr _ _ _ hz (hAz x hx)
   ·simp only [List.mem_singleton] at hx; subst hx; exact hz
  | true =>
   have hset : z0b (z0b (A ++ [z] ++ r :: Q) ((m + 1 : Nat) : Int) z) (m : Int) r = A ++ r :: (z :: Q) := by
    refine List.ext_getElem (by simp [z0b]) fun j h1 h2 => ?_
    simp only [z0b, Int.toNat_natCast]
    rw [List.getElem_set, List.getElem_set]
    split
    ·rename_i e; subst e
     rw [List.getElem_append_right (by omega)]; simp [hA]
    ·split
     ·rename_i e; subst e
      rw [List.getElem_append_right (by omega)]; simp [hA]
     ·rename_i e1 e2
      by_cases hj : j < m
      ·rw [List.getElem_append_left (by simp; omega), List.getElem_append_left (by omega), List.getElem_append_left (by omega)]
      ·rw [List.getElem_append_right (by simp; omega), List.getElem_append_right (by omega)]
       simp only [List.length_append, List.length_cons, List.length_nil, hA]
       obtain ⟨d, rfl⟩ : ∃ d, j = m + 2 + d := ⟨j - (m + 2), by omega⟩
       have q1 : m + 2 + d - (m + (0 + 1)) = d + 1 := by omega
       have q2 : m + 2 + d - m = d + 2 := by omega
       simp only [q1, q2, List.getElem_cons_succ]
   rw [if_pos (by simp), zc ⟨by omega, by omega⟩, zc ⟨by omega, by omega⟩, zc ⟨by omega, by omega⟩, zc ⟨by omega, by rw [show (z0b (A ++ [z] ++ r :: Q) ((m + 1 : Nat) : Int) z).length = (A ++ [z] ++ r :: Q).length from by simp [z0b]]; omega⟩, hset]
   obtain ⟨res, h1, h2, h3⟩ := ih A hA (z :: Q) n hsA (by omega) (by simp; omega)
   refine ⟨res ++ [z], ?_, ?_, by rw [h3]; simp⟩
   ·refine Srt.app h1 (by simp [Srt]) fun x hx y hy => ?_
    simp only [List.mem_singleton] at hy
    subst hy
    rcases List.mem_append.1 (h2.mem.1 hx) with hx | hx
    ·exact hAz x hx
    ·simp only [List.mem_singleton] at hx; subst hx; exact zey.asym _ _ hz
   ·have s1 : Stb zg6 ([z] ++ [r]) ([r] ++ [z]) := Stb.swap zey fun x hx y hy => by
     simp only [List.mem_singleton] at hx hy; subst hx; subst hy; exact hz
    have s2 := Stb.app (Stb.refl (lt := zg6) A) s1
    have s3 := Stb.app h2 (Stb.refl (lt := zg6) [z])
    rw [<- List.append_assoc, <- List.append_assoc] at s2
    exact s2.trans s3
theorem zm6 (φ : Nat) (hφ : 10000 < φ) (l : List z6) (at_ : Int) (hl : l.length <= 100) : z6g φ l at_ = some (hist l at_, ()) := by
 unfold z6g
 refine zhz (fun n i acc => z1p φ n l at_ i acc) l.length (fun i acc => acc.length <= i /\ Srt zg6 acc /\ Stb zg6 ((l.take i).filter (zm2 at_)) acc) (fun o => o = some (hist l at_, ())) ?_ ?_ φ [] ⟨by simp, List.Pairwise.nil, by simpa using Stb.refl _⟩ (by omega)
 ·intro n i acc hi ⟨h1, h2, h3⟩ hk
  rw [z1p, if_pos (by simp; omega), zc ⟨by omega, by omega⟩, zc (fun _ => ⟨by omega, by omega⟩), W_id (x := (i : Int) + 1) (by omega) (by omega)]
  have hcond : (((((gt l (i : Int)).item).kind : Int) != 9) || (decide ((at_ : Int) < ((gt l (i : Int)).item).to))) = !zm2 at_ (gt l (i : Int)) := by
   unfold zm2
   rw [Bool.not_and]
   congr 1
   rw [<- decide_not]; congr 1
   exact propext ⟨fun h => by omega, fun h => by omega⟩
  rw [hcond]
  cases hr : zm2 at_ (gt l (i : Int)) with
  | false =>
   rw [if_pos (by simp)]
   refine hk acc ⟨by omega, h2, ?_⟩
   rw [zhd l i hi, List.filter_append]
   simpa [hr] using h3
  | true =>
   rw [if_neg (by simp), zc ⟨by omega, by omega⟩, zc (zer (by simp; omega) (by omega))]
   obtain ⟨res, r1, r2, r3⟩ := zqm φ (z1p φ n) l at_ (i : Int) (gt l (i : Int)) acc [] φ h2 (by omega) (by simp; omega)
   have hW : W (((acc ++ [gt l (i : Int)]).length : Int) - 1) = (acc.length : Int) := by
    rw [List.length_append, List.length_singleton, W_id (by omega) (by omega)]; omega
   rw [hW, r3, List.append_nil, W_id (x := (i : Int) + 1) (by omega) (by omega)]
   refine hk res ⟨by rw [r2.len]; simp; omega, r1, ?_⟩
   rw [zhd l i hi, List.filter_append]
   have : [gt l (i : Int)].filter (zm2 at_) = [gt l (i : Int)] := by simp [hr]
   rw [this]
   exact (Stb.app h3 (Stb.refl _)).trans r2
 ·intro n acc ⟨h1, h2, h3⟩
  rw [List.take_length] at h3
  rw [z1p, if_neg (by simp), zu2 zey h2 h3]
  rfl
theorem zu6 (s : List Int) (w : Int) : (zez s w).length <= s.length + 1 := by
 unfold zez
 simp only [List.length_append, List.length_cons]
 have h : ∀ s : List Int, (s.filter fun x => decide (x < w)).length + (s.filter fun x => decide (w < x)).length <= s.length := by
  intro s
  induction s with
  | nil => simp
  | cons a s ih =>
   simp only [List.filter_cons]
   by_cases h1 : a < w
   ·have h2 : ¬ w < a := by omega
    simp only [h1, h2, decide_true, decide_false, if_true, Bool.false_eq_true, if_false, List.length_cons]; omega
   ·by_cases h2 : w < a
    ·simp only [h1, h2, decide_true, decide_false, if_true, Bool.false_eq_true, if_false, List.length_cons]; omega
    ·simp only [h1, h2, decide_false, Bool.false_eq_true, if_false, List.length_cons]; omega
 have := h s
 omega
theorem y0z (φ : Nat) (hφ : 10000 < φ) (s : List Int) (w : Int) (hl : s.length <= 5000) : zen φ s w = some (zez s w, ()) := by
 unfold zen
 refine (z10 (fun n i acc => z5h φ n s w i acc) (fun acc => ck (fits (acc.length + ([w]).length) 8) (z3s φ φ s w 0 (acc ++ [w]))) s (fun acc x => if decide (x < w) = true then acc ++ [x] else acc) (fun i acc => acc.length <= i) ?_ ?_ φ [] (by simp) (by omega)).1.trans ?_
 ·intro n i acc hi ha
  refine ⟨?_, ?_⟩
  ·rw [z5h, if_pos (by simp; omega), zc ⟨by omega, by omega⟩, W_id (x := (i : Int) + 1) (by omega) (by omega)]
   split
   ·rw [zc ⟨by omega, by omega⟩, zc (zer (by simp; omega) (by omega))]
   ·rfl
  ·split
   ·simp; omega
   ·omega
 ·intro n acc _
  rw [z5h, if_neg (by simp)]
 ·rw [z7p (fun x => decide (x < w)), List.nil_append]
  have h1 := List.length_filter_le (fun x => decide (x < w)) s
  rw [zc (zer (by simp; omega) (by omega))]
  refine (z10 (fun n i acc => z3s φ n s w i acc) (fun acc => some (acc, ())) s (fun acc x => if decide (w < x) = true then acc ++ [x] else acc) (fun i acc => acc.length <= s.length + 1 + i) ?_ ?_ φ _ (by simp; omega) (by omega)).1.trans ?_
  ·intro n i acc hi ha
   refine ⟨?_, ?_⟩
   ·rw [z3s, if_pos (by simp; omega), zc ⟨by omega, by omega⟩, W_id (x := (i : Int) + 1) (by omega) (by omega)]
    split
    ·rw [zc ⟨by omega, by omega⟩, zc (zer (by simp; omega) (by omega))]
    ·rfl
   ·split
    ·simp; omega
    ·omega
  ·intro n acc _
   rw [z3s, if_neg (by simp)]
  ·rw [z7p (fun x => decide (w < x))]
   unfold zez
   simp
theorem zzl (φ : Nat) (hφ : 10000 < φ) (s : List Int) (w : Int) (hl : s.length <= 5000) : zbc φ s w = some (zi1 s w, ()) := by
 unfold zbc
 refine (z10 (fun n i acc => z3d φ n s w i acc) (fun acc => some (acc, ())) s (fun acc x => if (x != w) = true then acc ++ [x] else acc) (fun i acc => acc.length <= i) ?_ ?_ φ [] (by simp) (by omega)).1.trans ?_
 ·intro n i acc hi ha
  refine ⟨?_, ?_⟩
  ·rw [z3d, if_pos (by simp; omega), zc ⟨by omega, by omega⟩, W_id (x := (i : Int) + 1) (by omega) (by omega)]
   split
   ·rw [zc ⟨by omega, by omega⟩, zc (zer (by simp; omega) (by omega))]
   ·rfl
  ·split
   ·simp; omega
   ·omega
 ·intro n acc _
  rw [z3d, if_neg (by simp)]
 ·rw [z7p (fun x => x != w), List.nil_append]
  rfl
end Px
end
section
namespace Px
open Go
set_option linter.unusedVariables false
set_option linter.unusedSimpArgs false
theorem zvy (c : z1) (w : Int) (s : List Int) (p : Part) : (zkv c w s p).length <= s.length + 1 := by
 unfold zkv
 split
 ·split
  ·exact zu6 s w
  ·exact Nat.le_succ_of_le (List.length_filter_le _ _)
 ·omega
theorem zo8 (c : z1) (w : Int) : ∀ (ps : List Part) (s : List Int), (ps.foldl (zkv c w) s).length <= s.length + ps.length
 | [], s => by simp
 | p :: ps, s => by
  have h1 := zo8 c w ps (zkv c w s p)
  have h2 := zvy c w s p
  simp only [List.foldl_cons, List.length_cons]; omega
theorem zxh (p : Part) (k s : Int) : ofP p = (⟨k, s⟩ : z1) ↔ p.kind = k /\ p.serial = s := by
 unfold ofP
 constructor
 ·intro h; cases h; exact ⟨rfl, rfl⟩
 ·rintro ⟨rfl, rfl⟩; rfl
theorem zpj (φ : Nat) (hφ : 10000 < φ) (k9) (rs : List z6) (k sr i : Int) (r : z6) (s : List Int) (hs : s.length <= 4000) (hp : r.item.parts.length <= 40) :
  z09 φ k9 φ rs k sr i 0 s r.item = k9 rs k sr (W (i + 1)) (posR ⟨k, sr⟩ s r) := by
 refine (z10 (fun n j s => z09 φ k9 n rs k sr i j s r.item) (fun s => k9 rs k sr (W (i + 1)) s) r.item.parts (zkv ⟨k, sr⟩ r.item.wagon) (fun j t => t.length <= s.length + j) ?_ ?_ φ s (by omega) (by omega)).1
 ·intro n j t hj ht
  refine ⟨?_, by have := zvy ⟨k, sr⟩ r.item.wagon t (gt r.item.parts (j : Int)); omega⟩
  rw [z09, if_pos (by simp; omega), zc ⟨by omega, by omega⟩, zc (fun _ => ⟨by omega, by omega⟩), W_id (x := (j : Int) + 1) (by omega) (by omega)]
  unfold zkv
  by_cases hc : ofP (gt r.item.parts (j : Int)) = (⟨k, sr⟩ : z1)
  ·rw [if_pos hc]
   have h2 := (zxh _ _ _).1 hc
   rw [if_neg (by simp [h2.1, h2.2]), zc ⟨by omega, by omega⟩]
   cases hf : (gt r.item.parts (j : Int)).fitted with
   | true => rw [if_pos rfl, if_pos rfl, y0z φ hφ t _ (by omega), Option.bind_some]
   | false => rw [if_neg (by simp), if_neg (by simp), zzl φ hφ t _ (by omega), Option.bind_some]
  ·rw [if_neg hc, if_pos]
   rw [zxh] at hc
   simp only [Bool.or_eq_true, bne_iff_ne, ne_eq]
   by_cases h1 : (gt r.item.parts (j : Int)).kind = k
   ·exact .inr fun h2 => hc ⟨h1, h2⟩
   ·exact .inl h1
 ·intro n t _
  rw [z09, if_neg (by simp)]
theorem zjh (φ : Nat) (hφ : 10000 < φ) (rs : List z6) (k sr : Int) (hl : rs.length <= 100) (hp : ∀ r ∈ rs, r.item.parts.length <= 40) : z5p φ rs k sr = some (posW ⟨k, sr⟩ rs, ()) := by
 unfold z5p
 refine (z10 (fun n i s => z3w φ n rs k sr i s) (fun s => some (s, ())) rs (posR ⟨k, sr⟩) (fun i s => s.length <= 40 * i) ?_ ?_ φ [] (by simp) (by omega)).1
 ·intro n i s hi hs
  have hg := hp _ (ziv (l := rs) (i := (i : Int)) (by omega) (by omega))
  refine ⟨?_, by have := zo8 ⟨k, sr⟩ (gt rs (i : Int)).item.wagon (gt rs (i : Int)).item.parts s; unfold posR; omega⟩
  rw [z3w, if_pos (by simp; omega), zc ⟨by omega, by omega⟩, zpj φ hφ _ rs k sr (i : Int) (gt rs (i : Int)) s (by omega) hg, W_id (x := (i : Int) + 1) (by omega) (by omega)]
 ·intro n s _
  rw [z3w, if_neg (by simp)]
theorem zqw {l : List z6} (h : FewP l) (φ : Nat) (hφ : 10000 < φ) (k s at_ : Int) : z9w φ l k s at_ = some (carL ⟨k, s⟩ (posW ⟨k, s⟩ (hist l at_)), ()) := by
 have hlen := h.len
 have hh := zdb l at_
 unfold z9w
 rw [zm6 φ hφ l at_ hlen, Option.bind_some]
 simp only
 rw [zjh φ hφ (hist l at_) k s (by omega) (fun r hr => h.parts r (zdq.1 hr).1), Option.bind_some]
 simp only
 have hw := zkg ⟨k, s⟩ (hist l at_)
 generalize posW ⟨k, s⟩ (hist l at_) = ws at *
 refine (z10 (fun n i acc => z2x φ n k s ws i acc) (fun acc => some (acc, ())) ws (fun acc w => acc ++ [(⟨⟨k, s, true⟩, w, ((ws.length : Int) : Int) == 1⟩ : z27)]) (fun i acc => acc.length = i) ?_ ?_ φ [] rfl (by omega)).1.trans ?_
 ·intro n i acc hi ha
  refine ⟨?_, by simp [ha]⟩
  rw [z2x, if_pos (by simp; omega), zc ⟨by omega, by omega⟩, zc (zer (by simp; omega) (by omega)), W_id (x := (i : Int) + 1) (by omega) (by omega)]
 ·intro n acc _
  rw [z2x, if_neg (by simp)]
 ·rw [zy0, List.nil_append]; rfl
theorem zsv : ∀ (s : List Int) {out : List Int}, Inc out -> Inc (s.foldl zez out) /\ ∀ x, x ∈ s.foldl zez out ↔ x ∈ out \/ x ∈ s
 | [], out, h => ⟨h, fun x => by simp⟩
 | w :: s, out, h => by
  obtain ⟨h1, h2⟩ := zsv s (zty h w)
  refine ⟨h1, fun x => (h2 x).trans ?_⟩
  rw [zjy]
  simp only [List.mem_cons]
  constructor
  ·rintro ((q | q) | q)
   ·exact .inr (.inl q)
   ·exact .inl q
   ·exact .inr (.inr q)
  ·rintro (q | q | q)
   ·exact .inl (.inr q)
   ·exact .inl (.inl q)
   ·exact .inr q
def InW (l : List z6) (out : List Int) : Prop := Inc out /\ ∀ x ∈ out, ∃ r ∈ l, x = r.item.wagon
theorem InW.len {l : List z6} {out : List Int} (h : InW l out) : out.length <= l.length := by
 have := zfw h.1 (b := l.map fun r => r.item.wagon) fun x hx => by
  obtain ⟨r, hr, e⟩ := h.2 x hx
  exact List.mem_map.2 ⟨r, hr, e.symm⟩
 simpa using this
theorem InW.add {l : List z6} {out : List Int} (h : InW l out) (c : z1) (at_ : Int) : InW l ((posW c (hist l at_)).foldl zez out) :=
 ⟨(zsv _ h.1).1, fun x hx => by
  rcases ((zsv _ h.1).2 x).1 hx with q | q
  ·exact h.2 x q
  ·obtain ⟨r, hr, e⟩ := zia q
   exact ⟨r, (zdq.1 hr).1, e⟩⟩
theorem zl1 (φ : Nat) (hφ : 10000 < φ) (k16) (l : List z6) (at_ : Int) (H : List z6) (i j : Int) (s out : List Int) (hs : s.length <= 100) (ho : out.length <= 100) :
  z2e φ k16 φ l at_ H i j s 0 out = k16 l at_ H i (W (j + 1)) (s.foldl zez out) := by
 refine (z10 (fun n q t => z2e φ k16 n l at_ H i j s q t) (fun t => k16 l at_ H i (W (j + 1)) t) s zez (fun q t => t.length <= out.length + q) ?_ ?_ φ out (by omega) (by omega)).1
 ·intro n q t hq ht
  refine ⟨?_, by have := zu6 t (gt s (q : Int)); omega⟩
  rw [z2e, if_pos (by simp; omega), zc ⟨by omega, by omega⟩, y0z φ hφ t _ (by omega), Option.bind_some, W_id (x := (q : Int) + 1) (by omega) (by omega)]
 ·intro n t _
  rw [z2e, if_neg (by simp)]
def addR (at_ : Int) (H : List z6) (out : List Int) (r : z6) : List Int := if zlc at_ r = true then r.item.parts.foldl (fun out p => (posW (ofP p) H).foldl zez out) out else out
theorem InW.parts {l : List z6} (at_ : Int) : ∀ (ps : List Part) {out : List Int}, InW l out -> InW l (ps.foldl (fun out p => (posW (ofP p) (hist l at_)).foldl zez out) out) /\
  ∀ x, x ∈ ps.foldl (fun out p => (posW (ofP p) (hist l at_)).foldl zez out) out ↔ x ∈ out \/ ∃ p ∈ ps, x ∈ posW (ofP p) (hist l at_)
 | [], out, h => ⟨h, fun x => by simp⟩
 | p :: ps, out, h => by
  obtain ⟨h1, h2⟩ := InW.parts at_ ps (h.add (ofP p) at_)
  refine ⟨h1, fun x => (h2 x).trans ?_⟩
  rw [(zsv _ h.1).2 x]
  constructor
  ·rintro ((q | q) | ⟨p', hp, q⟩)
   ·exact .inl q
   ·exact .inr ⟨p, by simp, q⟩
   ·exact .inr ⟨p', by simp [hp], q⟩
  ·rintro (q | ⟨p', hp, q⟩)
   ·exact .inl (.inl q)
   ·rcases List.mem_cons.1 hp with rfl | hp
    ·exact .inl (.inr q)
    ·exact .inr ⟨p', hp, q⟩
theorem InW.addR {l : List z6} (at_ : Int) {out : List Int} (h : InW l out) (r : z6) : InW l (Px.addR at_ (hist l at_) out r) /\
  ∀ x, x ∈ Px.addR at_ (hist l at_) out r ↔ x ∈ out \/ (zlc at_ r = true /\ ∃ p ∈ r.item.parts, x ∈ posW (ofP p) (hist l at_)) := by
 unfold Px.addR
 cases hr : zlc at_ r with
 | false => simp only [Bool.false_eq_true, if_false]; exact ⟨h, fun x => by simp⟩
 | true =>
  simp only [if_true]
  obtain ⟨h1, h2⟩ := InW.parts at_ r.item.parts h
  exact ⟨h1, fun x => (h2 x).trans (by simp)⟩
theorem InW.reps {l : List z6} (at_ : Int) : ∀ (rs : List z6) {out : List Int}, InW l out -> InW l (rs.foldl (Px.addR at_ (hist l at_)) out) /\
  ∀ x, x ∈ rs.foldl (Px.addR at_ (hist l at_)) out ↔ x ∈ out \/ ∃ r ∈ rs, zlc at_ r = true /\ ∃ p ∈ r.item.parts, x ∈ posW (ofP p) (hist l at_)
 | [], out, h => ⟨h, fun x => by simp⟩
 | r :: rs, out, h => by
  obtain ⟨q1, q2⟩ := h.addR at_ r
  obtain ⟨h1, h2⟩ := InW.reps at_ rs q1
  refine ⟨h1, fun x => (h2 x).trans ?_⟩
  rw [q2 x]
  constructor
  ·rintro ((q | q) | ⟨r', hr, q⟩)
   ·exact .inl q
   ·exact .inr ⟨r, by simp, q⟩
   ·exact .inr ⟨r', by simp [hr], q⟩
  ·rintro (q | ⟨r', hr, q⟩)
   ·exact .inl (.inl q)
   ·rcases List.mem_cons.1 hr with rfl | hr
    ·exact .inl (.inr q)
    ·exact .inr ⟨r', hr, q⟩
theorem zlp (φ : Nat) (hφ : 10000 < φ) (k9) {l : List z6} (h : FewP l) (at_ : Int) (i : Nat) (hi : i < l.length) (out : List Int) (ho : InW l out) :
  z20 φ k9 φ l at_ (hist l at_) (i : Int) 0 out = k9 l at_ (hist l at_) (W ((i : Int) + 1)) ((gt l (i : Int)).item.parts.foldl (fun out p => (posW (ofP p) (hist l at_)).foldl zez out) out) := by
 have hg := ziv (l := l) (i := (i : Int)) (by omega) (by omega)
 have hp := h.parts _ hg
 have hlen := h.len
 have hh := zdb l at_
 refine (z10 (fun n j out => z20 φ k9 n l at_ (hist l at_) (i : Int) j out) (fun out => k9 l at_ (hist l at_) (W ((i : Int) + 1)) out) (gt l (i : Int)).item.parts (fun out p => (posW (ofP p) (hist l at_)).foldl zez out) (fun _ out => InW l out) ?_ ?_ φ out ho (by omega)).1
 ·intro n j out hj ho
  refine ⟨?_, ho.add _ at_⟩
  have hol := ho.len
  have hw := zkg (ofP (gt (gt l (i : Int)).item.parts (j : Int))) (hist l at_)
  rw [z20, zc ⟨by omega, by omega⟩, if_pos (by simp; omega), zc ⟨by omega, by omega⟩, zc ⟨by omega, by omega⟩, zc ⟨by omega, by omega⟩, zc ⟨by omega, by omega⟩, zjh φ hφ (hist l at_) _ _ (by omega) (fun r hr => h.parts r (zdq.1 hr).1), Option.bind_some]
  exact (zl1 φ hφ _ l at_ (hist l at_) (i : Int) (j : Int) (posW (ofP (gt (gt l (i : Int)).item.parts (j : Int))) (hist l at_)) out (by omega) (by omega)).trans (by rw [W_id (x := (j : Int) + 1) (by omega) (by omega)])
 ·intro n out _
  rw [z20, zc ⟨by omega, by omega⟩, if_neg (by simp)]
theorem zrp {l : List z6} (h : FewP l) (φ : Nat) (hφ : 10000 < φ) (at_ : Int) : ∃ b, zbl φ l at_ = some (b, ()) /\ Inc b /\
  ∀ x, x ∈ b ↔ ∃ r ∈ l, zlc at_ r = true /\ ∃ p ∈ r.item.parts, x ∈ posW (ofP p) (hist l at_) := by
 have hlen := h.len
 unfold zbl
 rw [zm6 φ hφ l at_ hlen, Option.bind_some]
 have h0 : InW l [] := ⟨List.Pairwise.nil, fun x hx => by cases hx⟩
 obtain ⟨h1, h2⟩ := InW.reps at_ l h0
 refine ⟨l.foldl (addR at_ (hist l at_)) [], ?_, h1.1, fun x => (h2 x).trans (by simp)⟩
 refine (z10 (fun n i out => z36 φ n l at_ (hist l at_) i out) (fun out => some (out, ())) l (addR at_ (hist l at_)) (fun _ out => InW l out) ?_ ?_ φ [] h0 (by omega)).1
 ·intro n i out hi ho
  refine ⟨?_, (ho.addR at_ _).1⟩
  rw [z36, if_pos (by simp; omega), zc ⟨by omega, by omega⟩, zc (fun _ => ⟨by omega, by omega⟩), W_id (x := (i : Int) + 1) (by omega) (by omega), zlp φ hφ _ h at_ i hi out ho, W_id (x := (i : Int) + 1) (by omega) (by omega)]
  unfold addR zlc
  by_cases hk : ((gt l (i : Int)).item.kind : Int) = 10
  ·by_cases ht : ((gt l (i : Int)).time : Int) <= at_
   ·rw [if_neg (by simp; omega), if_pos (by simp [hk, ht])]
   ·rw [if_pos (by simp; omega), if_neg (by simp; omega)]
  ·rw [if_pos (by simp [hk]), if_neg (by simp [hk])]
 ·intro n out _
  rw [z36, if_neg (by simp)]
end Px
end
section
namespace Px
open Go
set_option linter.unusedVariables false
set_option linter.unusedSimpArgs false
def zik (a b : Part) : Bool := (decide ((a.kind : Int) < b.kind)) || (((a.kind : Int) == b.kind) && (decide ((a.serial : Int) < b.serial)))
theorem zev {a b : Part} : zik a b = true ↔ ltC a b := by simp [zik, ltC]
def insC (out : List Part) (x : Part) : List Part := out.filter (fun y => zik y x) ++ x :: out.filter (fun y => zik x y)
theorem zyq (out : List Part) (x : Part) : (insC out x).length <= out.length + 1 := by
 unfold insC
 simp only [List.length_append, List.length_cons]
 have h : ∀ s : List Part, (s.filter fun y => zik y x).length + (s.filter fun y => zik x y).length <= s.length := by
  intro s
  induction s with
  | nil => simp
  | cons a s ih =>
   simp only [List.filter_cons]
   cases h1 : zik a x <;> cases h2 : zik x a
   ·simp only [Bool.false_eq_true, if_false, List.length_cons]; omega
   ·simp only [if_true, Bool.false_eq_true, if_false, List.length_cons]; omega
   ·simp only [if_true, Bool.false_eq_true, if_false, List.length_cons]; omega
   ·rw [zev] at h1 h2
    unfold ltC at h1 h2
    omega
 have := h out
 omega
structure OkC (out : List Part) : Prop where
 inc : out.Pairwise ltC
 fit : ∀ y ∈ out, y.fitted = true
theorem y5b {out : List Part} (h : OkC out) {x : Part} (hx : x.fitted = true) : OkC (insC out x) /\ ∀ y, y ∈ insC out x ↔ y = x \/ y ∈ out := by
 refine ⟨⟨?_, ?_⟩, fun y => ?_⟩
 ·unfold insC
  rw [List.pairwise_append]
  refine ⟨h.inc.filter _, List.pairwise_cons.2 ⟨fun y hy => zev.1 (List.mem_filter.1 hy).2, h.inc.filter _⟩, fun a ha b hb => ?_⟩
  have h1 := zev.1 (List.mem_filter.1 ha).2
  rcases List.mem_cons.1 hb with rfl | hb
  ·exact h1
  ·have h2 := zev.1 (List.mem_filter.1 hb).2
   unfold ltC at *
   omega
 ·intro y hy
  unfold insC at hy
  rcases List.mem_append.1 hy with q | q
  ·exact h.fit y (List.mem_filter.1 q).1
  ·rcases List.mem_cons.1 q with rfl | q
   ·exact hx
   ·exact h.fit y (List.mem_filter.1 q).1
 ·unfold insC
  simp only [List.mem_append, List.mem_cons, List.mem_filter]
  constructor
  ·rintro (q | q | q)
   ·exact .inr q.1
   ·exact .inl q
   ·exact .inr q.1
  ·rintro (q | q)
   ·exact .inr (.inl q)
   ·cases h1 : zik y x with
    | true => exact .inl ⟨q, rfl⟩
    | false =>
     cases h2 : zik x y with
     | true => exact .inr (.inr ⟨q, rfl⟩)
     | false =>
      refine .inr (.inl ?_)
      have h1' : ¬ ltC y x := fun e => by rw [zev.2 e] at h1; cases h1
      have h2' : ¬ ltC x y := fun e => by rw [zev.2 e] at h2; cases h2
      have hf := h.fit y q
      obtain ⟨a, b, c⟩ := y
      obtain ⟨a', b', c'⟩ := x
      simp only [ltC] at *
      have e1 : a = a' := by omega
      have e2 : b = b' := by omega
      rw [e1, e2, hf, hx]
theorem y2q (φ : Nat) (a b : Part) : zi6 φ a b = some (zik a b, ()) := rfl
theorem zla (φ : Nat) (hφ : 10000 < φ) (k10) (rs : List z6) (i j : Int) (out : List Part) (x : Part) (hl : out.length <= 4000) :
  z06 φ k10 φ rs i j 0 out x [] = k10 rs i (W (j + 1)) (insC out x) := by
 refine (z10 (fun n q acc => z06 φ k10 n rs i j q out x acc) (fun acc => ck (fits (acc.length + ([x]).length) 24) (z07 φ k10 φ rs i j 0 out x (acc ++ [x]))) out (fun acc y => if zik y x = true then acc ++ [y] else acc) (fun q acc => acc.length <= q) ?_ ?_ φ [] (by simp) (by omega)).1.trans ?_
 ·intro n q acc hq ha
  refine ⟨?_, ?_⟩
  ·rw [z06, if_pos (by simp; omega), zc ⟨by omega, by omega⟩, y2q, Option.bind_some, W_id (x := (q : Int) + 1) (by omega) (by omega)]
   simp only
   split
   ·rw [zc ⟨by omega, by omega⟩, zc (zer (by simp; omega) (by omega))]
   ·rfl
  ·split
   ·simp; omega
   ·omega
 ·intro n acc _
  rw [z06, if_neg (by simp)]
 ·rw [z7p (fun y => zik y x), List.nil_append]
  have h1 := List.length_filter_le (fun y => zik y x) out
  rw [zc (zer (by simp; omega) (by omega))]
  refine (z10 (fun n q acc => z07 φ k10 n rs i j q out x acc) (fun acc => k10 rs i (W (j + 1)) acc) out (fun acc y => if zik x y = true then acc ++ [y] else acc) (fun q acc => acc.length <= out.length + 1 + q) ?_ ?_ φ _ (by simp; omega) (by omega)).1.trans ?_
  ·intro n q acc hq ha
   refine ⟨?_, ?_⟩
   ·rw [z07, if_pos (by simp; omega), zc ⟨by omega, by omega⟩, y2q, Option.bind_some, W_id (x := (q : Int) + 1) (by omega) (by omega)]
    simp only
    split
    ·rw [zc ⟨by omega, by omega⟩, zc (zer (by simp; omega) (by omega))]
    ·rfl
   ·split
    ·simp; omega
    ·omega
  ·intro n acc _
   rw [z07, if_neg (by simp)]
  ·rw [z7p (fun y => zik x y)]
   unfold insC
   simp
def zrz (out : List Part) (r : z6) : List Part := r.item.parts.foldl (fun out p => insC out (prt (ofP p))) out
def y1m (rs : List z6) : List Part := rs.foldl zrz []
theorem ziy : ∀ (ps : List Part) {out : List Part}, OkC out -> OkC (ps.foldl (fun out p => insC out (prt (ofP p))) out) /\ ((ps.foldl (fun out p => insC out (prt (ofP p))) out).length <= out.length + ps.length) /\
  ∀ y, y ∈ ps.foldl (fun out p => insC out (prt (ofP p))) out ↔ y ∈ out \/ ∃ p ∈ ps, y = prt (ofP p)
 | [], out, h => ⟨h, by simp, fun y => by simp⟩
 | p :: ps, out, h => by
  obtain ⟨q1, q2⟩ := y5b h (x := prt (ofP p)) rfl
  obtain ⟨h1, h2, h3⟩ := ziy ps q1
  have hlen := zyq out (prt (ofP p))
  refine ⟨h1, by simp only [List.foldl_cons, List.length_cons]; omega, fun y => (h3 y).trans ?_⟩
  rw [q2 y]
  constructor
  ·rintro ((q | q) | ⟨p', hp, q⟩)
   ·exact .inr ⟨p, by simp, q⟩
   ·exact .inl q
   ·exact .inr ⟨p', by simp [hp], q⟩
  ·rintro (q | ⟨p', hp, q⟩)
   ·exact .inl (.inr q)
   ·rcases List.mem_cons.1 hp with rfl | hp
    ·exact .inl (.inl q)
    ·exact .inr ⟨p', hp, q⟩
theorem zr5 : ∀ (rs : List z6) {out : List Part}, OkC out -> OkC (rs.foldl zrz out) /\ ∀ y, y ∈ rs.foldl zrz out ↔ y ∈ out \/ ∃ r ∈ rs, ∃ p ∈ r.item.parts, y = prt (ofP p)
 | [], out, h => ⟨h, fun y => by simp⟩
 | r :: rs, out, h => by
  obtain ⟨q1, _, q2⟩ := ziy r.item.parts h
  obtain ⟨h1, h2⟩ := zr5 rs (out := zrz out r) q1
  refine ⟨h1, fun y => (h2 y).trans ?_⟩
  rw [show y ∈ zrz out r ↔ _ from q2 y]
  constructor
  ·rintro ((q | ⟨p, hp, q⟩) | ⟨r', hr, q⟩)
   ·exact .inl q
   ·exact .inr ⟨r, by simp, p, hp, q⟩
   ·exact .inr ⟨r', by simp [hr], q⟩
  ·rintro (q | ⟨r', hr, p, hp, q⟩)
   ·exact .inl (.inl q)
   ·rcases List.mem_cons.1 hr with rfl | hr
    ·exact .inl (.inr ⟨p, hp, q⟩)
    ·exact .inr ⟨r', hr, p, hp, q⟩
theorem OkC.nil : OkC [] := ⟨List.Pairwise.nil, fun y hy => by cases hy⟩
theorem ztf (φ : Nat) (hφ : 10000 < φ) (rs : List z6) (hl : rs.length <= 100) (hp : ∀ r ∈ rs, r.item.parts.length <= 40) : z7c φ rs = some (y1m rs, ()) /\ (y1m rs).length <= 4000 := by
 unfold z7c
 have key := z10 (fun n i out => z0d φ n rs i out) (fun out => some (out, ())) rs zrz (fun i out => OkC out /\ out.length <= 40 * i) ?_ ?_ φ [] ⟨OkC.nil, by simp⟩ (by omega)
 ·exact ⟨key.1, by have := key.2.2; show (rs.foldl zrz []).length <= _; omega⟩
 ·intro n i out hi ⟨ho, hlo⟩
  have hg := hp _ (ziv (l := rs) (i := (i : Int)) (by omega) (by omega))
  have hpc := ziy (gt rs (i : Int)).item.parts ho
  refine ⟨?_, hpc.1, by have := hpc.2.1; show (zrz out (gt rs (i : Int))).length <= _; unfold zrz; omega⟩
  rw [z0d, if_pos (by simp; omega)]
  refine (z10 (fun m j out => z1o φ (z0d φ n) m rs (i : Int) j out) (fun out => z0d φ n rs (W ((i : Int) + 1)) out) (gt rs (i : Int)).item.parts (fun out p => insC out (prt (ofP p))) (fun j t => OkC t /\ t.length <= out.length + j) ?_ ?_ φ out ⟨ho, by omega⟩ (by omega)).1.trans (by rw [W_id (x := (i : Int) + 1) (by omega) (by omega)]; rfl)
  ·intro m j t hj ⟨ht, htl⟩
   refine ⟨?_, (y5b ht (x := prt (ofP (gt (gt rs (i : Int)).item.parts (j : Int)))) rfl).1, by have := zyq t (prt (ofP (gt (gt rs (i : Int)).item.parts (j : Int)))); omega⟩
   rw [z1o, zc ⟨by omega, by omega⟩, if_pos (by simp; omega), zc ⟨by omega, by omega⟩, zc ⟨by omega, by omega⟩]
   exact (zla φ hφ _ rs (i : Int) (j : Int) t (prt (ofP (gt (gt rs (i : Int)).item.parts (j : Int)))) (by omega)).trans (by rw [W_id (x := (j : Int) + 1) (by omega) (by omega)])
  ·intro m t _
   rw [z1o, zc ⟨by omega, by omega⟩, if_neg (by simp)]
 ·intro n out _
  rw [z0d, if_neg (by simp)]
theorem ybk {a b : List Part} (ha : a.Pairwise ltC) (hb : b.Pairwise ltC) (h : ∀ x, x ∈ a ↔ x ∈ b) : a = b := by
 have irr : ∀ {l : List Part}, l.Pairwise ltC -> l.Nodup := fun hl => List.Pairwise.imp (fun {x y} q e => by subst e; unfold ltC at q; omega) hl
 refine List.Perm.eq_of_pairwise (le := ltC) (fun x y _ _ h1 h2 => by unfold ltC at h1 h2; omega) ha hb ?_
 exact (List.perm_ext_iff_of_nodup (irr ha) (irr hb)).2 h
theorem zuz {c : z1} : ∀ (rs : List z6) (s : List Int), (∀ r ∈ rs, ownB c r = false) -> rs.foldl (posR c) s = s
 | [], s, _ => rfl
 | r :: rs, s, h => by
  rw [List.foldl_cons, y05 (h r (by simp)), zuz rs s fun r' hr => h r' (by simp [hr])]
theorem y8d {c : z1} {rs : List z6} (h : posW c rs ≠ []) : ∃ r ∈ rs, ∃ p ∈ r.item.parts, ofP p = c := by
 by_cases hh : ∃ r ∈ rs, ownB c r = true
 ·obtain ⟨r, hr, ho⟩ := hh
  unfold ownB at ho
  obtain ⟨p, hp, q⟩ := List.any_eq_true.1 ho
  simp only [Bool.and_eq_true, decide_eq_true_eq] at q
  refine ⟨r, hr, p, hp, ?_⟩
  obtain ⟨a, b⟩ := c
  exact (zxh p a b).2 q
 ·refine absurd (zuz rs [] fun r hr => ?_) h
  cases ho : ownB c r with
  | false => rfl
  | true => exact absurd ⟨r, hr, ho⟩ hh
theorem zv3 {l : List z6} (h : FewP l) (φ : Nat) (hφ : 10000 < φ) (w at_ : Int) : ∃ p, zda φ l w at_ = some (p, ()) /\ p.Pairwise ltC /\
  ∀ x, x ∈ p ↔ x.fitted = true /\ posW (ofP x) (hist l at_) = [w] := by
 have hlen := h.len
 have hh := zdb l at_
 have hpp : ∀ r ∈ hist l at_, r.item.parts.length <= 40 := fun r hr => h.parts r (zdq.1 hr).1
 unfold zda
 rw [zm6 φ hφ l at_ hlen, Option.bind_some]
 simp only
 obtain ⟨hc1, hc2⟩ := ztf φ hφ (hist l at_) (by omega) hpp
 obtain ⟨hk1, hk2⟩ := zr5 (hist l at_) OkC.nil
 change OkC (y1m (hist l at_)) at hk1
 change ∀ y, y ∈ y1m (hist l at_) ↔ _ at hk2
 rw [hc1, Option.bind_some]
 simp only
 generalize y1m (hist l at_) = cs at *
 refine ⟨cs.filter fun x => (((posW (ofP x) (hist l at_)).length : Int) == 1) && ((gt (posW (ofP x) (hist l at_)) 0 : Int) == w), ?_, hk1.inc.filter _, fun x => ?_⟩
 ·refine (z10 (fun n i acc => z3a φ n w (hist l at_) cs i acc) (fun acc => some (acc, ())) cs (fun acc x => if ((((posW (ofP x) (hist l at_)).length : Int) == 1) && ((gt (posW (ofP x) (hist l at_)) 0 : Int) == w)) = true then acc ++ [x] else acc) (fun i acc => acc.length <= i) ?_ ?_ φ [] (by simp) (by omega)).1.trans ?_
  ·intro n i acc hi ha
   refine ⟨?_, ?_⟩
   ·rw [z3a, if_pos (by simp; omega), zc ⟨by omega, by omega⟩, zc ⟨by omega, by omega⟩, zjh φ hφ (hist l at_) _ _ (by omega) hpp, Option.bind_some, W_id (x := (i : Int) + 1) (by omega) (by omega)]
    show ck (((((posW (ofP (gt cs (i : Int))) (hist l at_)).length : Int) == 1) = true) -> (0 : Int) <= 0 /\ 0 < ((posW (ofP (gt cs (i : Int))) (hist l at_)).length : Int)) (if ((((posW (ofP (gt cs (i : Int))) (hist l at_)).length : Int) == 1) && ((gt (posW (ofP (gt cs (i : Int))) (hist l at_)) 0 : Int) == w)) = true then _ else _) = _
    rw [zc (fun h => ⟨by omega, by have := beq_iff_eq.1 h; omega⟩)]
    split
    ·rw [zc ⟨by omega, by omega⟩, zc (zer (by simp; omega) (by omega))]
    ·rfl
   ·split
    ·simp; omega
    ·omega
  ·intro n acc _
   rw [z3a, if_neg (by simp)]
  ·rw [z7p (fun x => (((posW (ofP x) (hist l at_)).length : Int) == 1) && ((gt (posW (ofP x) (hist l at_)) 0 : Int) == w)), List.nil_append]
 ·rw [List.mem_filter, Bool.and_eq_true, beq_iff_eq, beq_iff_eq]
  constructor
  ·rintro ⟨h1, h2, h3⟩
   refine ⟨hk1.fit x h1, ?_⟩
   match hp : posW (ofP x) (hist l at_), h2, h3 with
   | [y], _, h3 =>
    have h3 : y = w := h3
    rw [h3]
   | [], h2, _ => simp at h2
   | _ :: _ :: _, h2, _ => simp at h2; omega
  ·rintro ⟨h1, h2⟩
   refine ⟨(hk2 x).2 (.inr ?_), by rw [h2]; rfl, by rw [h2]; rfl⟩
   obtain ⟨r, hr, p, hp, e⟩ := y8d (c := ofP x) (rs := hist l at_) (by rw [h2]; simp)
   refine ⟨r, hr, p, hp, ?_⟩
   rw [e]
   obtain ⟨a, b, c⟩ := x
   simp only at h1
   subst h1
   rfl
theorem y2c (φ : Nat) (l : List z6) (w : Int) (x : Part) (at_ : Int) : (z0r φ).F (l, w, x, at_, ()) = z0c φ l w x at_ := rfl
theorem zc3 (x : Tup TT [10, 0, 2, 0]) (h : yap TV 30 [10, 0, 2, 0] x) : ∃ φ, (z0r φ).F x = some (true, ()) := by
 obtain ⟨l, w, x, at_, _⟩ := x
 change List z6 at l
 change Part at x
 change Int at w
 change Int at at_
 have hr : rdN TV 30 10 l := h.1
 suffices key : ∃ φ, z0c φ l w x at_ = some (true, ()) by
  obtain ⟨φ, h⟩ := key
  exact ⟨φ, (y2c φ l w x at_).trans h⟩
 suffices key : ∀ φ : Nat, 60000000 < φ -> zie φ = some (true, ()) -> z0c φ l w x at_ = some (true, ()) from ⟨100000000, key _ (by omega) ydz⟩
 intro φ hφ hsane
 unfold z0c
 obtain ⟨bf, hbf, hfew⟩ := y6z φ (by omega) l
 rw [hsane, Option.bind_some, if_neg (by simp), hbf, Option.bind_some]
 cases bf with
 | false => rw [if_pos (by simp)]
 | true =>
 obtain ⟨hl1, hl2⟩ := hfew rfl
 have hF := ybn hr hl1 hl2
 obtain ⟨p, a1, a2, a3, a4⟩ := y2g hF φ (by omega) w at_
 obtain ⟨p', b1, b2, b3⟩ := zv3 hF φ (by omega) w at_
 have hpp : p' = p := ybk b2 a2 fun y => (b3 y).trans (a4 y).symm
 obtain ⟨b, c1, c2, c3, c4⟩ := zzp hF φ (by omega) at_
 obtain ⟨b', d1, d2, d3⟩ := zrp hF φ (by omega) at_
 have hbb : b' = b := zwf d2 c2 fun y => (d3 y).trans (c4 y).symm
 have hcl : (carL (⟨x.kind, x.serial⟩ : z1) (posW ⟨x.kind, x.serial⟩ (hist l at_))).length <= 1000 := by
  unfold carL
  rw [List.length_map]
  have := zkg ⟨x.kind, x.serial⟩ (hist l at_)
  have := zdb l at_
  omega
 rw [if_neg (by simp), a1, Option.bind_some, b1, Option.bind_some]
 simp only
 rw [hpp, zqc φ p (by omega) (by omega), Option.bind_some]
 simp only
 have h10 : 10000 < φ := by omega
 have h1 : 1000 < φ := by omega
 simp only [z0e, if_true, Option.bind_some, zxn hF φ h10, zqw hF φ h10, zln φ _ hcl h1, c1, d1, hbb, zs3 φ b (by omega) h1, Bool.and_self, Bool.true_and]
end Px
end
