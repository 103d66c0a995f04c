/- A part of the proof of emptiesNetwork_holds. Conditions: none. -/
import Derived.Test.YtcofccdjgfgeeaaKnae
import Derived.Test.YtcofccdjgfgeeaaProg
import Derived.Ground.SlsfProg
import Derived.Ground.NamesProg
import Derived.KernelRfl
set_option linter.unusedVariables false
set_option linter.unusedSimpArgs false
section
namespace Go.Proofs
open Go.Shelf
def Try.lays189_ren:Go.Shelf.Ren:=⟨fun | 189=>69 | 125=>84 | 257=>83 | 128=>102 | 129=>91 | 294=>93 | 295=>94 | 296=>95 | 297=>96 | 298=>97 | 299=>98 | 216=>99 | 300=>100 | 301=>101 | 328=>111 | 329=>112 | 330=>113 | 331=>114 | 332=>115 | 215=>87 | 343=>118 | n=>n,fun | 28=>42 | 3=>3 | 46=>195 | 0=>0 | 51=>199 | 53=>97 | 4=>4 | 183=>209 | 182=>208 | 131=>55 | 5=>5 | 9=>9 | 218=>224 | 222=>228 | 228=>232 | 229=>233 | n=>n,fun | n=>n⟩
theorem Try.lays189:Go.Proofs.Lays.n189 Try.prog Try.lays189_ren:={
 mixed:=by kernel_rfl
 f125:=Try.func84.trans (congrArg some (by kernel_rfl))
 f128:=Try.func102.trans (congrArg some (by kernel_rfl))
 f129:=Try.func91.trans (congrArg some (by kernel_rfl))
 f189:=Try.func69.trans (congrArg some (by kernel_rfl))
 f215:=Try.func87.trans (congrArg some (by kernel_rfl))
 f216:=Try.func99.trans (congrArg some (by kernel_rfl))
 f257:=Try.func83.trans (congrArg some (by kernel_rfl))
 f294:=Try.func93.trans (congrArg some (by kernel_rfl))
 f295:=Try.func94.trans (congrArg some (by kernel_rfl))
 f296:=Try.func95.trans (congrArg some (by kernel_rfl))
 f297:=Try.func96.trans (congrArg some (by kernel_rfl))
 f298:=Try.func97.trans (congrArg some (by kernel_rfl))
 f299:=Try.func98.trans (congrArg some (by kernel_rfl))
 f300:=Try.func100.trans (congrArg some (by kernel_rfl))
 f301:=Try.func101.trans (congrArg some (by kernel_rfl))
 f328:=Try.func111.trans (congrArg some (by kernel_rfl))
 f329:=Try.func112.trans (congrArg some (by kernel_rfl))
 f330:=Try.func113.trans (congrArg some (by kernel_rfl))
 f331:=Try.func114.trans (congrArg some (by kernel_rfl))
 f332:=Try.func115.trans (congrArg some (by kernel_rfl))
 f343:=Try.func118.trans (congrArg some (by kernel_rfl))
 t0:=Try.underlying0
 a0:=Try.isAgg0
 z0:=Try.sizeOf0
 v0:=Try.zeroValue0
 t3:=Try.underlying3
 a3:=Try.isAgg3
 z3:=Try.sizeOf3
 v3:=Try.zeroValue3
 t4:=Try.underlying4
 a4:=Try.isAgg4
 z4:=Try.sizeOf4
 v4:=Try.zeroValue4
 t5:=Try.underlying5
 a5:=Try.isAgg5
 z5:=Try.sizeOf5
 v5:=Try.zeroValue5
 t9:=Try.underlying9
 a9:=Try.isAgg9
 z9:=Try.sizeOf9
 v9:=Try.zeroValue9
 t28:=Try.underlying42
 a28:=Try.isAgg42
 z28:=Try.sizeOf42
 v28:=Try.zeroValue42
 t46:=Try.underlying195
 a46:=Try.isAgg195
 z46:=Try.sizeOf195
 v46:=Try.zeroValue195
 t51:=Try.underlying199
 a51:=Try.isAgg199
 z51:=Try.sizeOf199
 v51:=Try.zeroValue199
 t53:=Try.underlying97
 a53:=Try.isAgg97
 z53:=Try.sizeOf97
 v53:=Try.zeroValue97
 t131:=Try.underlying55
 a131:=Try.isAgg55
 z131:=Try.sizeOf55
 v131:=Try.zeroValue55
 t182:=Try.underlying208
 a182:=Try.isAgg208
 z182:=Try.sizeOf208
 v182:=Try.zeroValue208
 t183:=Try.underlying209
 a183:=Try.isAgg209
 z183:=Try.sizeOf209
 v183:=Try.zeroValue209
 t218:=Try.underlying224
 a218:=Try.isAgg224
 z218:=Try.sizeOf224
 v218:=Try.zeroValue224
 t222:=Try.underlying228
 a222:=Try.isAgg228
 z222:=Try.sizeOf228
 v222:=Try.zeroValue228
 t228:=Try.underlying232
 a228:=Try.isAgg232
 z228:=Try.sizeOf232
 v228:=Try.zeroValue232
 t229:=Try.underlying233
 a229:=Try.isAgg233
 z229:=Try.sizeOf233
 v229:=Try.zeroValue233 }
end Go.Proofs
end
section
set_option maxHeartbeats 4000000
set_option maxRecDepth 100000
namespace Px
open Go Go.RowKit Go.Proofs
def zan (φ:Nat):H TV (RTup TT [.val 26]):=.x
def zda (P:Program) (φ:Nat):Env TV:=⟨P,lk [],lk [],lk [],lk []⟩
theorem zpx (φ:Nat) (a) :(zaf φ).F a=fnX TV (zda Try.prog φ) φ Try.f25 [] [.val 26] (zan φ) a:=by kernel_rfl
theorem zp1 (φ:Nat):fnO TV (zda Try.prog φ) φ Try.f25 [.val 26] (zan φ):=by
 unfold fnO
 show obl _ _ _ _ _ _ _ _
 unfold zan
 repeat' (first | exact trivial |(refine⟨?_,?_⟩) |(intro _) | kernel_rfl)
theorem zhs [Dr] (φ:Nat):z3o TV Try.prog 25 (zaf φ):=
 z4e (N:=zda Try.prog φ) (z0o trivial trivial trivial trivial) (zan φ) Try.func25 (by kernel_rfl) (zpx φ) (zp1 φ)
def z6l (φ:Nat):H TV (RTup TT [.val 27]):=.x
def z9p (P:Program) (φ:Nat):Env TV:=⟨P,lk [],lk [],lk [],lk []⟩
theorem zjg (φ:Nat) (a) :(z9w φ).F a=fnX TV (z9p Try.prog φ) φ Try.f77 [1] [.val 27] (z6l φ) a:=by kernel_rfl
theorem zki (φ:Nat):fnO TV (z9p Try.prog φ) φ Try.f77 [.val 27] (z6l φ):=by
 unfold fnO
 show obl _ _ _ _ _ _ _ _
 unfold z6l
 repeat' (first | exact trivial |(refine⟨?_,?_⟩) |(intro _) | kernel_rfl)
theorem zjo [Dr] (φ:Nat):z3o TV Try.prog 77 (z9w φ):=
 z4e (N:=z9p Try.prog φ) (z0o trivial trivial trivial trivial) (z6l φ) Try.func77 (by kernel_rfl) (zjg φ) (zki φ)
def zpm:Msp TV:=⟨3,0,[],fun l _=>znu l⟩
theorem zwb [Dr]:zlm TV Try.prog 69 zpm:=fun l _ l' sv h=>zpd (ρ:=Try.lays189_ren) Try.lays189 h
def z6p (φ:Nat):H TV (RTup TT [.val 0]):=(.seq .x (.seq .x (.seq .x (.seq (.seq .x (.body (.loop ⟨[(84,[(1,.ptr 0 0),(3,.val 0),(20,.val 2),(21,.val 0),(22,.val 0)])],[.box 25 [.val 5]]⟩ (fun n=>kk5 (z3c φ n)) (fun zk7=>.x)))) (.seq (.seq .x (.body (.loop ⟨[(84,[(3,.val 0),(31,.val 4),(32,.val 0),(33,.val 0)])],[]⟩ (fun n=>kk4 (z1r φ n)) (fun zk13=>.x)))) .x)))))
def z9g (P:Program) (φ:Nat):Env TV:=⟨P,lk [(77,z9w φ)],lk [],lk [],lk []⟩
theorem zlc (φ:Nat) (a) :(z6f φ).F a=fnX TV (z9g Try.prog φ) φ Try.f56 [5] [.val 0] (z6p φ) a:=by kernel_rfl
theorem zkg (φ:Nat):fnO TV (z9g Try.prog φ) φ Try.f56 [.val 0] (z6p φ):=by
 unfold fnO
 show obl _ _ _ _ _ _ _ _
 unfold z6p
 repeat' (first | exact trivial |(refine⟨?_,?_⟩) |(intro _) | kernel_rfl)
theorem zdo [Dr] (φ:Nat):z3o TV Try.prog 56 (z6f φ):=
 z4e (N:=z9g Try.prog φ) (z0o ⟨zjo φ,trivial⟩ trivial trivial trivial) (z6p φ) Try.func56 (by kernel_rfl) (zlc φ) (zkg φ)
def z6s (φ:Nat):H TV (RTup TT [.val 27]):=.x
def z93 (P:Program) (φ:Nat):Env TV:=⟨P,lk [],lk [],lk [],lk []⟩
theorem zk3 (φ:Nat) (a) :(z44 φ).F a=fnX TV (z93 Try.prog φ) φ Try.f58 [0,0,0] [.val 27] (z6s φ) a:=by kernel_rfl
theorem zkt (φ:Nat):fnO TV (z93 Try.prog φ) φ Try.f58 [.val 27] (z6s φ):=by
 unfold fnO
 show obl _ _ _ _ _ _ _ _
 unfold z6s
 repeat' (first | exact trivial |(refine⟨?_,?_⟩) |(intro _) | kernel_rfl)
theorem z6b [Dr] (φ:Nat):z3o TV Try.prog 58 (z44 φ):=
 z4e (N:=z93 Try.prog φ) (z0o trivial trivial trivial trivial) (z6s φ) Try.func58 (by kernel_rfl) (zk3 φ) (zkt φ)
def z8k (φ:Nat):H TV (RTup TT [.val 0]):=(.seq .x (.seq .x (.seq .x (.seq .x (.seq (.seq .x (.body (.loop ⟨[(206,[(1,.ptr 0 0),(3,.ptr 1 0),(4,.func 78 [.ptr 1 0]),(41,.val 8),(42,.val 0),(43,.val 0)])],[.box 31 [.val 15],.box 45 [.val 0]]⟩ (fun n=>kk5 (z3m φ n)) (fun zk7=>(.seq .x (.seq .x (.seq (.body (.seq .x (.seq (.seq .x (.body (.loop ⟨[(206,[(1,.ptr 0 0),(3,.ptr 1 0),(4,.func 78 [.ptr 1 0]),(6,.ptr 2 0),(41,.val 8),(42,.val 0),(43,.val 0),(55,.own 3),(56,.val 0),(57,.val 0)])],[.box 31 [.val 15],.box 45 [.val 0],.box 141 [.val 7],.row 3 0]⟩ (fun n z=>z2a φ (fun a0 a1 a2 a3 a4=>zk7 (a0,a1,a2,a3,a4,())) n z.1 z.2.1 z.2.2.1 z.2.2.2.1 z.2.2.2.2.1 z.2.2.2.2.2.1 z.2.2.2.2.2.2.1 z.2.2.2.2.2.2.2.1 z.2.2.2.2.2.2.2.2.1) (fun zk17=>.x)))) .x))) .x))))))) (.seq (.seq .x (.body (.loop ⟨[(206,[(1,.ptr 0 0),(3,.ptr 1 0),(4,.func 78 [.ptr 1 0]),(83,.val 10),(84,.val 0),(85,.val 0)])],[.box 31 [.val 15],.box 45 [.val 0]]⟩ (fun n=>kk5 (z0c φ n)) (fun zk27=>.x)))) (.seq (.seq .x (.body (.loop ⟨[(206,[(1,.ptr 0 0),(3,.ptr 1 0),(4,.func 78 [.ptr 1 0]),(120,.val 12),(121,.val 0),(122,.val 0)])],[.box 31 [.val 15],.box 45 [.val 0]]⟩ (fun n=>kk5 (z0u φ n)) (fun zk40=>.x)))) (.seq .x (.seq (.seq .x (.body (.loop ⟨[(206,[(3,.ptr 0 0),(4,.func 78 [.ptr 0 0]),(13,.ptr 1 0),(158,.val 14),(159,.val 0),(160,.val 0)])],[.box 45 [.val 0],.box 184 [.val 28]]⟩ (fun n=>kk5 (zy φ n)) (fun zk49=>.x)))) .x)))))))))
def zcb (P:Program) (φ:Nat):Env TV:=⟨P,lk [(58,z44 φ)],lk [],lk [],lk []⟩
theorem zn5 (φ:Nat) (a) :(z66 φ).F a=fnX TV (zcb Try.prog φ) φ Try.f57 [15] [.val 0] (z8k φ) a:=by kernel_rfl
theorem zo2 (φ:Nat):fnO TV (zcb Try.prog φ) φ Try.f57 [.val 0] (z8k φ):=by
 unfold fnO
 show obl _ _ _ _ _ _ _ _
 unfold z8k
 repeat' (first | exact trivial |(refine⟨?_,?_⟩) |(intro _) | kernel_rfl)
theorem zbw [Dr] (φ:Nat):z3o TV Try.prog 57 (z66 φ):=
 z4e (N:=zcb Try.prog φ) (z0o ⟨z6b φ,trivial⟩ trivial trivial trivial) (z8k φ) Try.func57 (by kernel_rfl) (zn5 φ) (zo2 φ)
def z5t (φ:Nat):H TV (RTup TT [.val 0]):=(.seq .x (.seq (.seq .x (.body (.loop ⟨[(45,[(1,.ptr 0 0),(9,.val 21),(10,.val 0)])],[.box 109 [.val 23]]⟩ (fun n=>kk3 (z2u φ n)) (fun zk5=>.x)))) (.seq .x (.seq (.seq .x (.body (.loop ⟨[(45,[(5,.val 0),(30,.val 22),(31,.val 0),(32,.val 0)])],[]⟩ (fun n=>kk4 (z2c φ n)) (fun zk10=>.x)))) .x))))
def z80 (P:Program) (φ:Nat):Env TV:=⟨P,lk [],lk [],lk [],lk []⟩
theorem zik (φ:Nat) (a) :(z8g φ).F a=fnX TV (z80 Try.prog φ) φ Try.f59 [23] [.val 0] (z5t φ) a:=by kernel_rfl
theorem zif (φ:Nat):fnO TV (z80 Try.prog φ) φ Try.f59 [.val 0] (z5t φ):=by
 unfold fnO
 show obl _ _ _ _ _ _ _ _
 unfold z5t
 repeat' (first | exact trivial |(refine⟨?_,?_⟩) |(intro _) | kernel_rfl)
theorem zil [Dr] (φ:Nat):z3o TV Try.prog 59 (z8g φ):=
 z4e (N:=z80 Try.prog φ) (z0o trivial trivial trivial trivial) (z5t φ) Try.func59 (by kernel_rfl) (zik φ) (zif φ)
def zai (φ:Nat):H TV (RTup TT [.val 6,.val 6]):=.x
def ze1 (P:Program) (φ:Nat):Env TV:=⟨P,lk [],lk [],lk [],lk []⟩
theorem zqf (φ:Nat) (a) :(zdw φ).F a=fnX TV (ze1 Try.prog φ) φ Try.f108 [6,6] [.val 6,.val 6] (zai φ) a:=by kernel_rfl
theorem zpv (φ:Nat):fnO TV (ze1 Try.prog φ) φ Try.f108 [.val 6,.val 6] (zai φ):=by
 unfold fnO
 show obl _ _ _ _ _ _ _ _
 unfold zai
 repeat' (first | exact trivial |(refine⟨?_,?_⟩) |(intro _) | kernel_rfl)
theorem zq9 [Dr] (φ:Nat):z3o TV Try.prog 108 (zdw φ):=
 z4e (N:=ze1 Try.prog φ) (z0o trivial trivial trivial trivial) (zai φ) Try.func108 (by kernel_rfl) (zqf φ) (zpv φ)
def z3e (φ:Nat):H TV (RTup TT [.val 0]):=(.seq .x (.seq (.ins 1 91 (.seq .x (.seq (.join ⟨[(25,[(0,.val 6),(2,.val 0)]),(6,[])],[]⟩ (kk2 (z1n φ)) (.seq .x .x)) (.seq (.join ⟨[(25,[(0,.val 6),(2,.val 0)]),(6,[])],[]⟩ (kk2 (z1m φ)) (.seq .x .x)) (.seq (.join ⟨[(25,[(0,.val 6),(2,.val 0)]),(6,[])],[]⟩ (kk2 (z1c φ)) (.seq .x .x)) .x)))) .x) .x))
def z4t (P:Program) (φ:Nat):Env TV:=⟨P,lk [],lk [],lk [],lk []⟩
theorem zdz (φ:Nat) (a) :(z54 φ).F a=fnX TV (z4t Try.prog φ) φ Try.f117 [6] [.val 0] (z3e φ) a:=by kernel_rfl
theorem zdp (φ:Nat):fnO TV (z4t Try.prog φ) φ Try.f117 [.val 0] (z3e φ):=by
 unfold fnO
 show obl _ _ _ _ _ _ _ _
 unfold z3e
 repeat' (first | exact trivial |(refine⟨?_,?_⟩) |(intro _) | kernel_rfl)
theorem zd0 [Dr] (φ:Nat):z3o TV Try.prog 117 (z54 φ):=
 z4e (N:=z4t Try.prog φ) (z0o trivial trivial trivial trivial) (z3e φ) Try.func117 (by kernel_rfl) (zdz φ) (zdp φ)
def zah (φ:Nat):H TV (RTup TT [.val 6,.val 6]):=(.seq .x (.seq .x (.seq .x (.seq .x (.seq .x (.seq .x (.seq .x (.seq .x (.seq .x (.seq .x (.seq .x (.seq .x (.seq .x (.seq .x (.seq (.join ⟨[(135,[(2,.val 6),(8,.val 6),(9,.val 6),(10,.val 6),(11,.val 6),(13,.val 6),(14,.val 6),(15,.val 6)])],[]⟩ (kk8 (z5n φ)) (.body (.loop ⟨[(135,[(2,.val 6),(8,.val 6),(9,.val 6),(10,.val 6),(11,.val 6),(13,.val 6),(14,.val 6),(15,.val 6),(16,.val 6)])],[]⟩ (fun n=>kk9 (z5q φ n)) (fun zk40=>.x)))) (.seq .x (.seq .x (.seq .x (.seq (.join ⟨[(135,[(2,.val 6),(8,.val 6),(14,.val 6),(15,.val 6),(17,.val 6),(18,.val 6)])],[]⟩ (kk6 (z5r φ)) (.body (.loop ⟨[(135,[(2,.val 6),(8,.val 6),(9,.val 6),(10,.val 6),(14,.val 6),(15,.val 6),(16,.val 6),(17,.val 6),(18,.val 6)])],[]⟩ (fun n=>kk9 (z5s φ n)) (fun zk30=>.x)))) .x)))))))))))))))))))
def zd1 (P:Program) (φ:Nat):Env TV:=⟨P,lk [(117,z54 φ)],lk [],lk [],lk []⟩
theorem zp5 (φ:Nat) (a) :(zdj φ).F a=fnX TV (zd1 Try.prog φ) φ Try.f109 [6,6,6] [.val 6,.val 6] (zah φ) a:=by kernel_rfl
theorem zp3 (φ:Nat):fnO TV (zd1 Try.prog φ) φ Try.f109 [.val 6,.val 6] (zah φ):=by
 unfold fnO
 show obl _ _ _ _ _ _ _ _
 unfold zah
 repeat' (first | exact trivial |(refine⟨?_,?_⟩) |(intro _) | kernel_rfl)
theorem zqw [Dr] (φ:Nat):z3o TV Try.prog 109 (zdj φ):=
 z4e (N:=zd1 Try.prog φ) (z0o ⟨zd0 φ,trivial⟩ trivial trivial trivial) (zah φ) Try.func109 (by kernel_rfl) (zp5 φ) (zp3 φ)
def ze6 (φ:Nat):H TV (RTup TT [.val 6]):=(.seq .x (.seq .x (.seq .x (.seq (.seq (.ins 1 91 (.seq .x (.seq (.join ⟨[(25,[(0,.val 6),(2,.val 0)]),(33,[(0,.val 6),(1,.val 6),(5,.func 107 [.ptr 0 0]),(6,.val 6)])],[.box 97 [.val 6]]⟩ (kk6 (z9c φ)) (.seq .x .x)) (.seq (.join ⟨[(25,[(0,.val 6),(2,.val 0)]),(33,[(0,.val 6),(1,.val 6),(5,.func 107 [.ptr 0 0]),(6,.val 6)])],[.box 97 [.val 6]]⟩ (kk6 (z7u φ)) (.seq .x .x)) (.seq (.join ⟨[(25,[(0,.val 6),(2,.val 0)]),(33,[(0,.val 6),(1,.val 6),(5,.func 107 [.ptr 0 0]),(6,.val 6)])],[.box 97 [.val 6]]⟩ (kk6 (z7t φ)) (.seq .x .x)) .x)))) .x) (.body (.loop ⟨[(33,[(0,.val 6),(1,.val 6),(5,.func 107 [.ptr 0 0]),(6,.val 6),(10,.val 0),(11,.val 0)])],[.box 97 [.val 6]]⟩ (fun n=>kk6 (z0j φ n)) (fun zk30=>(.seq .x (.seq .x (.seq (.body (.seq .x (.seq .x (.seq (.ins 2 91 (.seq .x (.seq (.join ⟨[(25,[(0,.val 6),(2,.val 0)]),(33,[(0,.val 6),(1,.val 6),(5,.func 107 [.ptr 0 0]),(6,.val 6),(7,.val 0),(10,.val 0),(11,.val 0),(18,.val 6)])],[.box 97 [.val 6]]⟩ (fun z=>z3f φ (fun a0 a1 a2 a3 a4 a5=>zk30 (a0,a1,a2,a3,a4,a5,())) z.1 z.2.1 z.2.2.1 z.2.2.2.1 z.2.2.2.2.1 z.2.2.2.2.2.1 z.2.2.2.2.2.2.1 z.2.2.2.2.2.2.2.1 z.2.2.2.2.2.2.2.2.1 z.2.2.2.2.2.2.2.2.2.1) (.seq .x .x)) (.seq (.join ⟨[(25,[(0,.val 6),(2,.val 0)]),(33,[(0,.val 6),(1,.val 6),(5,.func 107 [.ptr 0 0]),(6,.val 6),(7,.val 0),(10,.val 0),(11,.val 0),(18,.val 6)])],[.box 97 [.val 6]]⟩ (fun z=>z7s φ (fun a0 a1 a2 a3 a4 a5=>zk30 (a0,a1,a2,a3,a4,a5,())) z.1 z.2.1 z.2.2.1 z.2.2.2.1 z.2.2.2.2.1 z.2.2.2.2.2.1 z.2.2.2.2.2.2.1 z.2.2.2.2.2.2.2.1 z.2.2.2.2.2.2.2.2.1 z.2.2.2.2.2.2.2.2.2.1) (.seq .x .x)) (.seq (.join ⟨[(25,[(0,.val 6),(2,.val 0)]),(33,[(0,.val 6),(1,.val 6),(5,.func 107 [.ptr 0 0]),(6,.val 6),(7,.val 0),(10,.val 0),(11,.val 0),(18,.val 6)])],[.box 97 [.val 6]]⟩ (fun z=>z7w φ (fun a0 a1 a2 a3 a4 a5=>zk30 (a0,a1,a2,a3,a4,a5,())) z.1 z.2.1 z.2.2.1 z.2.2.2.1 z.2.2.2.2.1 z.2.2.2.2.2.1 z.2.2.2.2.2.2.1 z.2.2.2.2.2.2.2.1 z.2.2.2.2.2.2.2.2.1 z.2.2.2.2.2.2.2.2.2.1) (.seq .x .x)) .x)))) .x) .x)))) .x))))))) .x))))
def zgy (P:Program) (φ:Nat):Env TV:=⟨P,lk [(108,zdw φ),(109,zdj φ)],lk [],lk [],lk []⟩
theorem zv7 (φ:Nat) (a) :(zh7 φ).F a=fnX TV (zgy Try.prog φ) φ Try.f79 [6,6] [.val 6] (ze6 φ) a:=by kernel_rfl
theorem zvm (φ:Nat):fnO TV (zgy Try.prog φ) φ Try.f79 [.val 6] (ze6 φ):=by
 unfold fnO
 show obl _ _ _ _ _ _ _ _
 unfold ze6
 repeat' (first | exact trivial |(refine⟨?_,?_⟩) |(intro _) | kernel_rfl)
theorem zw2 [Dr] (φ:Nat):z3o TV Try.prog 79 (zh7 φ):=
 z4e (N:=zgy Try.prog φ) (z0o ⟨zq9 φ,zqw φ,trivial⟩ trivial trivial trivial) (ze6 φ) Try.func79 (by kernel_rfl) (zv7 φ) (zvm φ)
def zal (φ:Nat):H TV (RTup TT [.val 27]):=.x
def zdm (P:Program) (φ:Nat):Env TV:=⟨P,lk [(79,zh7 φ)],lk [],lk [],lk []⟩
theorem zqq (φ:Nat) (a) :(zds φ).F a=fnX TV (zdm Try.prog φ) φ Try.f60 [6] [.val 27] (zal φ) a:=by kernel_rfl
theorem zp9 (φ:Nat):fnO TV (zdm Try.prog φ) φ Try.f60 [.val 27] (zal φ):=by
 unfold fnO
 show obl _ _ _ _ _ _ _ _
 unfold zal
 repeat' (first | exact trivial |(refine⟨?_,?_⟩) |(intro _) | kernel_rfl)
theorem zr7 [Dr] (φ:Nat):z3o TV Try.prog 60 (zds φ):=
 z4e (N:=zdm Try.prog φ) (z0o ⟨zw2 φ,trivial⟩ trivial trivial trivial) (zal φ) Try.func60 (by kernel_rfl) (zqq φ) (zp9 φ)
def z5d (φ:Nat):H TV (RTup TT [.val 0]):=(.seq .x (.seq .x (.seq .x (.seq .x (.seq .x (.seq .x (.seq (.seq .x (.body (.loop ⟨[(193,[(1,.ptr 0 0),(5,.val 2),(6,.val 0),(7,.val 27),(57,.val 17),(58,.val 0),(59,.val 0)])],[.box 36 [.val 26]]⟩ (fun n=>kk7 (z1q φ n)) (fun zk11=>.x)))) (.seq (.seq .x (.body (.loop ⟨[(193,[(1,.ptr 0 0),(5,.val 2),(6,.val 0),(7,.val 27),(92,.val 19),(93,.val 0),(94,.val 0)])],[.box 36 [.val 26]]⟩ (fun n=>kk7 (z10 φ n)) (fun zk20=>.x)))) (.seq (.seq .x (.body (.loop ⟨[(193,[(1,.ptr 0 0),(5,.val 2),(6,.val 0),(7,.val 27),(120,.val 10),(121,.val 0),(122,.val 0)])],[.box 36 [.val 26]]⟩ (fun n=>kk7 (z0y φ n)) (fun zk29=>.x)))) (.seq (.seq .x (.body (.loop ⟨[(193,[(1,.ptr 0 0),(6,.val 0),(7,.val 27),(135,.val 2),(136,.val 0),(137,.val 0)])],[.box 36 [.val 26]]⟩ (fun n=>kk6 (z12 φ n)) (fun zk36=>.x)))) (.seq (.seq .x (.body (.loop ⟨[(193,[(1,.ptr 0 0),(6,.val 0),(7,.val 27),(157,.val 4),(158,.val 0),(159,.val 0)])],[.box 36 [.val 26]]⟩ (fun n=>kk6 (z11 φ n)) (fun zk43=>.x)))) (.seq (.seq .x (.body (.loop ⟨[(193,[(7,.val 27),(172,.val 25),(173,.val 0),(174,.val 0)])],[]⟩ (fun n=>kk4 (z0z φ n)) (fun zk48=>.x)))) .x))))))))))))
def z7g (P:Program) (φ:Nat):Env TV:=⟨P,lk [(56,z6f φ),(57,z66 φ),(58,z44 φ),(59,z8g φ),(60,zds φ)],lk [],lk [],lk []⟩
theorem zgt (φ:Nat) (a) :(z40 φ).F a=fnX TV (z7g Try.prog φ) φ Try.f36 [26] [.val 0] (z5d φ) a:=by kernel_rfl
theorem zhh (φ:Nat):fnO TV (z7g Try.prog φ) φ Try.f36 [.val 0] (z5d φ):=by
 unfold fnO
 show obl _ _ _ _ _ _ _ _
 unfold z5d
 repeat' (first | exact trivial |(refine⟨?_,?_⟩) |(intro _) | kernel_rfl)
theorem z7c [Dr] (φ:Nat):z3o TV Try.prog 36 (z40 φ):=
 z4e (N:=z7g Try.prog φ) (z0o ⟨zdo φ,zbw φ,z6b φ,zil φ,zr7 φ,trivial⟩ trivial trivial trivial) (z5d φ) Try.func36 (by kernel_rfl) (zgt φ) (zhh φ)
def z59 (φ:Nat):H TV (RTup TT [.val 27]):=.x
def z72 (P:Program) (φ:Nat):Env TV:=⟨P,lk [],lk [],lk [],lk []⟩
theorem zhf (φ:Nat) (a) :(z5c φ).F a=fnX TV (z72 Try.prog φ) φ Try.f61 [0,0,0] [.val 27] (z59 φ) a:=by kernel_rfl
theorem zgj (φ:Nat):fnO TV (z72 Try.prog φ) φ Try.f61 [.val 27] (z59 φ):=by
 unfold fnO
 show obl _ _ _ _ _ _ _ _
 unfold z59
 repeat' (first | exact trivial |(refine⟨?_,?_⟩) |(intro _) | kernel_rfl)
theorem zbh [Dr] (φ:Nat):z3o TV Try.prog 61 (z5c φ):=
 z4e (N:=z72 Try.prog φ) (z0o trivial trivial trivial trivial) (z59 φ) Try.func61 (by kernel_rfl) (zhf φ) (zgj φ)
def z5v (φ:Nat):H TV (RTup TT [.val 27]):=.x
def z81 (P:Program) (φ:Nat):Env TV:=⟨P,lk [(61,z5c φ)],lk [],lk [],lk []⟩
theorem zi8 (φ:Nat) (a) :(z4f φ).F a=fnX TV (z81 Try.prog φ) φ Try.f37 [26,29] [.val 27] (z5v φ) a:=by kernel_rfl
theorem zi9 (φ:Nat):fnO TV (z81 Try.prog φ) φ Try.f37 [.val 27] (z5v φ):=by
 unfold fnO
 show obl _ _ _ _ _ _ _ _
 unfold z5v
 repeat' (first | exact trivial |(refine⟨?_,?_⟩) |(intro _) | kernel_rfl)
theorem z83 [Dr] (φ:Nat):z3o TV Try.prog 37 (z4f φ):=
 z4e (N:=z81 Try.prog φ) (z0o ⟨zbh φ,trivial⟩ trivial trivial trivial) (z5v φ) Try.func37 (by kernel_rfl) (zi8 φ) (zi9 φ)
def z6k (φ:Nat):H TV (RTup TT [.val 27]):=.x
def z9i (P:Program) (φ:Nat):Env TV:=⟨P,lk [(61,z5c φ)],lk [],lk [],lk []⟩
theorem zkd (φ:Nat) (a) :(z56 φ).F a=fnX TV (z9i Try.prog φ) φ Try.f38 [26,30] [.val 27] (z6k φ) a:=by kernel_rfl
theorem zkn (φ:Nat):fnO TV (z9i Try.prog φ) φ Try.f38 [.val 27] (z6k φ):=by
 unfold fnO
 show obl _ _ _ _ _ _ _ _
 unfold z6k
 repeat' (first | exact trivial |(refine⟨?_,?_⟩) |(intro _) | kernel_rfl)
theorem za0 [Dr] (φ:Nat):z3o TV Try.prog 38 (z56 φ):=
 z4e (N:=z9i Try.prog φ) (z0o ⟨zbh φ,trivial⟩ trivial trivial trivial) (z6k φ) Try.func38 (by kernel_rfl) (zkd φ) (zkn φ)
def z6v (φ:Nat):H TV (RTup TT [.val 34,.val 0]):=(.seq .x (.seq .x (.seq (.seq .x (.body (.loop ⟨[(77,[(2,.ptr 0 0),(4,.ptr 1 0),(19,.val 22),(20,.val 0),(21,.val 0)])],[.box 25 [.val 5],.box 131 [.own 2,.raw (.map none)],.row 42 22]⟩ (fun n=>kk5 (z3d φ n)) (fun zk9=>.x)))) (.seq .x (.seq .x (.seq (.seq .x (.body (.loop ⟨[(77,[(4,.ptr 0 0),(8,.func 68 [.ptr 0 0,.ptr 1 0]),(44,.val 4),(45,.val 0),(46,.val 0)])],[.box 131 [.own 2,.own 3],.box 25 [.val 5],.nst 42 3 22 none,.map 32 0 0]⟩ (fun n=>kk6 (z04 φ n)) (fun zk16=>(.seq .x (.seq .x (.seq (.body (.seq .x (.seq (.ins 6 68 (.seq .x (.seq .x (.seq (.join ⟨[(56,[(2,.val 0),(3,.ptr 0 0),(4,.ptr 1 0),(8,.ptr 2 0),(9,.val 0),(10,.val 27)]),(77,[(4,.ptr 0 0),(8,.func 68 [.ptr 0 0,.ptr 1 0]),(9,.val 0),(10,.ptr 3 0),(44,.val 4),(45,.val 0),(46,.val 0)])],[.box 131 [.own 4,.own 5],.box 25 [.val 5],.box 152 [.val 32],.box 139 [.val 3],.nst 42 3 22 none,.map 32 0 0]⟩ (fun z=>z43 φ (fun a0 a1 a2 a3 a4 a5=>zk16 (a0,a1,a2,a3,a4,a5,())) z.1 z.2.1 z.2.2.1 z.2.2.2.1 z.2.2.2.2.1 z.2.2.2.2.2.1 z.2.2.2.2.2.2.1 z.2.2.2.2.2.2.2.1 z.2.2.2.2.2.2.2.2.1 z.2.2.2.2.2.2.2.2.2.1 z.2.2.2.2.2.2.2.2.2.2.1 z.2.2.2.2.2.2.2.2.2.2.2.1) (.seq .x (.cond (.foc (3,some 0) (0,none) .x) .x))) .x))) .x) (.ins 6 68 (.seq .x (.seq .x (.seq (.join ⟨[(56,[(2,.val 0),(3,.ptr 0 0),(4,.ptr 1 0),(8,.ptr 2 0),(9,.val 0),(10,.val 27)]),(77,[(4,.ptr 0 0),(8,.func 68 [.ptr 0 0,.ptr 1 0]),(44,.val 4),(45,.val 0),(46,.val 0)])],[.box 131 [.own 3,.own 4],.box 25 [.val 5],.box 152 [.val 32],.nst 42 3 22 none,.map 32 0 0]⟩ (fun z=>z45 φ (fun a0 a1 a2 a3 a4 a5=>zk16 (a0,a1,a2,a3,a4,a5,())) z.1 z.2.1 z.2.2.1 z.2.2.2.1 z.2.2.2.2.1 z.2.2.2.2.2.1 z.2.2.2.2.2.2.1 z.2.2.2.2.2.2.2.1 z.2.2.2.2.2.2.2.2.1 z.2.2.2.2.2.2.2.2.2.1) (.seq .x (.cond (.foc (3,some 0) (0,none) .x) .x))) .x))) .x)))) .x))))))) (.seq (.seq .x (.body (.loop ⟨[(77,[(4,.ptr 0 0),(67,.own 1),(68,.val 0),(69,.val 0)])],[.box 131 [.own 1,.own 2],.nst 42 3 22 none,.map 32 0 0]⟩ (fun n=>kk4 (z1w φ n)) (fun zk56=>(.seq .x (.seq .x (.seq (.body (.seq (.foc (67,none) (69,none) .x) .x)) .x))))))) .x)))))))
def z98 (P:Program) (φ:Nat):Env TV:=⟨P,lk [(56,z6f φ)],lk [(69,zpm)],lk [],lk []⟩
theorem zjz (φ:Nat) (a) :(z9z φ).F a=fnX TV (z98 Try.prog φ) φ Try.f44 [5,22] [.val 34,.val 0] (z6v φ) a:=by kernel_rfl
theorem zkh (φ:Nat):fnO TV (z98 Try.prog φ) φ Try.f44 [.val 34,.val 0] (z6v φ):=by
 unfold fnO
 show obl _ _ _ _ _ _ _ _
 unfold z6v
 repeat' (first | exact trivial |(refine⟨?_,?_⟩) |(intro _) | kernel_rfl)
theorem zlb [Dr] (φ:Nat):z3o TV Try.prog 44 (z9z φ):=
 z4e (N:=z98 Try.prog φ) (z0o ⟨zdo φ,trivial⟩ ⟨(zwb),trivial⟩ trivial trivial) (z6v φ) Try.func44 (by kernel_rfl) (zjz φ) (zkh φ)
def z6c (φ:Nat):H TV (RTup TT [.val 22]):=(.seq .x (.seq .x (.seq .x (.seq (.seq .x (.body (.loop ⟨[(118,[(2,.val 0),(3,.ptr 0 0),(4,.ptr 1 0),(7,.own 2),(8,.own 3),(23,.val 0),(24,.val 0)])],[.box 25 [.val 5],.box 131 [.val 34],.row 3 0,.fix 4 27]⟩ (fun n=>kk7 (z2t φ n)) (fun zk11=>.x)))) (.seq .x (.body (.loop ⟨[(118,[(3,.ptr 0 0),(4,.ptr 1 0),(7,.own 2),(8,.own 3)])],[.box 25 [.val 5],.box 131 [.val 34],.row 3 0,.fix 4 27]⟩ (fun n=>kk4 (z03 φ n)) (fun zk16=>(.body (.seq .x (.seq (.seq .x (.body (.loop ⟨[(118,[(3,.ptr 0 0),(4,.ptr 1 0),(7,.own 2),(8,.own 3),(10,.val 0),(35,.val 0),(36,.val 0)])],[.box 25 [.val 5],.box 131 [.val 34],.row 3 0,.fix 4 27]⟩ (fun n z=>z1o φ (fun a0 a1 a2 a3=>zk16 (a0,a1,a2,a3,())) n z.1 z.2.1 z.2.2.1 z.2.2.2.1 z.2.2.2.2.1 z.2.2.2.2.2.1 z.2.2.2.2.2.2.1) (fun zk24=>.x)))) (.seq .x (.seq .x (.seq .x (.body (.loop ⟨[(118,[(3,.ptr 0 0),(4,.ptr 1 0),(7,.own 2),(8,.own 3),(10,.val 0),(78,.val 22),(79,.val 0),(80,.val 0)])],[.box 25 [.val 5],.box 131 [.val 34],.row 3 0,.fix 4 27]⟩ (fun n z=>z1s φ (fun a0 a1 a2 a3=>zk16 (a0,a1,a2,a3,())) n z.1 z.2.1 z.2.2.1 z.2.2.2.1 z.2.2.2.2.1 z.2.2.2.2.2.1 z.2.2.2.2.2.2.1 z.2.2.2.2.2.2.2.1) (fun zk33=>.x)))))))))))))))))
def z9h (P:Program) (φ:Nat):Env TV:=⟨P,lk [],lk [],lk [],lk []⟩
theorem zl3 (φ:Nat) (a) :(za6 φ).F a=fnX TV (z9h Try.prog φ) φ Try.f45 [5,34,0] [.val 22] (z6c φ) a:=by kernel_rfl
theorem zjl (φ:Nat):fnO TV (z9h Try.prog φ) φ Try.f45 [.val 22] (z6c φ):=by
 unfold fnO
 show obl _ _ _ _ _ _ _ _
 unfold z6c
 repeat' (first | exact trivial |(refine⟨?_,?_⟩) |(intro _) | kernel_rfl)
theorem zl4 [Dr] (φ:Nat):z3o TV Try.prog 45 (za6 φ):=
 z4e (N:=z9h Try.prog φ) (z0o trivial trivial trivial trivial) (z6c φ) Try.func45 (by kernel_rfl) (zl3 φ) (zjl φ)
def z5a (φ:Nat):H TV (RTup TT [.val 0,.val 0]):=.x
def z75 (P:Program) (φ:Nat):Env TV:=⟨P,lk [(44,z9z φ),(45,za6 φ)],lk [],lk [],lk []⟩
theorem zgw (φ:Nat) (a) :(z5h φ).F a=fnX TV (z75 Try.prog φ) φ Try.f21 [5,0,0] [.val 0,.val 0] (z5a φ) a:=by kernel_rfl
theorem zh4 (φ:Nat):fnO TV (z75 Try.prog φ) φ Try.f21 [.val 0,.val 0] (z5a φ):=by
 unfold fnO
 show obl _ _ _ _ _ _ _ _
 unfold z5a
 repeat' (first | exact trivial |(refine⟨?_,?_⟩) |(intro _) | kernel_rfl)
theorem zbk [Dr] (φ:Nat):z3o TV Try.prog 21 (z5h φ):=
 z4e (N:=z75 Try.prog φ) (z0o ⟨zlb φ,zl4 φ,trivial⟩ trivial trivial trivial) (z5a φ) Try.func21 (by kernel_rfl) (zgw φ) (zh4 φ)
def z6j (φ:Nat):H TV (RTup TT [.val 27]):=.x
def za5 (P:Program) (φ:Nat):Env TV:=⟨P,lk [],lk [],lk [],lk []⟩
theorem zko (φ:Nat) (a b) :(z95 φ).F a b=fnXc TV (za5 Try.prog φ) φ Try.f82 [13] [.b (.val 0),.b (.val 0)] [.val 27] (z6j φ) a b:=by kernel_rfl
theorem zl1 (φ:Nat):fnO TV (za5 Try.prog φ) φ Try.f82 [.val 27] (z6j φ):=by
 unfold fnO
 show obl _ _ _ _ _ _ _ _
 unfold z6j
 repeat' (first | exact trivial |(refine⟨?_,?_⟩) |(intro _) | kernel_rfl)
theorem zjs [Dr] (φ:Nat):zvf TV Try.prog 82 (z95 φ):=
 y4r (N:=za5 Try.prog φ) (z0o trivial trivial trivial trivial) (z6j φ) Try.func82 (by kernel_rfl) (zko φ) (zl1 φ)
def z8n (φ:Nat):H TV (RTup TT [.val 0,.val 0]):=(.seq .x (.seq .x (.seq .x (.seq (.ins 3 81 (.seq .x (.seq (.seq .x (.body (.loop ⟨[(19,[(0,.val 14),(1,.func 82 [.ptr 0 0,.ptr 1 0]),(7,.val 0),(8,.val 0)]),(35,[(3,.ptr 2 0)])],[.box 3 [.val 0],.box 3 [.val 0],.box 31 [.val 15]]⟩ (fun n=>kk6 (z3t φ n)) (fun zk13=>.x)))) .x)) .x) .x))))
def zbv (P:Program) (φ:Nat):Env TV:=⟨P,lk [(57,z66 φ),(58,z44 φ)],lk [],lk [(82,z95 φ)],lk []⟩
theorem zos (φ:Nat) (a) :(zbo φ).F a=fnX TV (zbv Try.prog φ) φ Try.f64 [15,0,0] [.val 0,.val 0] (z8n φ) a:=by kernel_rfl
theorem zoo (φ:Nat):fnO TV (zbv Try.prog φ) φ Try.f64 [.val 0,.val 0] (z8n φ):=by
 unfold fnO
 show obl _ _ _ _ _ _ _ _
 unfold z8n
 repeat' (first | exact trivial |(refine⟨?_,?_⟩) |(intro _) | kernel_rfl)
theorem zmw [Dr] (φ:Nat):z3o TV Try.prog 64 (zbo φ):=
 z4e (N:=zbv Try.prog φ) (z0o ⟨zbw φ,z6b φ,trivial⟩ trivial ⟨zjs φ,trivial⟩ trivial) (z8n φ) Try.func64 (by kernel_rfl) (zos φ) (zoo φ)
def z8s (φ:Nat):H TV (RTup TT [.val 12,.val 0]):=(.seq .x (.seq .x (.seq .x (.seq .x (.seq (.seq .x (.body (.loop ⟨[(96,[(1,.val 0),(2,.ptr 0 0),(7,.ptr 1 0),(27,.val 0)])],[.box 31 [.val 15],.box 192 [.val 35]]⟩ (fun n=>kk4 (z4g φ n)) (fun zk9=>.x)))) (.seq .x (.seq (.seq .x (.body (.loop ⟨[(96,[(1,.val 0),(2,.ptr 0 0),(7,.ptr 1 0),(9,.val 27)])],[.box 31 [.val 15],.box 192 [.val 35]]⟩ (fun n=>kk4 (z29 φ n)) (fun zk14=>(.seq .x (.body (.seq .x (.seq .x (.body (.loop ⟨[(96,[(1,.val 0),(2,.ptr 0 0),(7,.ptr 1 0),(9,.val 27),(37,.val 12),(38,.val 0),(39,.val 0)])],[.box 31 [.val 15],.box 192 [.val 35]]⟩ (fun n z=>z27 φ (fun a0 a1 a2 a3=>zk14 (a0,a1,a2,a3,())) n z.1 z.2.1 z.2.2.1 z.2.2.2.1 z.2.2.2.2.1 z.2.2.2.2.2.1 z.2.2.2.2.2.2.1) (fun zk22=>.x))))))))))) (.seq .x (.seq (.seq .x (.body (.loop ⟨[(96,[(1,.val 0),(7,.ptr 0 0),(13,.own 1),(77,.val 0),(78,.val 0)])],[.box 192 [.val 35],.row 143 11]⟩ (fun n=>kk5 (z22 φ n)) (fun zk28=>.x)))) .x)))))))))
def zcf (P:Program) (φ:Nat):Env TV:=⟨P,lk [(57,z66 φ),(58,z44 φ)],lk [],lk [],lk []⟩
theorem zno (φ:Nat) (a) :(zby φ).F a=fnX TV (zcf Try.prog φ) φ Try.f65 [15,0] [.val 12,.val 0] (z8s φ) a:=by kernel_rfl
theorem zov (φ:Nat):fnO TV (zcf Try.prog φ) φ Try.f65 [.val 12,.val 0] (z8s φ):=by
 unfold fnO
 show obl _ _ _ _ _ _ _ _
 unfold z8s
 repeat' (first | exact trivial |(refine⟨?_,?_⟩) |(intro _) | kernel_rfl)
theorem znr [Dr] (φ:Nat):z3o TV Try.prog 65 (zby φ):=
 z4e (N:=zcf Try.prog φ) (z0o ⟨zbw φ,z6b φ,trivial⟩ trivial trivial trivial) (z8s φ) Try.func65 (by kernel_rfl) (zno φ) (zov φ)
def z5i (φ:Nat):H TV (RTup TT [.val 27]):=.x
def z7d (P:Program) (φ:Nat):Env TV:=⟨P,lk [],lk [],lk [],lk []⟩
theorem zgp (φ:Nat) (a b) :(z74 φ).F a b=fnXc TV (z7d Try.prog φ) φ Try.f67 [11] [.b (.val 29)] [.val 27] (z5i φ) a b:=by kernel_rfl
theorem zh9 (φ:Nat):fnO TV (z7d Try.prog φ) φ Try.f67 [.val 27] (z5i φ):=by
 unfold fnO
 show obl _ _ _ _ _ _ _ _
 unfold z5i
 repeat' (first | exact trivial |(refine⟨?_,?_⟩) |(intro _) | kernel_rfl)
theorem zhg [Dr] (φ:Nat):zvf TV Try.prog 67 (z74 φ):=
 y4r (N:=z7d Try.prog φ) (z0o trivial trivial trivial trivial) (z5i φ) Try.func67 (by kernel_rfl) (zgp φ) (zh9 φ)
def z6q (φ:Nat):H TV (RTup TT [.val 0,.val 27]):=(.seq .x (.seq .x (.seq .x (.seq (.join ⟨[(97,[(3,.ptr 0 0),(4,.ptr 1 0),(5,.ptr 2 0),(8,.val 0)])],[.box 36 [.val 26],.box 49 [.val 29],.box 51 [.val 30]]⟩ (kk4 (z1f φ)) (.seq .x .x)) (.seq .x (.seq (.ins 2 66 (.seq .x (.seq (.seq .x (.body (.loop ⟨[(19,[(0,.val 12),(1,.func 67 [.ptr 0 0]),(7,.val 0),(8,.val 0)]),(97,[(4,.ptr 0 0),(5,.ptr 1 0),(8,.val 0),(12,.val 12)])],[.box 49 [.val 29],.box 51 [.val 30]]⟩ (fun n=>kk7 (z2w φ n)) (fun zk18=>.x)))) .x)) .x) .x))))))
def z90 (P:Program) (φ:Nat):Env TV:=⟨P,lk [(21,z5h φ),(64,zbo φ),(65,zby φ)],lk [],lk [(67,z74 φ)],lk []⟩
theorem zkx (φ:Nat) (a) :(z55 φ).F a=fnX TV (z90 Try.prog φ) φ Try.f43 [26,29,30] [.val 0,.val 27] (z6q φ) a:=by kernel_rfl
theorem zkq (φ:Nat):fnO TV (z90 Try.prog φ) φ Try.f43 [.val 0,.val 27] (z6q φ):=by
 unfold fnO
 show obl _ _ _ _ _ _ _ _
 unfold z6q
 repeat' (first | exact trivial |(refine⟨?_,?_⟩) |(intro _) | kernel_rfl)
theorem z9b [Dr] (φ:Nat):z3o TV Try.prog 43 (z55 φ):=
 z4e (N:=z90 Try.prog φ) (z0o ⟨zbk φ,zmw φ,znr φ,trivial⟩ trivial ⟨zhg φ,trivial⟩ trivial) (z6q φ) Try.func43 (by kernel_rfl) (zkx φ) (zkq φ)
def z7i (φ:Nat):H TV (RTup TT [.val 0,.val 27,.val 0]):=.x
def zb4 (P:Program) (φ:Nat):Env TV:=⟨P,lk [(36,z40 φ),(37,z4f φ),(38,z56 φ),(43,z55 φ)],lk [],lk [],lk []⟩
theorem zlf (φ:Nat) (a) :(z7q φ).F a=fnX TV (zb4 Try.prog φ) φ Try.f20 [26,29,30] [.val 0,.val 27,.val 0] (z7i φ) a:=by kernel_rfl
theorem zls (φ:Nat):fnO TV (zb4 Try.prog φ) φ Try.f20 [.val 0,.val 27,.val 0] (z7i φ):=by
 unfold fnO
 show obl _ _ _ _ _ _ _ _
 unfold z7i
 repeat' (first | exact trivial |(refine⟨?_,?_⟩) |(intro _) | kernel_rfl)
theorem zen [Dr] (φ:Nat):z3o TV Try.prog 20 (z7q φ):=
 z4e (N:=zb4 Try.prog φ) (z0o ⟨z7c φ,z83 φ,za0 φ,z9b φ,trivial⟩ trivial trivial trivial) (z7i φ) Try.func20 (by kernel_rfl) (zlf φ) (zls φ)
def z8p (φ:Nat):H TV (RTup TT [.val 27]):=.x
def zch (P:Program) (φ:Nat):Env TV:=⟨P,lk [(25,zaf φ),(20,z7q φ)],lk [],lk [],lk []⟩
theorem zmv (φ:Nat) (a) :(zbx φ).F a=fnX TV (zch Try.prog φ) φ Try.f24 [0,0,0,0] [.val 27] (z8p φ) a:=by kernel_rfl
theorem znl (φ:Nat):fnO TV (zch Try.prog φ) φ Try.f24 [.val 27] (z8p φ):=by
 unfold fnO
 show obl _ _ _ _ _ _ _ _
 unfold z8p
 repeat' (first | exact trivial |(refine⟨?_,?_⟩) |(intro _) | kernel_rfl)
theorem zol [Dr] (φ:Nat):z3o TV Try.prog 24 (zbx φ):=
 z4e (N:=zch Try.prog φ) (z0o ⟨zhs φ,zen φ,trivial⟩ trivial trivial trivial) (z8p φ) Try.func24 (by kernel_rfl) (zmv φ) (znl φ)
def z8o (φ:Nat):H TV (RTup TT [.val 40,.val 0]):=(.seq .x (.seq .x (.seq .x (.seq (.seq .x (.body (.loop ⟨[(99,[(1,.val 36),(2,.val 37),(3,.ptr 0 0),(6,.ptr 1 0),(9,.val 0),(10,.val 0),(22,.val 36),(23,.val 0),(24,.val 0)])],[.box 36 [.val 26],.box 64 [.own 2,.own 3],.row 3 0,.row 77 38]⟩ (fun n=>kk10 (z21 φ n)) (fun zk15=>.x)))) (.seq (.seq .x (.body (.loop ⟨[(99,[(1,.val 36),(2,.val 37),(3,.ptr 0 0),(6,.ptr 1 0),(9,.val 0),(10,.val 0),(45,.val 37),(46,.val 0),(47,.val 0)])],[.box 36 [.val 26],.box 64 [.own 2,.own 3],.row 3 0,.row 77 38]⟩ (fun n=>kk10 (z17 φ n)) (fun zk27=>.x)))) (.seq .x (.seq .x (.seq (.join ⟨[(99,[(6,.ptr 0 0)])],[.box 64 [.own 1,.own 2],.row 3 0,.row 77 38]⟩ (kk2 (z0w φ)) (.seq .x (.body (.rf 17 0 62 (.seq .x (.seq (.seq .x (.body (.loop ⟨[(112,[(0,.own 0),(1,.ptr 1 0),(2,.ptr 2 0),(3,.ptr 3 0),(5,.val 0),(6,.val 0),(22,.val 36),(23,.val 0),(24,.val 0)]),(100,[(6,.ptr 4 0),(99,.own 0)])],[.emp,.box 37 [.val 36],.box 38 [.val 37],.box 36 [.val 26],.box 64 [.own 5,.own 6],.row 3 0,.row 77 38]⟩ (fun n=>kk10 (z1b φ n)) (fun zk42=>(.seq .x (.seq .x (.seq (.body (.seq .x (.seq .x (.body (.loop ⟨[(112,[(0,.own 0),(1,.ptr 1 0),(2,.ptr 2 0),(3,.ptr 3 0),(5,.val 0),(6,.val 0),(7,.val 0),(8,.ptr 4 0),(22,.val 36),(23,.val 0),(24,.val 0),(29,.val 37),(30,.val 0),(31,.val 0)]),(100,[(6,.ptr 5 0),(99,.own 0)])],[.emp,.box 37 [.val 36],.box 38 [.val 37],.box 36 [.val 26],.box 49 [.val 29],.box 64 [.own 6,.own 7],.row 3 0,.row 77 38]⟩ (fun n z=>z0t φ (fun a0 a1 a2 a3 a4 a5 a6 a7 a8 a9=>zk42 (a0,a1,a2,a3,a4,a5,a6,a7,a8,a9,())) n z.1 z.2.1 z.2.2.1 z.2.2.2.1 z.2.2.2.2.1 z.2.2.2.2.2.1 z.2.2.2.2.2.2.1 z.2.2.2.2.2.2.2.1 z.2.2.2.2.2.2.2.2.1 z.2.2.2.2.2.2.2.2.2.1 z.2.2.2.2.2.2.2.2.2.2.1 z.2.2.2.2.2.2.2.2.2.2.2.1 z.2.2.2.2.2.2.2.2.2.2.2.2.1 z.2.2.2.2.2.2.2.2.2.2.2.2.2.1 z.2.2.2.2.2.2.2.2.2.2.2.2.2.2.1) (fun zk58=>(.seq .x (.seq .x (.seq (.body (.seq .x (.seq .x (.seq (.yl 15 17 0 .x .x) .x)))) .x))))))))) .x))))))) (.seq (.seq .x (.body (.loop ⟨[(112,[(0,.own 0),(1,.ptr 1 0),(5,.val 0),(6,.val 0),(63,.val 37),(64,.val 0),(65,.val 0)]),(100,[(6,.ptr 2 0),(99,.own 0)])],[.emp,.box 37 [.val 36],.box 64 [.own 3,.own 4],.row 3 0,.row 77 38]⟩ (fun n=>kk8 (z0k φ n)) (fun zk68=>(.seq .x (.seq .x (.seq (.body (.seq .x (.seq .x (.seq (.yl 11 17 0 .x .x) .x)))) .x))))))) (.seq (.seq .x (.body (.loop ⟨[(112,[(0,.own 0),(5,.val 0),(6,.val 0),(88,.val 36),(89,.val 0),(90,.val 0)]),(100,[(6,.ptr 1 0),(99,.own 0)])],[.emp,.box 64 [.own 2,.own 3],.row 3 0,.row 77 38]⟩ (fun n=>kk7 (z1e φ n)) (fun zk76=>(.seq .x (.seq .x (.seq (.body (.seq .x (.seq (.yl 7 17 0 .x .x) .x))) .x))))))) (.yl 6 17 0 .x .x))))))))) .x))))))))
def zc2 (P:Program) (φ:Nat):Env TV:=⟨P,lk [(36,z40 φ),(37,z4f φ),(38,z56 φ),(43,z55 φ)],lk [],lk [],lk []⟩
theorem zop (φ:Nat) (a) :(zcg φ).F a=fnX TV (zc2 Try.prog φ) φ Try.f17 [26,36,37] [.val 40,.val 0] (z8o φ) a:=by kernel_rfl
theorem zoe (φ:Nat):fnO TV (zc2 Try.prog φ) φ Try.f17 [.val 40,.val 0] (z8o φ):=by
 unfold fnO
 show obl _ _ _ _ _ _ _ _
 unfold z8o
 repeat' (first | exact trivial |(refine⟨?_,?_⟩) |(intro _) | kernel_rfl)
theorem zo7 [Dr] (φ:Nat):z3o TV Try.prog 17 (zcg φ):=
 z4e (N:=zc2 Try.prog φ) (z0o ⟨z7c φ,z83 φ,za0 φ,z9b φ,trivial⟩ trivial trivial trivial) (z8o φ) Try.func17 (by kernel_rfl) (zop φ) (zoe φ)
def z7p (φ:Nat):H TV (RTup TT [.val 27]):=.x
def zas (P:Program) (φ:Nat):Env TV:=⟨P,lk [],lk [],lk [],lk []⟩
theorem zlh (φ:Nat) (a) :(z7k φ).F a=fnX TV (zas Try.prog φ) φ Try.f42 [0,0,0] [.val 27] (z7p φ) a:=by kernel_rfl
theorem zlp (φ:Nat):fnO TV (zas Try.prog φ) φ Try.f42 [.val 27] (z7p φ):=by
 unfold fnO
 show obl _ _ _ _ _ _ _ _
 unfold z7p
 repeat' (first | exact trivial |(refine⟨?_,?_⟩) |(intro _) | kernel_rfl)
theorem zeo [Dr] (φ:Nat):z3o TV Try.prog 42 (z7k φ):=
 z4e (N:=zas Try.prog φ) (z0o trivial trivial trivial trivial) (z7p φ) Try.func42 (by kernel_rfl) (zlh φ) (zlp φ)
def zaj (φ:Nat):H TV (RTup TT [.val 0]):=(.seq .x (.seq .x (.seq .x (.seq (.seq .x (.body (.loop ⟨[(79,[(1,.ptr 0 0),(3,.val 0),(19,.val 22),(20,.val 0),(21,.val 0)])],[.box 64 [.val 40]]⟩ (fun n=>kk5 (z5b φ n)) (fun zk7=>.x)))) (.seq (.seq .x (.body (.loop ⟨[(79,[(1,.ptr 0 0),(3,.val 0),(33,.val 39),(34,.val 0),(35,.val 0)])],[.box 64 [.val 40]]⟩ (fun n=>kk5 (z2q φ n)) (fun zk14=>.x)))) .x)))))
def zdh (P:Program) (φ:Nat):Env TV:=⟨P,lk [(42,z7k φ)],lk [],lk [],lk []⟩
theorem zr8 (φ:Nat) (a) :(z7v φ).F a=fnX TV (zdh Try.prog φ) φ Try.f19 [40] [.val 0] (zaj φ) a:=by kernel_rfl
theorem zr2 (φ:Nat):fnO TV (zdh Try.prog φ) φ Try.f19 [.val 0] (zaj φ):=by
 unfold fnO
 show obl _ _ _ _ _ _ _ _
 unfold zaj
 repeat' (first | exact trivial |(refine⟨?_,?_⟩) |(intro _) | kernel_rfl)
theorem zd2 [Dr] (φ:Nat):z3o TV Try.prog 19 (z7v φ):=
 z4e (N:=zdh Try.prog φ) (z0o ⟨zeo φ,trivial⟩ trivial trivial trivial) (zaj φ) Try.func19 (by kernel_rfl) (zr8 φ) (zr2 φ)
end Px
end
section
set_option maxHeartbeats 4000000
set_option maxRecDepth 100000
namespace Px
open Go Go.RowKit Go.Proofs
theorem zfo (φ:Nat) (k47 :((List Int)->(List Arc)->(List Int)->(List Int)->(List Int)->(List (List Int))->(List (List Int))->(List Int)->(List Int)->Option (Flow×Int×Unit))) (x224 :(List Int)) (x225 :(List Arc)) (x226 :(List Int)) (x227 :(List Int)) (x228 :(List zd)) (x229 :(List Int)) (x230 :(List Int)) (x231 :(List Int)) (x232 :(List (List Int))) (x233 :(List (List Int))) (x234 :(List Int)) (x235 :(List Int)):z67 (z26 φ k47 x224 x225 x226 x227 x228 x229 x230 x231 x232 x233 x234 x235) (z8e φ k47 x224 x225 x226 x227 x228 x229 x230 x231 x232 x233 x234 x235):=by
 unfold z26
 unfold z8e
 repeat' (first | exact z67.one | exact z67.nil | refine z67.cons ?_ ?_ | refine z67.ck ?_ | exact z67.same (n:=2) rfl | exact z67.same (n:=3) rfl | exact z67.same (n:=4) rfl | exact z67.same (n:=6) rfl | refine z67.bind fun _=>?_)
theorem zfa (φ:Nat) (k47 :((List Int)->(List Arc)->(List Int)->(List Int)->(List Int)->(List (List Int))->(List (List Int))->(List Int)->(List Int)->Option (Flow×Int×Unit))) (x279:Int) (x280 :(List Int)) (x281 :(List Arc)) (x282 :(List Int)) (x283 :(List Int)) (x284 :(List Int)) (x285 :(List (List Int))) (x286 :(List (List Int))) (x287 :(List Int)) (x288 :(List Int)) (x289 :(List zd)) (x290 :(List Int)) (x291 :(List Int)):z67 (z32 φ k47 x279 x280 x281 x282 x283 x284 x285 x286 x287 x288 x289 x290 x291) (z86 φ k47 x279 x280 x281 x282 x283 x284 x285 x286 x287 x288 x289 x290 x291):=by
 refine⟨fun r h=>?_⟩
 unfold z32 at h
 unfold z86
 repeat (with_reducible (replace h:=ckS h); obtain⟨_,h⟩:=h)
 change Good r _
 repeat' (with_reducible first | assumption | exact Good.nil | refine Good.one ?_ | refine Good.cons ?_ ?_ | refine Good.ck ?_ ?_)
theorem zfq (φ:Nat) (x293:Int) (x294:zj) (x295 :(List Int)) (x296 :(List Int)):z67 (z4s φ x293 x294 x295 x296) (z89 φ x293 x294 x295 x296):=by
 refine⟨fun r h=>?_⟩
 unfold z4s at h
 unfold z89
 repeat (first | unfold z7 | unfold z09 | unfold ze | unfold z15 | unfold z5g | unfold z14 | unfold z05 | unfold z2v | unfold z76 | unfold zu | unfold z2s | unfold z1a | unfold z6i | unfold z0g)
 repeat (with_reducible (replace h:=ckS h); obtain⟨_,h⟩:=h)
 change Good r _
 repeat' (with_reducible first | assumption | exact Good.nil | refine Good.one ?_ | refine Good.cons ?_ ?_ | refine Good.ck ?_ ?_)
def zae (φ:Nat):H TV (RTup TT [.val 41,.val 0]):=(.seq .x (.seq .x (.seq (.ins 1 40 (.seq .x (.seq .x (.seq (.join ⟨[(73,[(1,.ptr 0 0),(4,.ptr 1 0)]),(27,[(2,.ptr 2 0)])],[.box 64 [.val 40],.box 126 [.val 22,.val 39,.own 3,.own 4,.own 5,.own 6,.own 7],.box 68 [.own 8,.own 9],.row 3 0,.row 3 0,.row 3 0,.nst 42 3 22 none,.nst 42 3 22 none,.row 3 0,.row 3 0]⟩ (kk10 (z7j φ)) (.alt ⟨[(73,[(1,.ptr 0 0),(3,.val 0)]),(27,[(2,.ptr 1 0)])],[.box 64 [.val 40],.box 68 [.own 2,.own 3],.row 3 0,.row 3 0]⟩ (kk4 (z4s φ)) (kk4 (z89 φ)))) (.seq (.seq .x (.body (.loop ⟨[(73,[(4,.ptr 0 0),(28,.val 39),(29,.val 0),(30,.val 0)]),(27,[(2,.ptr 1 0)])],[.box 126 [.val 22,.val 39,.own 2,.own 3,.own 4,.own 5,.own 6],.box 68 [.own 7,.own 8],.row 3 0,.row 3 0,.row 3 0,.nst 42 3 22 none,.nst 42 3 22 none,.row 3 0,.row 3 0]⟩ (fun n=>kk12 (z16 φ n)) (fun zk26=>(.seq .x (.seq .x (.seq (.body (.seq .x (.seq (.foc (4,some 5) (6,some 0) .x) (.foc (4,some 6) (6,some 1) .x)))) .x))))))) .x)))) .x) (.seq (.seq (.join ⟨[(27,[(2,.ptr 0 0),(5,.ptr 1 0),(16,.val 27)])],[.box 68 [.own 2,.own 3],.box 126 [.val 22,.val 39,.own 4,.own 5,.own 6,.own 7,.own 8],.row 3 0,.row 3 0,.row 3 0,.row 3 0,.row 3 0,.nst 42 3 22 none,.nst 42 3 22 none]⟩ (kk10 (zb9 φ)) (.ins 1 41 (.seq .x (.seq (.body (.loop ⟨[(19,[(0,.ptr 0 0)]),(27,[(2,.ptr 1 0),(5,.ptr 0 0)])],[.box 126 [.val 22,.val 39,.own 2,.own 3,.own 4,.own 5,.own 6],.box 68 [.own 7,.own 8],.row 3 0,.row 3 0,.row 3 0,.nst 42 3 22 none,.nst 42 3 22 none,.row 3 0,.row 3 0]⟩ (fun n=>kk9 (z2p φ n)) (fun zk47=>(.seq (.seq (.join ⟨[(19,[(0,.ptr 0 0),(6,.val 27)]),(27,[(2,.ptr 1 0),(5,.ptr 0 0)])],[.box 126 [.val 22,.val 39,.own 2,.own 3,.own 4,.own 5,.own 6],.box 68 [.own 7,.own 8],.row 3 0,.row 3 0,.row 3 0,.nst 42 3 22 none,.nst 42 3 22 none,.row 3 0,.row 3 0]⟩ (fun z=>z1z φ (fun a0 a1 a2 a3 a4 a5 a6 a7 a8=>zk47 (a0,a1,a2,a3,a4,a5,a6,a7,a8,())) z.1 z.2.1 z.2.2.1 z.2.2.2.1 z.2.2.2.2.1 z.2.2.2.2.2.1 z.2.2.2.2.2.2.1 z.2.2.2.2.2.2.2.1 z.2.2.2.2.2.2.2.2.1 z.2.2.2.2.2.2.2.2.2.1) (.ins 1 63 (.seq .x (.seq (.ins 1 80 (.seq .x (.body (.seq .x (.seq (.join ⟨[(121,[(0,.ptr 0 0),(2,.ptr 1 0),(3,.ptr 2 0),(4,.ptr 3 0),(5,.val 0)]),(193,[(0,.ptr 0 0)]),(19,[(0,.ptr 0 0)]),(27,[(2,.ptr 4 0),(5,.ptr 0 0)])],[.box 126 [.val 22,.val 39,.own 5,.own 6,.own 7,.own 8,.own 9],.box 42 [.own 10],.box 42 [.own 11],.box 185 [.own 12],.box 68 [.own 13,.own 14],.row 3 0,.row 3 0,.row 3 0,.nst 42 3 22 none,.nst 42 3 22 none,.row 3 0,.row 3 0,.row 189 43,.row 3 0,.row 3 0]⟩ (fun z=>zx φ (fun a0 a1 a2 a3 a4 a5 a6 a7 a8=>zk47 (a0,a1,a2,a3,a4,a5,a6,a7,a8,())) z.1 z.2.1 z.2.2.1 z.2.2.2.1 z.2.2.2.2.1 z.2.2.2.2.2.1 z.2.2.2.2.2.2.1 z.2.2.2.2.2.2.2.1 z.2.2.2.2.2.2.2.2.1 z.2.2.2.2.2.2.2.2.2.1 z.2.2.2.2.2.2.2.2.2.2.1 z.2.2.2.2.2.2.2.2.2.2.2.1 z.2.2.2.2.2.2.2.2.2.2.2.2.1) (.alt ⟨[(121,[(0,.ptr 0 0),(2,.ptr 1 0),(3,.ptr 2 0),(4,.ptr 3 0),(5,.val 0)]),(193,[(0,.ptr 0 0)]),(19,[(0,.ptr 0 0)]),(27,[(2,.ptr 4 0),(5,.ptr 0 0)])],[.box 126 [.val 22,.val 39,.own 5,.own 6,.own 7,.own 8,.own 9],.box 42 [.own 10],.box 42 [.own 11],.box 185 [.own 12],.box 68 [.own 13,.own 14],.row 3 0,.row 3 0,.row 3 0,.nst 42 3 22 none,.nst 42 3 22 none,.row 3 0,.row 3 0,.row 189 43,.row 3 0,.row 3 0]⟩ (fun z=>z32 φ (fun a0 a1 a2 a3 a4 a5 a6 a7 a8=>zk47 (a0,a1,a2,a3,a4,a5,a6,a7,a8,())) z.1 z.2.1 z.2.2.1 z.2.2.2.1 z.2.2.2.2.1 z.2.2.2.2.2.1 z.2.2.2.2.2.2.1 z.2.2.2.2.2.2.2.1 z.2.2.2.2.2.2.2.2.1 z.2.2.2.2.2.2.2.2.2.1 z.2.2.2.2.2.2.2.2.2.2.1 z.2.2.2.2.2.2.2.2.2.2.2.1 z.2.2.2.2.2.2.2.2.2.2.2.2.1) (fun z=>z86 φ (fun a0 a1 a2 a3 a4 a5 a6 a7 a8=>zk47 (a0,a1,a2,a3,a4,a5,a6,a7,a8,())) z.1 z.2.1 z.2.2.1 z.2.2.2.1 z.2.2.2.2.1 z.2.2.2.2.2.1 z.2.2.2.2.2.2.1 z.2.2.2.2.2.2.2.1 z.2.2.2.2.2.2.2.2.1 z.2.2.2.2.2.2.2.2.2.1 z.2.2.2.2.2.2.2.2.2.2.1 z.2.2.2.2.2.2.2.2.2.2.2.1 z.2.2.2.2.2.2.2.2.2.2.2.2.1))) (.seq (.seq .x (.body (.loop ⟨[(121,[(0,.ptr 0 0),(2,.ptr 1 0),(3,.ptr 2 0),(4,.ptr 3 0),(5,.val 0),(23,.val 0),(24,.val 0)]),(193,[(0,.ptr 0 0)]),(19,[(0,.ptr 0 0)]),(27,[(2,.ptr 4 0),(5,.ptr 0 0)])],[.box 126 [.val 22,.val 39,.own 5,.own 6,.own 7,.own 8,.own 9],.box 42 [.own 10],.box 42 [.own 11],.box 185 [.own 12],.box 68 [.own 13,.own 14],.row 3 0,.row 3 0,.row 3 0,.nst 42 3 22 none,.nst 42 3 22 none,.row 3 0,.row 3 0,.row 189 43,.row 3 0,.row 3 0]⟩ (fun n z=>z1d φ (fun a0 a1 a2 a3 a4 a5 a6 a7 a8=>zk47 (a0,a1,a2,a3,a4,a5,a6,a7,a8,())) n z.1 z.2.1 z.2.2.1 z.2.2.2.1 z.2.2.2.2.1 z.2.2.2.2.2.1 z.2.2.2.2.2.2.1 z.2.2.2.2.2.2.2.1 z.2.2.2.2.2.2.2.2.1 z.2.2.2.2.2.2.2.2.2.1 z.2.2.2.2.2.2.2.2.2.2.1 z.2.2.2.2.2.2.2.2.2.2.2.1 z.2.2.2.2.2.2.2.2.2.2.2.2.1 z.2.2.2.2.2.2.2.2.2.2.2.2.2.1 z.2.2.2.2.2.2.2.2.2.2.2.2.2.2.1) (fun zk100=>.x)))) (.seq .x (.seq .x (.seq (.body (.loop ⟨[(121,[(0,.ptr 0 0),(2,.ptr 1 0),(3,.ptr 2 0),(4,.ptr 3 0),(5,.val 0),(7,.own 4)]),(193,[(0,.ptr 0 0)]),(19,[(0,.ptr 0 0)]),(27,[(2,.ptr 5 0),(5,.ptr 0 0)])],[.box 126 [.val 22,.val 39,.own 6,.own 7,.own 8,.own 9,.own 10],.box 42 [.own 11],.box 42 [.own 12],.box 185 [.own 13],.fix 4 27,.box 68 [.own 14,.own 15],.row 3 0,.row 3 0,.row 3 0,.nst 42 3 22 none,.nst 42 3 22 none,.row 3 0,.row 3 0,.row 189 43,.row 3 0,.row 3 0]⟩ (fun n z=>z3w φ (fun a0 a1 a2 a3 a4 a5 a6 a7 a8=>zk47 (a0,a1,a2,a3,a4,a5,a6,a7,a8,())) n z.1 z.2.1 z.2.2.1 z.2.2.2.1 z.2.2.2.2.1 z.2.2.2.2.2.1 z.2.2.2.2.2.2.1 z.2.2.2.2.2.2.2.1 z.2.2.2.2.2.2.2.2.1 z.2.2.2.2.2.2.2.2.2.1 z.2.2.2.2.2.2.2.2.2.2.1 z.2.2.2.2.2.2.2.2.2.2.2.1 z.2.2.2.2.2.2.2.2.2.2.2.2.1 z.2.2.2.2.2.2.2.2.2.2.2.2.2.1) (fun zk115=>(.body (.seq .x (.seq (.seq .x (.body (.loop ⟨[(121,[(0,.ptr 0 0),(2,.ptr 1 0),(3,.ptr 2 0),(4,.ptr 3 0),(5,.val 0),(7,.own 4),(8,.ptr 5 0),(47,.val 0),(48,.val 0)]),(193,[(0,.ptr 0 0)]),(19,[(0,.ptr 0 0)]),(27,[(2,.ptr 6 0),(5,.ptr 0 0)])],[.box 126 [.val 22,.val 39,.own 7,.own 8,.own 9,.own 10,.own 11],.box 42 [.own 12],.box 42 [.own 13],.box 185 [.own 14],.fix 4 27,.box 3 [.val 0],.box 68 [.own 15,.own 16],.row 3 0,.row 3 0,.row 3 0,.nst 42 3 22 none,.nst 42 3 22 none,.row 3 0,.row 3 0,.row 189 43,.row 3 0,.row 3 0]⟩ (fun n z=>z0s φ (fun a0 a1 a2 a3 a4 a5 a6 a7 a8=>zk47 (a0,a1,a2,a3,a4,a5,a6,a7,a8,())) (fun a0 a1 a2 a3 a4 a5 a6 a7 a8 a9 a10 a11 a12 a13=>zk115 (a0,a1,a2,a3,a4,a5,a6,a7,a8,a9,a10,a11,a12,a13,())) n z.1 z.2.1 z.2.2.1 z.2.2.2.1 z.2.2.2.2.1 z.2.2.2.2.2.1 z.2.2.2.2.2.2.1 z.2.2.2.2.2.2.2.1 z.2.2.2.2.2.2.2.2.1 z.2.2.2.2.2.2.2.2.2.1 z.2.2.2.2.2.2.2.2.2.2.1 z.2.2.2.2.2.2.2.2.2.2.2.1 z.2.2.2.2.2.2.2.2.2.2.2.2.1 z.2.2.2.2.2.2.2.2.2.2.2.2.2.1 z.2.2.2.2.2.2.2.2.2.2.2.2.2.2.1 z.2.2.2.2.2.2.2.2.2.2.2.2.2.2.2.1 z.2.2.2.2.2.2.2.2.2.2.2.2.2.2.2.2.1) (fun zk133=>.x)))) (.seq .x (.seq .x (.seq .x (.body (.rf 80 0 110 (.seq (.seq (.foc (1,some 1005) (2,some 0) .x) (.body (.loop ⟨[(137,[(0,.own 0),(1,.ptr 1 0),(2,.ptr 2 0),(17,.own 3),(18,.val 0),(19,.val 0)]),(122,[(0,.ptr 4 0),(2,.ptr 5 0),(3,.ptr 6 0),(4,.ptr 7 0),(5,.val 0),(7,.own 8),(8,.ptr 9 0),(121,.own 0)]),(193,[(0,.ptr 4 0)]),(19,[(0,.ptr 4 0)]),(27,[(2,.ptr 10 0),(5,.ptr 4 0)])],[.emp,.box 122 [.ptr 4 0],.box 3 [.val 0],.row 3 0,.box 126 [.val 22,.val 39,.own 11,.own 12,.own 13,.own 14,.own 15],.box 42 [.own 16],.box 42 [.own 17],.box 185 [.own 18],.fix 4 27,.box 3 [.val 0],.box 68 [.own 19,.own 20],.row 3 0,.row 3 0,.row 3 0,.nst 42 3 22 (some 3),.nst 42 3 22 none,.row 3 0,.row 3 0,.row 189 43,.row 3 0,.row 3 0]⟩ (fun n z=>z0d φ (fun a0 a1 a2 a3 a4 a5 a6 a7 a8 a9 a10 a11 a12 a13=>zk115 (a0,a1,a2,a3,a4,a5,a6,a7,a8,a9,a10,a11,a12,a13,())) n z.1 z.2.1 z.2.2.1 z.2.2.2.1 z.2.2.2.2.1 z.2.2.2.2.2.1 z.2.2.2.2.2.2.1 z.2.2.2.2.2.2.2.1 z.2.2.2.2.2.2.2.2.1 z.2.2.2.2.2.2.2.2.2.1 z.2.2.2.2.2.2.2.2.2.2.1 z.2.2.2.2.2.2.2.2.2.2.2.1 z.2.2.2.2.2.2.2.2.2.2.2.2.1 z.2.2.2.2.2.2.2.2.2.2.2.2.2.1 z.2.2.2.2.2.2.2.2.2.2.2.2.2.2.1 z.2.2.2.2.2.2.2.2.2.2.2.2.2.2.2.1 z.2.2.2.2.2.2.2.2.2.2.2.2.2.2.2.2.1 z.2.2.2.2.2.2.2.2.2.2.2.2.2.2.2.2.2.1 z.2.2.2.2.2.2.2.2.2.2.2.2.2.2.2.2.2.2.1 z.2.2.2.2.2.2.2.2.2.2.2.2.2.2.2.2.2.2.2.1) (fun zk257=>(.seq .x (.seq .x (.seq (.body (.seq .x (.seq .x (.seq .x (.seq (.yl 28 80 0 .x .x) .x))))) .x))))))) (.seq (.foc (1,some 1006) (2,some 0) .x) (.body (.loop ⟨[(137,[(0,.own 0),(1,.ptr 1 0),(2,.ptr 2 0),(79,.own 3),(80,.val 0),(81,.val 0)]),(122,[(0,.ptr 4 0),(2,.ptr 5 0),(3,.ptr 6 0),(4,.ptr 7 0),(5,.val 0),(7,.own 8),(8,.ptr 9 0),(121,.own 0)]),(193,[(0,.ptr 4 0)]),(19,[(0,.ptr 4 0)]),(27,[(2,.ptr 10 0),(5,.ptr 4 0)])],[.emp,.box 122 [.ptr 4 0],.box 3 [.val 0],.row 3 0,.box 126 [.val 22,.val 39,.own 11,.own 12,.own 13,.own 14,.own 15],.box 42 [.own 16],.box 42 [.own 17],.box 185 [.own 18],.fix 4 27,.box 3 [.val 0],.box 68 [.own 19,.own 20],.row 3 0,.row 3 0,.row 3 0,.nst 42 3 22 none,.nst 42 3 22 (some 3),.row 3 0,.row 3 0,.row 189 43,.row 3 0,.row 3 0]⟩ (fun n z=>z0e φ (fun a0 a1 a2 a3 a4 a5 a6 a7 a8 a9 a10 a11 a12 a13=>zk115 (a0,a1,a2,a3,a4,a5,a6,a7,a8,a9,a10,a11,a12,a13,())) n z.1 z.2.1 z.2.2.1 z.2.2.2.1 z.2.2.2.2.1 z.2.2.2.2.2.1 z.2.2.2.2.2.2.1 z.2.2.2.2.2.2.2.1 z.2.2.2.2.2.2.2.2.1 z.2.2.2.2.2.2.2.2.2.1 z.2.2.2.2.2.2.2.2.2.2.1 z.2.2.2.2.2.2.2.2.2.2.2.1 z.2.2.2.2.2.2.2.2.2.2.2.2.1 z.2.2.2.2.2.2.2.2.2.2.2.2.2.1 z.2.2.2.2.2.2.2.2.2.2.2.2.2.2.1 z.2.2.2.2.2.2.2.2.2.2.2.2.2.2.2.1 z.2.2.2.2.2.2.2.2.2.2.2.2.2.2.2.2.1 z.2.2.2.2.2.2.2.2.2.2.2.2.2.2.2.2.2.1 z.2.2.2.2.2.2.2.2.2.2.2.2.2.2.2.2.2.2.1 z.2.2.2.2.2.2.2.2.2.2.2.2.2.2.2.2.2.2.2.1) (fun zk278=>(.seq .x (.seq .x (.seq (.body (.seq .x (.seq .x (.seq (.yl 40 80 0 .x .x) .x)))) .x))))))))))))))))))) (.seq (.join ⟨[(121,[(2,.ptr 0 0),(3,.ptr 1 0),(4,.ptr 2 0)]),(193,[(0,.ptr 3 0)]),(19,[(0,.ptr 3 0)]),(27,[(2,.ptr 4 0),(5,.ptr 3 0)])],[.box 42 [.own 5],.box 42 [.own 6],.box 185 [.own 7],.box 126 [.val 22,.val 39,.own 8,.own 9,.own 10,.own 11,.own 12],.box 68 [.own 13,.own 14],.row 3 0,.row 3 0,.row 189 43,.row 3 0,.row 3 0,.row 3 0,.nst 42 3 22 none,.nst 42 3 22 none,.row 3 0,.row 3 0]⟩ (fun z=>z0n φ (fun a0 a1 a2 a3 a4 a5 a6 a7 a8=>zk47 (a0,a1,a2,a3,a4,a5,a6,a7,a8,())) z.1 z.2.1 z.2.2.1 z.2.2.2.1 z.2.2.2.2.1 z.2.2.2.2.2.1 z.2.2.2.2.2.2.1 z.2.2.2.2.2.2.2.1 z.2.2.2.2.2.2.2.2.1 z.2.2.2.2.2.2.2.2.2.1 z.2.2.2.2.2.2.2.2.2.2.1 z.2.2.2.2.2.2.2.2.2.2.2.1) (.alt ⟨[(121,[(2,.ptr 0 0),(3,.ptr 1 0),(4,.ptr 2 0)]),(193,[(0,.ptr 3 0)]),(19,[(0,.ptr 3 0)]),(27,[(2,.ptr 4 0),(5,.ptr 3 0)])],[.box 42 [.own 5],.box 42 [.own 6],.box 185 [.own 7],.box 126 [.val 22,.val 39,.own 8,.own 9,.own 10,.own 11,.own 12],.box 68 [.own 13,.own 14],.row 3 0,.row 3 0,.row 189 43,.row 3 0,.row 3 0,.row 3 0,.nst 42 3 22 none,.nst 42 3 22 none,.row 3 0,.row 3 0]⟩ (fun z=>z26 φ (fun a0 a1 a2 a3 a4 a5 a6 a7 a8=>zk47 (a0,a1,a2,a3,a4,a5,a6,a7,a8,())) z.1 z.2.1 z.2.2.1 z.2.2.2.1 z.2.2.2.2.1 z.2.2.2.2.2.1 z.2.2.2.2.2.2.1 z.2.2.2.2.2.2.2.1 z.2.2.2.2.2.2.2.2.1 z.2.2.2.2.2.2.2.2.2.1 z.2.2.2.2.2.2.2.2.2.2.1 z.2.2.2.2.2.2.2.2.2.2.2.1) (fun z=>z8e φ (fun a0 a1 a2 a3 a4 a5 a6 a7 a8=>zk47 (a0,a1,a2,a3,a4,a5,a6,a7,a8,())) z.1 z.2.1 z.2.2.1 z.2.2.2.1 z.2.2.2.2.1 z.2.2.2.2.2.1 z.2.2.2.2.2.2.1 z.2.2.2.2.2.2.2.1 z.2.2.2.2.2.2.2.2.1 z.2.2.2.2.2.2.2.2.2.1 z.2.2.2.2.2.2.2.2.2.2.1 z.2.2.2.2.2.2.2.2.2.2.2.1))) .x))))))))) .x) (.seq .x (.seq (.seq .x (.body (.loop ⟨[(193,[(0,.ptr 0 0),(3,.own 1),(4,.own 2),(5,.own 3),(6,.val 0),(7,.val 0),(21,.own 1),(22,.val 0),(23,.val 0)]),(19,[(0,.ptr 0 0)]),(27,[(2,.ptr 4 0),(5,.ptr 0 0)])],[.box 126 [.val 22,.val 39,.own 5,.own 6,.own 7,.own 8,.own 9],.row 3 0,.row 3 0,.row 189 43,.box 68 [.own 10,.own 11],.row 3 0,.row 3 0,.row 3 0,.nst 42 3 22 none,.nst 42 3 22 none,.row 3 0,.row 3 0]⟩ (fun n z=>z0i φ (fun a0 a1 a2 a3 a4 a5 a6 a7 a8=>zk47 (a0,a1,a2,a3,a4,a5,a6,a7,a8,())) n z.1 z.2.1 z.2.2.1 z.2.2.2.1 z.2.2.2.2.1 z.2.2.2.2.2.1 z.2.2.2.2.2.2.1 z.2.2.2.2.2.2.2.1 z.2.2.2.2.2.2.2.2.1 z.2.2.2.2.2.2.2.2.2.1 z.2.2.2.2.2.2.2.2.2.2.1 z.2.2.2.2.2.2.2.2.2.2.2.1 z.2.2.2.2.2.2.2.2.2.2.2.2.1 z.2.2.2.2.2.2.2.2.2.2.2.2.2.1 z.2.2.2.2.2.2.2.2.2.2.2.2.2.2.1 z.2.2.2.2.2.2.2.2.2.2.2.2.2.2.2.1) (fun zk163=>.x)))) (.seq .x (.seq (.seq .x (.body (.loop ⟨[(193,[(0,.ptr 0 0),(4,.own 1),(5,.own 2),(6,.val 0),(7,.val 0),(57,.own 3),(58,.val 0),(59,.val 0)]),(19,[(0,.ptr 0 0)]),(27,[(2,.ptr 4 0),(5,.ptr 0 0)])],[.box 126 [.val 22,.val 39,.own 5,.own 6,.own 7,.own 8,.own 9],.row 3 0,.row 189 43,.row 3 0,.box 68 [.own 10,.own 11],.row 3 0,.row 3 0,.row 3 0,.nst 42 3 22 none,.nst 42 3 22 none,.row 3 0,.row 3 0]⟩ (fun n z=>z0v φ (fun a0 a1 a2 a3 a4 a5 a6 a7 a8=>zk47 (a0,a1,a2,a3,a4,a5,a6,a7,a8,())) n z.1 z.2.1 z.2.2.1 z.2.2.2.1 z.2.2.2.2.1 z.2.2.2.2.2.1 z.2.2.2.2.2.2.1 z.2.2.2.2.2.2.2.1 z.2.2.2.2.2.2.2.2.1 z.2.2.2.2.2.2.2.2.2.1 z.2.2.2.2.2.2.2.2.2.2.1 z.2.2.2.2.2.2.2.2.2.2.2.1 z.2.2.2.2.2.2.2.2.2.2.2.2.1 z.2.2.2.2.2.2.2.2.2.2.2.2.2.1 z.2.2.2.2.2.2.2.2.2.2.2.2.2.2.1 z.2.2.2.2.2.2.2.2.2.2.2.2.2.2.2.1) (fun zk180=>.x)))) (.seq .x (.seq (.body (.loop ⟨[(193,[(0,.ptr 0 0),(4,.own 1),(5,.own 2),(6,.val 0),(12,.val 0),(13,.val 0)]),(19,[(0,.ptr 0 0)]),(27,[(2,.ptr 3 0),(5,.ptr 0 0)])],[.box 126 [.val 22,.val 39,.own 4,.own 5,.own 6,.own 7,.own 8],.row 3 0,.row 189 43,.box 68 [.own 9,.own 10],.row 3 0,.row 3 0,.row 3 0,.nst 42 3 22 none,.nst 42 3 22 none,.row 3 0,.row 3 0]⟩ (fun n z=>z0l φ (fun a0 a1 a2 a3 a4 a5 a6 a7 a8=>zk47 (a0,a1,a2,a3,a4,a5,a6,a7,a8,())) n z.1 z.2.1 z.2.2.1 z.2.2.2.1 z.2.2.2.2.1 z.2.2.2.2.2.1 z.2.2.2.2.2.2.1 z.2.2.2.2.2.2.2.1 z.2.2.2.2.2.2.2.2.1 z.2.2.2.2.2.2.2.2.2.1 z.2.2.2.2.2.2.2.2.2.2.1 z.2.2.2.2.2.2.2.2.2.2.2.1 z.2.2.2.2.2.2.2.2.2.2.2.2.1 z.2.2.2.2.2.2.2.2.2.2.2.2.2.1) (fun zk195=>.x))) (.seq .x (.seq .x (.seq .x (.seq (.seq .x (.body (.loop ⟨[(193,[(0,.ptr 0 0),(4,.own 1),(5,.own 2),(12,.val 0),(13,.val 0)]),(19,[(0,.ptr 0 0)]),(27,[(2,.ptr 3 0),(5,.ptr 0 0)])],[.box 126 [.val 22,.val 39,.own 4,.own 5,.own 6,.own 7,.own 8],.row 3 0,.row 189 43,.box 68 [.own 9,.own 10],.row 3 0,.row 3 0,.row 3 0,.nst 42 3 22 none,.nst 42 3 22 none,.row 3 0,.row 3 0]⟩ (fun n z=>z25 φ (fun a0 a1 a2 a3 a4 a5 a6 a7 a8=>zk47 (a0,a1,a2,a3,a4,a5,a6,a7,a8,())) n z.1 z.2.1 z.2.2.1 z.2.2.2.1 z.2.2.2.2.1 z.2.2.2.2.2.1 z.2.2.2.2.2.2.1 z.2.2.2.2.2.2.2.1 z.2.2.2.2.2.2.2.2.1 z.2.2.2.2.2.2.2.2.2.1 z.2.2.2.2.2.2.2.2.2.2.1 z.2.2.2.2.2.2.2.2.2.2.2.1 z.2.2.2.2.2.2.2.2.2.2.2.2.1) (fun zk209=>(.seq .x (.seq (.join ⟨[(193,[(0,.ptr 0 0),(4,.own 1),(5,.own 2),(12,.val 0),(13,.val 0)]),(19,[(0,.ptr 0 0)]),(27,[(2,.ptr 3 0),(5,.ptr 0 0)])],[.box 126 [.val 22,.val 39,.own 4,.own 5,.own 6,.own 7,.own 8],.row 3 0,.row 189 43,.box 68 [.own 9,.own 10],.row 3 0,.row 3 0,.row 3 0,.nst 42 3 22 none,.nst 42 3 22 none,.row 3 0,.row 3 0]⟩ (fun z=>z4u φ (fun a0 a1 a2 a3 a4 a5 a6 a7 a8 a9 a10 a11 a12=>zk209 (a0,a1,a2,a3,a4,a5,a6,a7,a8,a9,a10,a11,a12,())) z.1 z.2.1 z.2.2.1 z.2.2.2.1 z.2.2.2.2.1 z.2.2.2.2.2.1 z.2.2.2.2.2.2.1 z.2.2.2.2.2.2.2.1 z.2.2.2.2.2.2.2.2.1 z.2.2.2.2.2.2.2.2.2.1 z.2.2.2.2.2.2.2.2.2.2.1 z.2.2.2.2.2.2.2.2.2.2.2.1 z.2.2.2.2.2.2.2.2.2.2.2.2.1) (.body .x)) .x)))))) .x)))))))))))) .x)) .x) .x)))) (.seq (.seq .x (.body (.loop ⟨[(19,[(10,.own 0),(11,.val 0),(12,.val 0)]),(27,[(2,.ptr 1 0),(5,.ptr 2 0)])],[.row 3 0,.box 68 [.own 3,.own 4],.box 126 [.val 22,.val 39,.own 5,.own 0,.own 6,.own 7,.own 8],.row 3 0,.row 3 0,.row 3 0,.row 3 0,.nst 42 3 22 none,.nst 42 3 22 none]⟩ (fun n=>kk11 (z2r φ n)) (fun zk70=>.x)))) .x))) .x)) .x) .x))))
def zcy (P:Program) (φ:Nat):Env TV:=⟨P,lk [(19,z7v φ)],lk [],lk [],lk []⟩
theorem zqe (φ:Nat) (a) :(zak φ).F a=fnX TV (zcy Try.prog φ) φ Try.f18 [40] [.val 41,.val 0] (zae φ) a:=by kernel_rfl
theorem zql (φ:Nat):fnO TV (zcy Try.prog φ) φ Try.f18 [.val 41,.val 0] (zae φ):=by
 unfold fnO
 show obl _ _ _ _ _ _ _ _
 unfold zae
 repeat' (first | exact trivial |(refine⟨?_,?_⟩) |(intro _) |(as_aux_lemma=>kernel_rfl) | exact zfo .. | exact zfa .. | exact zfq ..)
theorem zhx [Dr] (φ:Nat):z3o TV Try.prog 18 (zak φ):=
 z4e (N:=zcy Try.prog φ) (z0o ⟨zd2 φ,trivial⟩ trivial trivial trivial) (zae φ) Try.func18 (by kernel_rfl) (zqe φ) (zql φ)
end Px
end
section
set_option maxHeartbeats 4000000
set_option maxRecDepth 100000
namespace Px
open Go Go.RowKit Go.Proofs
def z6w (φ:Nat):H TV (RTup TT [.val 27]):=(.seq .x (.seq .x (.seq .x (.seq (.seq .x (.body (.loop ⟨[(72,[(3,.ptr 0 0),(5,.own 1),(22,.val 39),(23,.val 0),(24,.val 0)])],[.box 68 [.val 41],.row 3 0]⟩ (fun n=>kk5 (z85 φ n)) (fun zk8=>.x)))) (.seq (.seq .x (.body (.loop ⟨[(72,[(63,.own 0),(64,.val 0),(65,.val 0)])],[.row 3 0]⟩ (fun n=>kk3 (z78 φ n)) (fun zk13=>.x)))) .x)))))
def z92 (P:Program) (φ:Nat):Env TV:=⟨P,lk [(42,z7k φ)],lk [],lk [],lk []⟩
theorem zjh (φ:Nat) (a) :(z94 φ).F a=fnX TV (z92 Try.prog φ) φ Try.f50 [40,41] [.val 27] (z6w φ) a:=by kernel_rfl
theorem zjk (φ:Nat):fnO TV (z92 Try.prog φ) φ Try.f50 [.val 27] (z6w φ):=by
 unfold fnO
 show obl _ _ _ _ _ _ _ _
 unfold z6w
 repeat' (first | exact trivial |(refine⟨?_,?_⟩) |(intro _) | kernel_rfl)
theorem zju [Dr] (φ:Nat):z3o TV Try.prog 50 (z94 φ):=
 z4e (N:=z92 Try.prog φ) (z0o ⟨zeo φ,trivial⟩ trivial trivial trivial) (z6w φ) Try.func50 (by kernel_rfl) (zjh φ) (zjk φ)
def zbs (φ:Nat):H TV (RTup TT [.val 0,.val 0]):=(.seq .x (.seq .x (.seq .x (.seq .x (.seq (.seq .x (.body (.loop ⟨[(45,[(3,.ptr 0 0),(7,.val 0),(21,.val 39),(22,.val 0),(23,.val 0)])],[.box 68 [.val 41]]⟩ (fun n=>kk5 (zc1 φ n)) (fun zk10=>.x)))) .x)))))
def zep (P:Program) (φ:Nat):Env TV:=⟨P,lk [(19,z7v φ),(50,z94 φ)],lk [],lk [],lk []⟩
theorem zrn (φ:Nat) (a) :(zf4 φ).F a=fnX TV (zep Try.prog φ) φ Try.f28 [40,41] [.val 0,.val 0] (zbs φ) a:=by kernel_rfl
theorem zsg (φ:Nat):fnO TV (zep Try.prog φ) φ Try.f28 [.val 0,.val 0] (zbs φ):=by
 unfold fnO
 show obl _ _ _ _ _ _ _ _
 unfold zbs
 repeat' (first | exact trivial |(refine⟨?_,?_⟩) |(intro _) | kernel_rfl)
theorem zrt [Dr] (φ:Nat):z3o TV Try.prog 28 (zf4 φ):=
 z4e (N:=zep Try.prog φ) (z0o ⟨zd2 φ,zju φ,trivial⟩ trivial trivial trivial) (zbs φ) Try.func28 (by kernel_rfl) (zrn φ) (zsg φ)
def z7m (φ:Nat):H TV (RTup TT [.row 90 53]):=.x
def zax (P:Program) (φ:Nat):Env TV:=⟨P,lk [],lk [],lk [],lk []⟩
theorem zlo (φ:Nat) (a) :(zav φ).F a=fnX TV (zax Try.prog φ) φ Try.f47 [54] [.row 90 53] (z7m φ) a:=by kernel_rfl
theorem zlt (φ:Nat):fnO TV (zax Try.prog φ) φ Try.f47 [.row 90 53] (z7m φ):=by
 unfold fnO
 show obl _ _ _ _ _ _ _ _
 unfold z7m
 repeat' (first | exact trivial |(refine⟨?_,?_⟩) |(intro _) | kernel_rfl)
theorem zln [Dr] (φ:Nat):z3o TV Try.prog 47 (zav φ):=
 z4e (N:=zax Try.prog φ) (z0o trivial trivial trivial trivial) (z7m φ) Try.func47 (by kernel_rfl) (zlo φ) (zlt φ)
def z0x (φ:Nat):H TV (List (TT 53)):=(.seq .x (.body (.loop ⟨[(53,[(0,.own 0),(1,.val 0),(2,.val 0),(3,.cmp 53),(8,.val 0)]),(1,[(0,.own 0)])],[.row 90 53]⟩ (fun n=>kk5 (z1p φ n)) (fun zk10=>(.seq .x (.seq (.body (.seq .x (.body (.loop ⟨[(53,[(0,.own 0),(1,.val 0),(2,.val 0),(3,.cmp 53),(8,.val 0),(9,.val 0)]),(1,[(0,.own 0)])],[.row 90 53]⟩ (fun n z=>z1v φ (fun a0 a1 a2 a3 a4=>zk10 (a0,a1,a2,a3,a4,())) n z.1 z.2.1 z.2.2.1 z.2.2.2.1 z.2.2.2.2.1 z.2.2.2.2.2.1) (fun zk17=>.x))))) .x))))))
def z2g (P:Program) (φ:Nat):Env TV:=⟨P,lk [],lk [],lk [],lk []⟩
theorem z82 (φ:Nat) (l a) :(z2h φ).F l a=fnM TV (z2g Try.prog φ) φ Try.f85 90 53 [.val 0,.val 0,.cmp 53] (z0x φ) l a:=by kernel_rfl
theorem z7z (φ:Nat):fnMO TV (z2g Try.prog φ) φ Try.f85 90 53 (z0x φ):=by
 unfold fnMO
 show obl _ _ _ _ _ _ _ _
 unfold z0x
 repeat' (first | exact trivial |(refine⟨?_,?_⟩) |(intro _) | kernel_rfl)
theorem z88 [Dr] (φ:Nat):zlm TV Try.prog 85 (z2h φ):=zmg (N:=z2g Try.prog φ) (z0o trivial trivial trivial trivial) (z0x φ) Try.func85 (by kernel_rfl) (z82 φ) (z7z φ)
def z1x (φ:Nat):H TV (List (TT 53)):=(.seq .x (.body (.loop ⟨[(38,[(0,.own 0),(1,.val 0),(2,.val 0),(3,.val 0),(10,.val 0)]),(1,[(0,.own 0)])],[.row 90 53]⟩ (fun n=>kk5 (z2x φ n)) (fun zk11=>.x))))
def z3i (P:Program) (φ:Nat):Env TV:=⟨P,lk [],lk [],lk [],lk []⟩
theorem zb7 (φ:Nat) (l a) :(z3n φ).F l a=fnM TV (z3i Try.prog φ) φ Try.f116 90 53 [.val 0,.val 0,.val 0,.cmp 53] (z1x φ) l a:=by kernel_rfl
theorem zb8 (φ:Nat):fnMO TV (z3i Try.prog φ) φ Try.f116 90 53 (z1x φ):=by
 unfold fnMO
 show obl _ _ _ _ _ _ _ _
 unfold z1x
 repeat' (first | exact trivial |(refine⟨?_,?_⟩) |(intro _) | kernel_rfl)
theorem zb6 [Dr] (φ:Nat):zlm TV Try.prog 116 (z3n φ):=zmg (N:=z3i Try.prog φ) (z0o trivial trivial trivial trivial) (z1x φ) Try.func116 (by kernel_rfl) (zb7 φ) (zb8 φ)
def z33 (φ:Nat):H TV (List (TT 53)):=(.seq .x (.seq .x (.seq (.body (.loop ⟨[(58,[(0,.own 0),(2,.val 0),(4,.cmp 53),(10,.val 0),(11,.val 0)]),(1,[(0,.own 0)])],[.row 90 53]⟩ (fun n=>kk5 (z2d φ n)) (fun zk11=>.x))) .x)))
def z4j (P:Program) (φ:Nat):Env TV:=⟨P,lk [],lk [(116,z3n φ)],lk [],lk []⟩
theorem zcr (φ:Nat) (l a) :(z4n φ).F l a=fnM TV (z4j Try.prog φ) φ Try.f103 90 53 [.val 0,.val 0,.val 0,.cmp 53] (z33 φ) l a:=by kernel_rfl
theorem zcp (φ:Nat):fnMO TV (z4j Try.prog φ) φ Try.f103 90 53 (z33 φ):=by
 unfold fnMO
 show obl _ _ _ _ _ _ _ _
 unfold z33
 repeat' (first | exact trivial |(refine⟨?_,?_⟩) |(intro _) | kernel_rfl)
theorem zcq [Dr] (φ:Nat):zlm TV Try.prog 103 (z4n φ):=zmg (N:=z4j Try.prog φ) (z0o trivial ⟨(zb6 φ),trivial⟩ trivial trivial) (z33 φ) Try.func103 (by kernel_rfl) (zcr φ) (zcp φ)
def z2e (φ d:Nat):H TV (List (TT 53)):=(.seq (.seq .x (.cond (.seq .x (.seq .x (.seq (.body (.loop ⟨[(220,[(0,.own 0),(1,.val 0),(4,.cmp 53),(10,.val 0),(11,.val 0)]),(1,[(0,.own 0)])],[.row 90 53]⟩ (fun n=>kk5 (z1k φ n)) (fun zk11=>.x))) (.seq (.seq .x (.body (.loop ⟨[(220,[(0,.own 0),(10,.val 0),(13,.val 0)]),(1,[(0,.own 0)])],[.row 90 53]⟩ (fun n=>kk3 (z39 φ n)) (fun zk16=>.x)))) .x)))) .x)) (.seq (.seq .x (.cond (.seq .x (.seq .x (.seq (.body (.loop ⟨[(220,[(0,.own 0),(2,.val 0),(4,.cmp 53),(14,.val 0),(15,.val 0)]),(1,[(0,.own 0)])],[.row 90 53]⟩ (fun n=>kk5 (z1l φ n)) (fun zk22=>.x))) (.seq (.seq .x (.body (.loop ⟨[(220,[(0,.own 0),(14,.val 0),(17,.val 0)]),(1,[(0,.own 0)])],[.row 90 53]⟩ (fun n=>kk3 (z3a φ n)) (fun zk27=>.x)))) .x)))) .x)) (.seq .x (.seq .x (.seq .x (.seq (.join ⟨[(220,[(0,.own 0),(1,.val 0),(2,.val 0),(3,.val 0),(4,.cmp 53),(18,.val 0),(19,.val 0),(20,.val 0),(21,.val 0)]),(1,[(0,.own 0)])],[.row 90 53]⟩ (fun z=>z3b φ (z01 φ d) z.1 z.2.1 z.2.2.1 z.2.2.2.1 z.2.2.2.2.1 z.2.2.2.2.2.1 z.2.2.2.2.2.2.1 z.2.2.2.2.2.2.2.1 z.2.2.2.2.2.2.2.2.1) (.seq .x .x)) (.seq .x (.seq (.body (.loop ⟨[(220,[(0,.own 0),(1,.val 0),(2,.val 0),(3,.val 0),(4,.cmp 53),(18,.val 0),(19,.val 0),(20,.val 0),(21,.val 0),(22,.val 0)]),(1,[(0,.own 0)])],[.row 90 53]⟩ (fun n z=>z1j φ (z01 φ d) n z.1 z.2.1 z.2.2.1 z.2.2.2.1 z.2.2.2.2.1 z.2.2.2.2.2.1 z.2.2.2.2.2.2.1 z.2.2.2.2.2.2.2.1 z.2.2.2.2.2.2.2.2.1 z.2.2.2.2.2.2.2.2.2.1) (fun zk48=>.x))) (.seq .x (.seq (.join ⟨[(220,[(0,.own 0),(1,.val 0),(3,.val 0),(4,.cmp 53),(18,.val 0),(20,.val 0),(24,.val 0)]),(1,[(0,.own 0)])],[.row 90 53]⟩ (fun z=>z38 φ (z01 φ d) z.1 z.2.1 z.2.2.1 z.2.2.2.1 z.2.2.2.2.1 z.2.2.2.2.2.1 z.2.2.2.2.2.2.1) (.seq .x .x)) (.seq (.join ⟨[(220,[(0,.own 0),(3,.val 0),(4,.cmp 53),(18,.val 0),(24,.val 0)]),(1,[(0,.own 0)])],[.row 90 53]⟩ (fun z=>z37 φ (z01 φ d) z.1 z.2.1 z.2.2.1 z.2.2.2.1 z.2.2.2.2.1) (.seq .x .x)) .x)))))))))))
def z3x (P:Program) (φ d:Nat):Env TV:=⟨P,lk [],lk [(103,z4n φ),(86,z2b φ d)],lk [],lk []⟩
theorem zbi (φ d:Nat) (l a) :(z2b φ (d+1)).F l a=fnM TV (z3x Try.prog φ d) φ Try.f86 90 53 [.val 0,.val 0,.val 0,.cmp 53] (z2e φ d) l a:=by kernel_rfl
theorem zbd (φ d:Nat):fnMO TV (z3x Try.prog φ d) φ Try.f86 90 53 (z2e φ d):=by
 unfold fnMO
 show obl _ _ _ _ _ _ _ _
 unfold z2e
 repeat' (first | exact trivial |(refine⟨?_,?_⟩) |(intro _) | kernel_rfl)
theorem z63 [Dr] (φ:Nat):∀ d,zlm TV Try.prog 86 (z2b φ d)
 | 0=>fun l a l2 sv h=>absurd (show (none:Option (List (TT 53)))=some l2 from h) (fun q=>by cases q)
 | d+1=>zmg (N:=z3x Try.prog φ d) (z0o trivial ⟨(zcq φ),(z63 φ d),trivial⟩ trivial trivial) (z2e φ d) Try.func86 (by kernel_rfl) (zbi φ d) (zbd φ d)
def z34 (φ:Nat):H TV (List (TT 53)):=(.seq .x (.seq .x (.seq (.body (.loop ⟨[(63,[(0,.own 0),(1,.val 0),(2,.cmp 53),(6,.val 0),(7,.val 0),(8,.val 0)]),(1,[(0,.own 0)])],[.row 90 53]⟩ (fun n=>kk6 (z3z φ n)) (fun zk10=>.x))) (.seq .x (.body (.loop ⟨[(63,[(0,.own 0),(1,.val 0),(2,.cmp 53),(6,.val 0)]),(1,[(0,.own 0)])],[.row 90 53]⟩ (fun n=>kk4 (z41 φ n)) (fun zk17=>(.seq .x (.body (.seq .x (.seq (.body (.loop ⟨[(63,[(0,.own 0),(1,.val 0),(2,.cmp 53),(6,.val 0),(7,.val 0),(8,.val 0)]),(1,[(0,.own 0)])],[.row 90 53]⟩ (fun n z=>z3y φ (fun a0 a1 a2 a3=>zk17 (a0,a1,a2,a3,())) n z.1 z.2.1 z.2.2.1 z.2.2.2.1 z.2.2.2.2.1 z.2.2.2.2.2.1) (fun zk24=>.x))) .x)))))))))))
def z4k (P:Program) (φ:Nat):Env TV:=⟨P,lk [],lk [(85,z2h φ),(86,z2b φ φ)],lk [],lk []⟩
theorem zco (φ:Nat) (l a) :(z4l φ).F l a=fnM TV (z4k Try.prog φ) φ Try.f70 90 53 [.val 0,.cmp 53] (z34 φ) l a:=by kernel_rfl
theorem zcw (φ:Nat):fnMO TV (z4k Try.prog φ) φ Try.f70 90 53 (z34 φ):=by
 unfold fnMO
 show obl _ _ _ _ _ _ _ _
 unfold z34
 repeat' (first | exact trivial |(refine⟨?_,?_⟩) |(intro _) | kernel_rfl)
theorem zcv [Dr] (φ:Nat):zlm TV Try.prog 70 (z4l φ):=zmg (N:=z4k Try.prog φ) (z0o trivial ⟨(z88 φ),(z63 φ φ),trivial⟩ trivial trivial) (z34 φ) Try.func70 (by kernel_rfl) (zco φ) (zcw φ)
def z2l (φ:Nat):H TV (List (TT 53)):=.x
def z4c (P:Program) (φ:Nat):Env TV:=⟨P,lk [],lk [(70,z4l φ)],lk [],lk []⟩
theorem zbt (φ:Nat) (l a) :(z49 φ).F l a=fnM TV (z4c Try.prog φ) φ Try.f48 90 53 [.cmp 53] (z2l φ) l a:=by kernel_rfl
theorem zca (φ:Nat):fnMO TV (z4c Try.prog φ) φ Try.f48 90 53 (z2l φ):=by
 unfold fnMO
 show obl _ _ _ _ _ _ _ _
 unfold z2l
 repeat' (first | exact trivial |(refine⟨?_,?_⟩) |(intro _) | kernel_rfl)
theorem zcc [Dr] (φ:Nat):zlm TV Try.prog 48 (z49 φ):=zmg (N:=z4c Try.prog φ) (z0o trivial ⟨(zcv φ),trivial⟩ trivial trivial) (z2l φ) Try.func48 (by kernel_rfl) (zbt φ) (zca φ)
def z8r (φ:Nat):H TV (RTup TT [.val 0]):=.x
def zci (P:Program) (φ:Nat):Env TV:=⟨P,lk [],lk [],lk [],lk []⟩
theorem zn3 (φ:Nat) (a) :(zc0 φ).F a=fnX TV (zci Try.prog φ) φ Try.f72 [0,0] [.val 0] (z8r φ) a:=by kernel_rfl
theorem zna (φ:Nat):fnO TV (zci Try.prog φ) φ Try.f72 [.val 0] (z8r φ):=by
 unfold fnO
 show obl _ _ _ _ _ _ _ _
 unfold z8r
 repeat' (first | exact trivial |(refine⟨?_,?_⟩) |(intro _) | kernel_rfl)
theorem zo8 [Dr] (φ:Nat):z3o TV Try.prog 72 (zc0 φ):=
 z4e (N:=zci Try.prog φ) (z0o trivial trivial trivial trivial) (z8r φ) Try.func72 (by kernel_rfl) (zn3 φ) (zna φ)
def ziw (φ:Nat):H TV (RTup TT [.val 0]):=(.seq .x (.seq .x (.seq (.seq .x (.body (.loop ⟨[(18,[(3,.val 0),(6,.val 22),(7,.val 0),(8,.val 0)])],[]⟩ (fun n=>kk4 (zkv φ n)) (fun zk6=>.x)))) .x)))
def znq (P:Program) (φ:Nat):Env TV:=⟨P,lk [],lk [],lk [],lk []⟩
theorem y2d (φ:Nat) (a) :(znm φ).F a=fnX TV (znq Try.prog φ) φ Try.f71 [22] [.val 0] (ziw φ) a:=by kernel_rfl
theorem y1q (φ:Nat):fnO TV (znq Try.prog φ) φ Try.f71 [.val 0] (ziw φ):=by
 unfold fnO
 show obl _ _ _ _ _ _ _ _
 unfold ziw
 repeat' (first | exact trivial |(refine⟨?_,?_⟩) |(intro _) | kernel_rfl)
theorem y1t [Dr] (φ:Nat):z3o TV Try.prog 71 (znm φ):=
 z4e (N:=znq Try.prog φ) (z0o trivial trivial trivial trivial) (ziw φ) Try.func71 (by kernel_rfl) (y2d φ) (y1q φ)
def z5x (φ:Nat):H TV (RTup TT [.val 0]):=.x
def z84 (P:Program) (φ:Nat):Env TV:=⟨P,lk [(72,zc0 φ),(71,znm φ)],lk [],lk [],lk []⟩
theorem zih (φ:Nat) (a) :(z8d φ).F a=fnX TV (z84 Try.prog φ) φ Try.f49 [53,53] [.val 0] (z5x φ) a:=by kernel_rfl
theorem zib (φ:Nat):fnO TV (z84 Try.prog φ) φ Try.f49 [.val 0] (z5x φ):=by
 unfold fnO
 show obl _ _ _ _ _ _ _ _
 unfold z5x
 repeat' (first | exact trivial |(refine⟨?_,?_⟩) |(intro _) | kernel_rfl)
theorem zi6 [Dr] (φ:Nat):z3o TV Try.prog 49 (z8d φ):=
 z4e (N:=z84 Try.prog φ) (z0o ⟨zo8 φ,y1t φ,trivial⟩ trivial trivial trivial) (z5x φ) Try.func49 (by kernel_rfl) (zih φ) (zib φ)
def z5w (φ:Nat):H TV (RTup TT [.val 37]):=(.seq .x (.seq .x (.seq .x (.seq (.seq .x (.body (.loop ⟨[(49,[(1,.val 0),(4,.own 0),(12,.own 1),(13,.val 0),(14,.val 0)])],[.row 51 30,.row 90 53]⟩ (fun n=>kk5 (z4p φ n)) (fun zk10=>.x)))) .x))))
def z8c (P:Program) (φ:Nat):Env TV:=⟨P,lk [(47,zav φ),(49,z8d φ)],lk [(48,z49 φ)],lk [],lk []⟩
theorem zie (φ:Nat) (a) :(z87 φ).F a=fnX TV (z8c Try.prog φ) φ Try.f26 [54,0] [.val 37] (z5w φ) a:=by kernel_rfl
theorem zig (φ:Nat):fnO TV (z8c Try.prog φ) φ Try.f26 [.val 37] (z5w φ):=by
 unfold fnO
 show obl _ _ _ _ _ _ _ _
 unfold z5w
 repeat' (first | exact trivial |(refine⟨?_,?_⟩) |(intro _) | kernel_rfl)
theorem zim [Dr] (φ:Nat):z3o TV Try.prog 26 (z87 φ):=
 z4e (N:=z8c Try.prog φ) (z0o ⟨zln φ,zi6 φ,trivial⟩ ⟨(zcc φ),trivial⟩ trivial trivial) (z5w φ) Try.func26 (by kernel_rfl) (zie φ) (zig φ)
def zad (φ:Nat):H TV (RTup TT [.val 27]):=(.seq .x (.seq .x (.seq .x (.seq .x (.seq (.join ⟨[(161,[(1,.own 0),(2,.own 1),(3,.ptr 2 0),(4,.val 0)])],[.row 49 29,.row 51 30,.box 44 [.own 3,.val 0,.val 22],.row 60 45]⟩ (kk6 (z7o φ)) (.ins 3 11 (.seq .x (.seq (.join ⟨[(93,[(1,.own 0),(2,.own 1),(6,.ptr 2 0),(7,.val 0),(8,.ptr 3 0)]),(161,[(1,.own 0),(2,.own 1)])],[.row 49 29,.row 51 30,.box 44 [.own 4,.val 0,.own 5],.box 64 [.own 6,.own 7],.row 60 45,.row 3 0,.row 3 0,.row 77 38]⟩ (kk8 (z31 φ)) (.ins 3 17 (.seq .x (.seq .x (.seq .x (.seq (.seq .x (.body (.loop ⟨[(99,[(1,.own 0),(2,.own 1),(3,.ptr 2 0),(6,.ptr 3 0),(9,.val 0),(10,.val 0),(22,.own 0),(23,.val 0),(24,.val 0)]),(93,[(1,.own 0),(2,.own 1),(6,.ptr 4 0)]),(161,[(1,.own 0),(2,.own 1)])],[.row 49 29,.row 51 30,.box 36 [.val 26],.box 64 [.own 5,.own 6],.box 44 [.own 7,.val 0,.own 8],.row 3 0,.row 77 38,.row 60 45,.row 3 0]⟩ (fun n=>kk12 (z9u φ n)) (fun zk513=>.x)))) (.seq (.seq .x (.body (.loop ⟨[(99,[(1,.own 0),(2,.own 1),(3,.ptr 2 0),(6,.ptr 3 0),(9,.val 0),(10,.val 0),(45,.own 1),(46,.val 0),(47,.val 0)]),(93,[(1,.own 0),(2,.own 1),(6,.ptr 4 0)]),(161,[(1,.own 0),(2,.own 1)])],[.row 49 29,.row 51 30,.box 36 [.val 26],.box 64 [.own 5,.own 6],.box 44 [.own 7,.val 0,.own 8],.row 3 0,.row 77 38,.row 60 45,.row 3 0]⟩ (fun n=>kk12 (z9s φ n)) (fun zk527=>.x)))) (.seq .x (.seq .x (.seq (.join ⟨[(99,[(6,.ptr 0 0)]),(93,[(1,.own 1),(2,.own 2),(6,.ptr 3 0)]),(161,[(1,.own 1),(2,.own 2)])],[.box 64 [.own 4,.own 5],.row 49 29,.row 51 30,.box 44 [.own 6,.val 0,.own 7],.row 3 0,.row 77 38,.row 60 45,.row 3 0]⟩ (kk7 (z4r φ)) (.seq .x (.body (.rf 17 0 62 (.seq .x (.seq (.seq .x (.body (.loop ⟨[(112,[(0,.own 0),(1,.ptr 1 0),(2,.ptr 2 0),(3,.ptr 3 0),(5,.val 0),(6,.val 0),(22,.own 4),(23,.val 0),(24,.val 0)]),(100,[(6,.ptr 5 0),(99,.own 0)]),(93,[(1,.own 4),(2,.own 6),(6,.ptr 7 0)]),(161,[(1,.own 4),(2,.own 6)])],[.emp,.box 37 [.own 4],.box 38 [.own 6],.box 36 [.val 26],.row 49 29,.box 64 [.own 8,.own 9],.row 51 30,.box 44 [.own 10,.val 0,.own 11],.row 3 0,.row 77 38,.row 60 45,.row 3 0]⟩ (fun n=>kk12 (z9n φ n)) (fun zk549=>(.seq .x (.seq .x (.seq (.body (.seq .x (.seq .x (.body (.loop ⟨[(112,[(0,.own 0),(1,.ptr 1 0),(2,.ptr 2 0),(3,.ptr 3 0),(5,.val 0),(6,.val 0),(7,.val 0),(8,.ptr 4 0),(22,.own 5),(23,.val 0),(24,.val 0),(29,.own 6),(30,.val 0),(31,.val 0)]),(100,[(6,.ptr 7 0),(99,.own 0)]),(93,[(1,.own 5),(2,.own 6),(6,.ptr 8 0)]),(161,[(1,.own 5),(2,.own 6)])],[.emp,.box 37 [.own 5],.box 38 [.own 6],.box 36 [.val 26],.box 49 [.val 29],.row 49 29,.row 51 30,.box 64 [.own 9,.own 10],.box 44 [.own 11,.val 0,.own 12],.row 3 0,.row 77 38,.row 60 45,.row 3 0]⟩ (fun n z=>z6e φ (fun a0 a1 a2 a3 a4 a5 a6 a7 a8 a9 a10 a11=>zk549 (a0,a1,a2,a3,a4,a5,a6,a7,a8,a9,a10,a11,())) n z.1 z.2.1 z.2.2.1 z.2.2.2.1 z.2.2.2.2.1 z.2.2.2.2.2.1 z.2.2.2.2.2.2.1 z.2.2.2.2.2.2.2.1 z.2.2.2.2.2.2.2.2.1 z.2.2.2.2.2.2.2.2.2.1 z.2.2.2.2.2.2.2.2.2.2.1 z.2.2.2.2.2.2.2.2.2.2.2.1 z.2.2.2.2.2.2.2.2.2.2.2.2.1 z.2.2.2.2.2.2.2.2.2.2.2.2.2.1 z.2.2.2.2.2.2.2.2.2.2.2.2.2.2.1 z.2.2.2.2.2.2.2.2.2.2.2.2.2.2.2.1) (fun zk566=>(.seq .x (.seq .x (.seq (.body (.seq .x (.seq .x (.seq (.yl 15 17 0 .x .x) .x)))) .x))))))))) .x))))))) (.seq (.seq .x (.body (.loop ⟨[(112,[(0,.own 0),(1,.ptr 1 0),(5,.val 0),(6,.val 0),(63,.own 2),(64,.val 0),(65,.val 0)]),(100,[(6,.ptr 3 0),(99,.own 0)]),(93,[(1,.own 4),(2,.own 2),(6,.ptr 5 0)]),(161,[(1,.own 4),(2,.own 2)])],[.emp,.box 37 [.own 4],.row 51 30,.box 64 [.own 6,.own 7],.row 49 29,.box 44 [.own 8,.val 0,.own 9],.row 3 0,.row 77 38,.row 60 45,.row 3 0]⟩ (fun n=>kk11 (z9x φ n)) (fun zk579=>(.seq .x (.seq .x (.seq (.body (.seq .x (.seq .x (.seq (.yl 11 17 0 .x .x) .x)))) .x))))))) (.seq (.seq .x (.body (.loop ⟨[(112,[(0,.own 0),(5,.val 0),(6,.val 0),(88,.own 1),(89,.val 0),(90,.val 0)]),(100,[(6,.ptr 2 0),(99,.own 0)]),(93,[(1,.own 1),(2,.own 3),(6,.ptr 4 0)]),(161,[(1,.own 1),(2,.own 3)])],[.emp,.row 49 29,.box 64 [.own 5,.own 6],.row 51 30,.box 44 [.own 7,.val 0,.own 8],.row 3 0,.row 77 38,.row 60 45,.row 3 0]⟩ (fun n=>kk11 (z9q φ n)) (fun zk591=>(.seq .x (.seq .x (.seq (.body (.seq .x (.seq (.yl 7 17 0 .x .x) .x))) .x))))))) (.yl 6 17 0 .x .x))))))))) .x)))))))) .x)) (.seq .x (.seq .x (.seq .x (.seq .x (.seq .x (.seq (.seq .x (.body (.loop ⟨[(93,[(1,.own 0),(2,.own 1),(6,.ptr 2 0),(9,.ptr 3 0),(43,.val 39),(44,.val 0),(45,.val 0)]),(161,[(1,.own 0),(2,.own 1)])],[.row 49 29,.row 51 30,.box 44 [.own 4,.val 0,.val 22],.box 68 [.val 41],.row 60 45]⟩ (fun n=>kk9 (z68 φ n)) (fun zk499=>.x)))) .x)))))))) .x)) (.seq .x (.seq (.join ⟨[(161,[(1,.own 0),(2,.own 1),(3,.ptr 2 0),(4,.val 0),(5,.ptr 3 0),(6,.val 0)])],[.row 49 29,.row 51 30,.box 44 [.own 4,.val 0,.val 22],.box 44 [.own 5,.val 0,.val 22],.row 60 45,.row 60 45]⟩ (kk10 (z7l φ)) (.ins 3 11 (.seq .x (.seq (.join ⟨[(93,[(1,.own 0),(2,.own 1),(6,.ptr 2 0),(7,.val 0),(8,.ptr 3 0)]),(161,[(1,.own 0),(2,.own 1),(3,.ptr 4 0),(4,.val 0)])],[.row 49 29,.row 51 30,.box 44 [.own 5,.val 0,.own 6],.box 64 [.own 7,.own 8],.box 44 [.own 9,.val 0,.val 22],.row 60 45,.row 3 0,.row 3 0,.row 77 38,.row 60 45]⟩ (kk12 (z30 φ)) (.ins 3 17 (.seq .x (.seq .x (.seq .x (.seq (.seq .x (.body (.loop ⟨[(99,[(1,.own 0),(2,.own 1),(3,.ptr 2 0),(6,.ptr 3 0),(9,.val 0),(10,.val 0),(22,.own 0),(23,.val 0),(24,.val 0)]),(93,[(1,.own 0),(2,.own 1),(6,.ptr 4 0)]),(161,[(1,.own 0),(2,.own 1),(3,.ptr 5 0),(4,.val 0)])],[.row 49 29,.row 51 30,.box 36 [.val 26],.box 64 [.own 6,.own 7],.box 44 [.own 8,.val 0,.own 9],.box 44 [.own 10,.val 0,.val 22],.row 3 0,.row 77 38,.row 60 45,.row 3 0,.row 60 45]⟩ (fun n=>kk16 (z99 φ n)) (fun zk375=>.x)))) (.seq (.seq .x (.body (.loop ⟨[(99,[(1,.own 0),(2,.own 1),(3,.ptr 2 0),(6,.ptr 3 0),(9,.val 0),(10,.val 0),(45,.own 1),(46,.val 0),(47,.val 0)]),(93,[(1,.own 0),(2,.own 1),(6,.ptr 4 0)]),(161,[(1,.own 0),(2,.own 1),(3,.ptr 5 0),(4,.val 0)])],[.row 49 29,.row 51 30,.box 36 [.val 26],.box 64 [.own 6,.own 7],.box 44 [.own 8,.val 0,.own 9],.box 44 [.own 10,.val 0,.val 22],.row 3 0,.row 77 38,.row 60 45,.row 3 0,.row 60 45]⟩ (fun n=>kk16 (z9l φ n)) (fun zk393=>.x)))) (.seq .x (.seq .x (.seq (.join ⟨[(99,[(6,.ptr 0 0)]),(93,[(1,.own 1),(2,.own 2),(6,.ptr 3 0)]),(161,[(1,.own 1),(2,.own 2),(3,.ptr 4 0),(4,.val 0)])],[.box 64 [.own 5,.own 6],.row 49 29,.row 51 30,.box 44 [.own 7,.val 0,.own 8],.box 44 [.own 9,.val 0,.val 22],.row 3 0,.row 77 38,.row 60 45,.row 3 0,.row 60 45]⟩ (kk11 (z4x φ)) (.seq .x (.body (.rf 17 0 62 (.seq .x (.seq (.seq .x (.body (.loop ⟨[(112,[(0,.own 0),(1,.ptr 1 0),(2,.ptr 2 0),(3,.ptr 3 0),(5,.val 0),(6,.val 0),(22,.own 4),(23,.val 0),(24,.val 0)]),(100,[(6,.ptr 5 0),(99,.own 0)]),(93,[(1,.own 4),(2,.own 6),(6,.ptr 7 0)]),(161,[(1,.own 4),(2,.own 6),(3,.ptr 8 0),(4,.val 0)])],[.emp,.box 37 [.own 4],.box 38 [.own 6],.box 36 [.val 26],.row 49 29,.box 64 [.own 9,.own 10],.row 51 30,.box 44 [.own 11,.val 0,.own 12],.box 44 [.own 13,.val 0,.val 22],.row 3 0,.row 77 38,.row 60 45,.row 3 0,.row 60 45]⟩ (fun n=>kk16 (za2 φ n)) (fun zk423=>(.seq .x (.seq .x (.seq (.body (.seq .x (.seq .x (.body (.loop ⟨[(112,[(0,.own 0),(1,.ptr 1 0),(2,.ptr 2 0),(3,.ptr 3 0),(5,.val 0),(6,.val 0),(7,.val 0),(8,.ptr 4 0),(22,.own 5),(23,.val 0),(24,.val 0),(29,.own 6),(30,.val 0),(31,.val 0)]),(100,[(6,.ptr 7 0),(99,.own 0)]),(93,[(1,.own 5),(2,.own 6),(6,.ptr 8 0)]),(161,[(1,.own 5),(2,.own 6),(3,.ptr 9 0),(4,.val 0)])],[.emp,.box 37 [.own 5],.box 38 [.own 6],.box 36 [.val 26],.box 49 [.val 29],.row 49 29,.row 51 30,.box 64 [.own 10,.own 11],.box 44 [.own 12,.val 0,.own 13],.box 44 [.own 14,.val 0,.val 22],.row 3 0,.row 77 38,.row 60 45,.row 3 0,.row 60 45]⟩ (fun n z=>z6d φ (fun a0 a1 a2 a3 a4 a5 a6 a7 a8 a9 a10 a11 a12 a13 a14 a15=>zk423 (a0,a1,a2,a3,a4,a5,a6,a7,a8,a9,a10,a11,a12,a13,a14,a15,())) n z.1 z.2.1 z.2.2.1 z.2.2.2.1 z.2.2.2.2.1 z.2.2.2.2.2.1 z.2.2.2.2.2.2.1 z.2.2.2.2.2.2.2.1 z.2.2.2.2.2.2.2.2.1 z.2.2.2.2.2.2.2.2.2.1 z.2.2.2.2.2.2.2.2.2.2.1 z.2.2.2.2.2.2.2.2.2.2.2.1 z.2.2.2.2.2.2.2.2.2.2.2.2.1 z.2.2.2.2.2.2.2.2.2.2.2.2.2.1 z.2.2.2.2.2.2.2.2.2.2.2.2.2.2.1 z.2.2.2.2.2.2.2.2.2.2.2.2.2.2.2.1 z.2.2.2.2.2.2.2.2.2.2.2.2.2.2.2.2.1 z.2.2.2.2.2.2.2.2.2.2.2.2.2.2.2.2.2.1 z.2.2.2.2.2.2.2.2.2.2.2.2.2.2.2.2.2.2.1 z.2.2.2.2.2.2.2.2.2.2.2.2.2.2.2.2.2.2.2.1) (fun zk444=>(.seq .x (.seq .x (.seq (.body (.seq .x (.seq .x (.seq (.yl 15 17 0 .x .x) .x)))) .x))))))))) .x))))))) (.seq (.seq .x (.body (.loop ⟨[(112,[(0,.own 0),(1,.ptr 1 0),(5,.val 0),(6,.val 0),(63,.own 2),(64,.val 0),(65,.val 0)]),(100,[(6,.ptr 3 0),(99,.own 0)]),(93,[(1,.own 4),(2,.own 2),(6,.ptr 5 0)]),(161,[(1,.own 4),(2,.own 2),(3,.ptr 6 0),(4,.val 0)])],[.emp,.box 37 [.own 4],.row 51 30,.box 64 [.own 7,.own 8],.row 49 29,.box 44 [.own 9,.val 0,.own 10],.box 44 [.own 11,.val 0,.val 22],.row 3 0,.row 77 38,.row 60 45,.row 3 0,.row 60 45]⟩ (fun n=>kk15 (z8z φ n)) (fun zk461=>(.seq .x (.seq .x (.seq (.body (.seq .x (.seq .x (.seq (.yl 11 17 0 .x .x) .x)))) .x))))))) (.seq (.seq .x (.body (.loop ⟨[(112,[(0,.own 0),(5,.val 0),(6,.val 0),(88,.own 1),(89,.val 0),(90,.val 0)]),(100,[(6,.ptr 2 0),(99,.own 0)]),(93,[(1,.own 1),(2,.own 3),(6,.ptr 4 0)]),(161,[(1,.own 1),(2,.own 3),(3,.ptr 5 0),(4,.val 0)])],[.emp,.row 49 29,.box 64 [.own 6,.own 7],.row 51 30,.box 44 [.own 8,.val 0,.own 9],.box 44 [.own 10,.val 0,.val 22],.row 3 0,.row 77 38,.row 60 45,.row 3 0,.row 60 45]⟩ (fun n=>kk15 (z9d φ n)) (fun zk477=>(.seq .x (.seq .x (.seq (.body (.seq .x (.seq (.yl 7 17 0 .x .x) .x))) .x))))))) (.yl 6 17 0 .x .x))))))))) .x)))))))) .x)) (.seq .x (.seq .x (.seq .x (.seq .x (.seq .x (.seq (.seq .x (.body (.loop ⟨[(93,[(1,.own 0),(2,.own 1),(6,.ptr 2 0),(9,.ptr 3 0),(43,.val 39),(44,.val 0),(45,.val 0)]),(161,[(1,.own 0),(2,.own 1),(3,.ptr 4 0),(4,.val 0)])],[.row 49 29,.row 51 30,.box 44 [.own 5,.val 0,.val 22],.box 68 [.val 41],.box 44 [.own 6,.val 0,.val 22],.row 60 45,.row 60 45]⟩ (fun n=>kk13 (z6h φ n)) (fun zk357=>.x)))) .x)))))))) .x)) (.seq (.join ⟨[(161,[(1,.own 0),(2,.own 1),(3,.ptr 2 0),(4,.val 0),(5,.ptr 3 0),(6,.val 0),(7,.ptr 4 0),(8,.val 0)])],[.row 49 29,.row 51 30,.box 44 [.own 5,.val 0,.val 22],.box 44 [.own 6,.val 0,.val 22],.box 64 [.own 7,.own 8],.row 60 45,.row 60 45,.row 3 0,.row 77 38]⟩ (kk13 (z3l φ)) (.ins 3 17 (.seq .x (.seq .x (.seq .x (.seq (.seq .x (.body (.loop ⟨[(99,[(1,.own 0),(2,.own 1),(3,.ptr 2 0),(6,.ptr 3 0),(9,.val 0),(10,.val 0),(22,.own 0),(23,.val 0),(24,.val 0)]),(161,[(1,.own 0),(2,.own 1),(3,.ptr 4 0),(4,.val 0),(5,.ptr 5 0),(6,.val 0)])],[.row 49 29,.row 51 30,.box 36 [.val 26],.box 64 [.own 6,.own 7],.box 44 [.own 8,.val 0,.val 22],.box 44 [.own 9,.val 0,.val 22],.row 3 0,.row 77 38,.row 60 45,.row 60 45]⟩ (fun n=>kk17 (z9v φ n)) (fun zk219=>.x)))) (.seq (.seq .x (.body (.loop ⟨[(99,[(1,.own 0),(2,.own 1),(3,.ptr 2 0),(6,.ptr 3 0),(9,.val 0),(10,.val 0),(45,.own 1),(46,.val 0),(47,.val 0)]),(161,[(1,.own 0),(2,.own 1),(3,.ptr 4 0),(4,.val 0),(5,.ptr 5 0),(6,.val 0)])],[.row 49 29,.row 51 30,.box 36 [.val 26],.box 64 [.own 6,.own 7],.box 44 [.own 8,.val 0,.val 22],.box 44 [.own 9,.val 0,.val 22],.row 3 0,.row 77 38,.row 60 45,.row 60 45]⟩ (fun n=>kk17 (z9r φ n)) (fun zk238=>.x)))) (.seq .x (.seq .x (.seq (.join ⟨[(99,[(6,.ptr 0 0)]),(161,[(1,.own 1),(2,.own 2),(3,.ptr 3 0),(4,.val 0),(5,.ptr 4 0),(6,.val 0)])],[.box 64 [.own 5,.own 6],.row 49 29,.row 51 30,.box 44 [.own 7,.val 0,.val 22],.box 44 [.own 8,.val 0,.val 22],.row 3 0,.row 77 38,.row 60 45,.row 60 45]⟩ (kk12 (z4y φ)) (.seq .x (.body (.rf 17 0 62 (.seq .x (.seq (.seq .x (.body (.loop ⟨[(112,[(0,.own 0),(1,.ptr 1 0),(2,.ptr 2 0),(3,.ptr 3 0),(5,.val 0),(6,.val 0),(22,.own 4),(23,.val 0),(24,.val 0)]),(100,[(6,.ptr 5 0),(99,.own 0)]),(161,[(1,.own 4),(2,.own 6),(3,.ptr 7 0),(4,.val 0),(5,.ptr 8 0),(6,.val 0)])],[.emp,.box 37 [.own 4],.box 38 [.own 6],.box 36 [.val 26],.row 49 29,.box 64 [.own 9,.own 10],.row 51 30,.box 44 [.own 11,.val 0,.val 22],.box 44 [.own 12,.val 0,.val 22],.row 3 0,.row 77 38,.row 60 45,.row 60 45]⟩ (fun n=>kk17 (z9o φ n)) (fun zk270=>(.seq .x (.seq .x (.seq (.body (.seq .x (.seq .x (.body (.loop ⟨[(112,[(0,.own 0),(1,.ptr 1 0),(2,.ptr 2 0),(3,.ptr 3 0),(5,.val 0),(6,.val 0),(7,.val 0),(8,.ptr 4 0),(22,.own 5),(23,.val 0),(24,.val 0),(29,.own 6),(30,.val 0),(31,.val 0)]),(100,[(6,.ptr 7 0),(99,.own 0)]),(161,[(1,.own 5),(2,.own 6),(3,.ptr 8 0),(4,.val 0),(5,.ptr 9 0),(6,.val 0)])],[.emp,.box 37 [.own 5],.box 38 [.own 6],.box 36 [.val 26],.box 49 [.val 29],.row 49 29,.row 51 30,.box 64 [.own 10,.own 11],.box 44 [.own 12,.val 0,.val 22],.box 44 [.own 13,.val 0,.val 22],.row 3 0,.row 77 38,.row 60 45,.row 60 45]⟩ (fun n z=>z6u φ (fun a0 a1 a2 a3 a4 a5 a6 a7 a8 a9 a10 a11 a12 a13 a14 a15 a16=>zk270 (a0,a1,a2,a3,a4,a5,a6,a7,a8,a9,a10,a11,a12,a13,a14,a15,a16,())) n z.1 z.2.1 z.2.2.1 z.2.2.2.1 z.2.2.2.2.1 z.2.2.2.2.2.1 z.2.2.2.2.2.2.1 z.2.2.2.2.2.2.2.1 z.2.2.2.2.2.2.2.2.1 z.2.2.2.2.2.2.2.2.2.1 z.2.2.2.2.2.2.2.2.2.2.1 z.2.2.2.2.2.2.2.2.2.2.2.1 z.2.2.2.2.2.2.2.2.2.2.2.2.1 z.2.2.2.2.2.2.2.2.2.2.2.2.2.1 z.2.2.2.2.2.2.2.2.2.2.2.2.2.2.1 z.2.2.2.2.2.2.2.2.2.2.2.2.2.2.2.1 z.2.2.2.2.2.2.2.2.2.2.2.2.2.2.2.2.1 z.2.2.2.2.2.2.2.2.2.2.2.2.2.2.2.2.2.1 z.2.2.2.2.2.2.2.2.2.2.2.2.2.2.2.2.2.2.1 z.2.2.2.2.2.2.2.2.2.2.2.2.2.2.2.2.2.2.2.1 z.2.2.2.2.2.2.2.2.2.2.2.2.2.2.2.2.2.2.2.2.1) (fun zk292=>(.seq .x (.seq .x (.seq (.body (.seq .x (.seq .x (.seq (.yl 15 17 0 .x .x) .x)))) .x))))))))) .x))))))) (.seq (.seq .x (.body (.loop ⟨[(112,[(0,.own 0),(1,.ptr 1 0),(5,.val 0),(6,.val 0),(63,.own 2),(64,.val 0),(65,.val 0)]),(100,[(6,.ptr 3 0),(99,.own 0)]),(161,[(1,.own 4),(2,.own 2),(3,.ptr 5 0),(4,.val 0),(5,.ptr 6 0),(6,.val 0)])],[.emp,.box 37 [.own 4],.row 51 30,.box 64 [.own 7,.own 8],.row 49 29,.box 44 [.own 9,.val 0,.val 22],.box 44 [.own 10,.val 0,.val 22],.row 3 0,.row 77 38,.row 60 45,.row 60 45]⟩ (fun n=>kk16 (z9y φ n)) (fun zk310=>(.seq .x (.seq .x (.seq (.body (.seq .x (.seq .x (.seq (.yl 11 17 0 .x .x) .x)))) .x))))))) (.seq (.seq .x (.body (.loop ⟨[(112,[(0,.own 0),(5,.val 0),(6,.val 0),(88,.own 1),(89,.val 0),(90,.val 0)]),(100,[(6,.ptr 2 0),(99,.own 0)]),(161,[(1,.own 1),(2,.own 3),(3,.ptr 4 0),(4,.val 0),(5,.ptr 5 0),(6,.val 0)])],[.emp,.row 49 29,.box 64 [.own 6,.own 7],.row 51 30,.box 44 [.own 8,.val 0,.val 22],.box 44 [.own 9,.val 0,.val 22],.row 3 0,.row 77 38,.row 60 45,.row 60 45]⟩ (fun n=>kk16 (z9m φ n)) (fun zk327=>(.seq .x (.seq .x (.seq (.body (.seq .x (.seq (.yl 7 17 0 .x .x) .x))) .x))))))) (.yl 6 17 0 .x .x))))))))) .x)))))))) .x)) (.seq .x (.seq (.join ⟨[(161,[(3,.ptr 0 0),(4,.val 0),(5,.ptr 1 0),(6,.val 0),(7,.ptr 2 0),(8,.val 0),(9,.ptr 3 0),(10,.val 0)])],[.box 44 [.own 4,.val 0,.val 22],.box 44 [.own 5,.val 0,.val 22],.box 64 [.own 6,.own 7],.box 64 [.own 8,.own 9],.row 60 45,.row 60 45,.row 3 0,.row 77 38,.row 3 0,.row 77 38]⟩ (kk14 (z3k φ)) (.ins 3 17 (.seq .x (.seq .x (.seq .x (.seq (.seq .x (.body (.loop ⟨[(99,[(1,.own 0),(2,.own 1),(3,.ptr 2 0),(6,.ptr 3 0),(9,.val 0),(10,.val 0),(22,.own 0),(23,.val 0),(24,.val 0)]),(161,[(3,.ptr 4 0),(4,.val 0),(5,.ptr 5 0),(6,.val 0),(7,.ptr 6 0),(8,.val 0)])],[.row 49 29,.row 51 30,.box 36 [.val 26],.box 64 [.own 7,.own 8],.box 44 [.own 9,.val 0,.val 22],.box 44 [.own 10,.val 0,.val 22],.box 64 [.own 11,.own 12],.row 3 0,.row 77 38,.row 60 45,.row 60 45,.row 3 0,.row 77 38]⟩ (fun n=>kk20 (zb2 φ n)) (fun zk76=>.x)))) (.seq (.seq .x (.body (.loop ⟨[(99,[(1,.own 0),(2,.own 1),(3,.ptr 2 0),(6,.ptr 3 0),(9,.val 0),(10,.val 0),(45,.own 1),(46,.val 0),(47,.val 0)]),(161,[(3,.ptr 4 0),(4,.val 0),(5,.ptr 5 0),(6,.val 0),(7,.ptr 6 0),(8,.val 0)])],[.row 49 29,.row 51 30,.box 36 [.val 26],.box 64 [.own 7,.own 8],.box 44 [.own 9,.val 0,.val 22],.box 44 [.own 10,.val 0,.val 22],.box 64 [.own 11,.own 12],.row 3 0,.row 77 38,.row 60 45,.row 60 45,.row 3 0,.row 77 38]⟩ (fun n=>kk20 (zba φ n)) (fun zk98=>.x)))) (.seq .x (.seq .x (.seq (.join ⟨[(99,[(6,.ptr 0 0)]),(161,[(3,.ptr 1 0),(4,.val 0),(5,.ptr 2 0),(6,.val 0),(7,.ptr 3 0),(8,.val 0)])],[.box 64 [.own 4,.own 5],.box 44 [.own 6,.val 0,.val 22],.box 44 [.own 7,.val 0,.val 22],.box 64 [.own 8,.own 9],.row 3 0,.row 77 38,.row 60 45,.row 60 45,.row 3 0,.row 77 38]⟩ (kk13 (z4q φ)) (.seq .x (.body (.rf 17 0 62 (.seq .x (.seq (.seq .x (.body (.loop ⟨[(112,[(0,.own 0),(1,.ptr 1 0),(2,.ptr 2 0),(3,.ptr 3 0),(5,.val 0),(6,.val 0),(22,.own 4),(23,.val 0),(24,.val 0)]),(100,[(6,.ptr 5 0),(99,.own 0)]),(161,[(3,.ptr 6 0),(4,.val 0),(5,.ptr 7 0),(6,.val 0),(7,.ptr 8 0),(8,.val 0)])],[.emp,.box 37 [.own 4],.box 38 [.own 9],.box 36 [.val 26],.row 49 29,.box 64 [.own 10,.own 11],.box 44 [.own 12,.val 0,.val 22],.box 44 [.own 13,.val 0,.val 22],.box 64 [.own 14,.own 15],.row 51 30,.row 3 0,.row 77 38,.row 60 45,.row 60 45,.row 3 0,.row 77 38]⟩ (fun n=>kk20 (z9t φ n)) (fun zk134=>(.seq .x (.seq .x (.seq (.body (.seq .x (.seq .x (.body (.loop ⟨[(112,[(0,.own 0),(1,.ptr 1 0),(2,.ptr 2 0),(3,.ptr 3 0),(5,.val 0),(6,.val 0),(7,.val 0),(8,.ptr 4 0),(22,.own 5),(23,.val 0),(24,.val 0),(29,.own 6),(30,.val 0),(31,.val 0)]),(100,[(6,.ptr 7 0),(99,.own 0)]),(161,[(3,.ptr 8 0),(4,.val 0),(5,.ptr 9 0),(6,.val 0),(7,.ptr 10 0),(8,.val 0)])],[.emp,.box 37 [.own 5],.box 38 [.own 6],.box 36 [.val 26],.box 49 [.val 29],.row 49 29,.row 51 30,.box 64 [.own 11,.own 12],.box 44 [.own 13,.val 0,.val 22],.box 44 [.own 14,.val 0,.val 22],.box 64 [.own 15,.own 16],.row 3 0,.row 77 38,.row 60 45,.row 60 45,.row 3 0,.row 77 38]⟩ (fun n z=>z6n φ (fun a0 a1 a2 a3 a4 a5 a6 a7 a8 a9 a10 a11 a12 a13 a14 a15 a16 a17 a18 a19=>zk134 (a0,a1,a2,a3,a4,a5,a6,a7,a8,a9,a10,a11,a12,a13,a14,a15,a16,a17,a18,a19,())) n z.1 z.2.1 z.2.2.1 z.2.2.2.1 z.2.2.2.2.1 z.2.2.2.2.2.1 z.2.2.2.2.2.2.1 z.2.2.2.2.2.2.2.1 z.2.2.2.2.2.2.2.2.1 z.2.2.2.2.2.2.2.2.2.1 z.2.2.2.2.2.2.2.2.2.2.1 z.2.2.2.2.2.2.2.2.2.2.2.1 z.2.2.2.2.2.2.2.2.2.2.2.2.1 z.2.2.2.2.2.2.2.2.2.2.2.2.2.1 z.2.2.2.2.2.2.2.2.2.2.2.2.2.2.1 z.2.2.2.2.2.2.2.2.2.2.2.2.2.2.2.1 z.2.2.2.2.2.2.2.2.2.2.2.2.2.2.2.2.1 z.2.2.2.2.2.2.2.2.2.2.2.2.2.2.2.2.2.1 z.2.2.2.2.2.2.2.2.2.2.2.2.2.2.2.2.2.2.1 z.2.2.2.2.2.2.2.2.2.2.2.2.2.2.2.2.2.2.2.1 z.2.2.2.2.2.2.2.2.2.2.2.2.2.2.2.2.2.2.2.2.1 z.2.2.2.2.2.2.2.2.2.2.2.2.2.2.2.2.2.2.2.2.2.1 z.2.2.2.2.2.2.2.2.2.2.2.2.2.2.2.2.2.2.2.2.2.2.1 z.2.2.2.2.2.2.2.2.2.2.2.2.2.2.2.2.2.2.2.2.2.2.2.1) (fun zk159=>(.seq .x (.seq .x (.seq (.body (.seq .x (.seq .x (.seq (.yl 15 17 0 .x .x) .x)))) .x))))))))) .x))))))) (.seq (.seq .x (.body (.loop ⟨[(112,[(0,.own 0),(1,.ptr 1 0),(5,.val 0),(6,.val 0),(63,.own 2),(64,.val 0),(65,.val 0)]),(100,[(6,.ptr 3 0),(99,.own 0)]),(161,[(3,.ptr 4 0),(4,.val 0),(5,.ptr 5 0),(6,.val 0),(7,.ptr 6 0),(8,.val 0)])],[.emp,.box 37 [.own 7],.row 51 30,.box 64 [.own 8,.own 9],.box 44 [.own 10,.val 0,.val 22],.box 44 [.own 11,.val 0,.val 22],.box 64 [.own 12,.own 13],.row 49 29,.row 3 0,.row 77 38,.row 60 45,.row 60 45,.row 3 0,.row 77 38]⟩ (fun n=>kk19 (z8y φ n)) (fun zk180=>(.seq .x (.seq .x (.seq (.body (.seq .x (.seq .x (.seq (.yl 11 17 0 .x .x) .x)))) .x))))))) (.seq (.seq .x (.body (.loop ⟨[(112,[(0,.own 0),(5,.val 0),(6,.val 0),(88,.own 1),(89,.val 0),(90,.val 0)]),(100,[(6,.ptr 2 0),(99,.own 0)]),(161,[(3,.ptr 3 0),(4,.val 0),(5,.ptr 4 0),(6,.val 0),(7,.ptr 5 0),(8,.val 0)])],[.emp,.row 49 29,.box 64 [.own 6,.own 7],.box 44 [.own 8,.val 0,.val 22],.box 44 [.own 9,.val 0,.val 22],.box 64 [.own 10,.own 11],.row 3 0,.row 77 38,.row 60 45,.row 60 45,.row 3 0,.row 77 38]⟩ (fun n=>kk18 (za1 φ n)) (fun zk199=>(.seq .x (.seq .x (.seq (.body (.seq .x (.seq (.yl 7 17 0 .x .x) .x))) .x))))))) (.yl 6 17 0 .x .x))))))))) .x)))))))) .x)) .x))))))))))
def zdy (P:Program) (φ:Nat):Env TV:=⟨P,lk [(24,zbx φ),(25,zaf φ),(36,z40 φ),(37,z4f φ),(38,z56 φ),(43,z55 φ),(18,zak φ),(28,zf4 φ),(26,z87 φ)],lk [],lk [],lk []⟩
theorem zqy (φ:Nat) (a) :(zd4 φ).F a=fnX TV (zdy Try.prog φ) φ Try.f9 [] [.val 27] (zad φ) a:=by kernel_rfl
theorem zpn (φ:Nat):fnO TV (zdy Try.prog φ) φ Try.f9 [.val 27] (zad φ):=by
 unfold fnO
 show obl _ _ _ _ _ _ _ _
 unfold zad
 repeat' (first | exact trivial |(refine⟨?_,?_⟩) |(intro _) | kernel_rfl)
theorem zp6 [Dr] (φ:Nat):z3o TV Try.prog 9 (zd4 φ):=
 z4e (N:=zdy Try.prog φ) (z0o ⟨zol φ,zhs φ,z7c φ,z83 φ,za0 φ,z9b φ,zhx φ,zrt φ,zim φ,trivial⟩ trivial trivial trivial) (zad φ) Try.func9 (by kernel_rfl) (zqy φ) (zpn φ)
def z58 (φ:Nat):H TV (RTup TT [.val 27]):=(.seq .x (.seq .x (.seq (.seq .x (.body (.loop ⟨[(65,[(1,.ptr 0 0),(3,.val 0)])],[.box 36 [.val 26]]⟩ (fun n=>kk2 (z2f φ n)) (fun zk4=>.x)))) .x)))
def z7e (P:Program) (φ:Nat):Env TV:=⟨P,lk [],lk [],lk [],lk []⟩
theorem zgn (φ:Nat) (a) :(z79 φ).F a=fnX TV (z7e Try.prog φ) φ Try.f27 [26] [.val 27] (z58 φ) a:=by kernel_rfl
theorem zgo (φ:Nat):fnO TV (z7e Try.prog φ) φ Try.f27 [.val 27] (z58 φ):=by
 unfold fnO
 show obl _ _ _ _ _ _ _ _
 unfold z58
 repeat' (first | exact trivial |(refine⟨?_,?_⟩) |(intro _) | kernel_rfl)
theorem zgr [Dr] (φ:Nat):z3o TV Try.prog 27 (z79 φ):=
 z4e (N:=z7e Try.prog φ) (z0o trivial trivial trivial trivial) (z58 φ) Try.func27 (by kernel_rfl) (zgn φ) (zgo φ)
def zc7 (φ:Nat):H TV (RTup TT [.val 27]):=.x
def zf5 (P:Program) (φ:Nat):Env TV:=⟨P,lk [(27,z79 φ)],lk [],lk [],lk []⟩
theorem zsv (φ:Nat) (a) :(zf1 φ).F a=fnX TV (zf5 Try.prog φ) φ Try.f10 [26,36,37] [.val 27] (zc7 φ) a:=by kernel_rfl
theorem zrj (φ:Nat):fnO TV (zf5 Try.prog φ) φ Try.f10 [.val 27] (zc7 φ):=by
 unfold fnO
 show obl _ _ _ _ _ _ _ _
 unfold zc7
 repeat' (first | exact trivial |(refine⟨?_,?_⟩) |(intro _) | kernel_rfl)
theorem zs7 [Dr] (φ:Nat):z3o TV Try.prog 10 (zf1 φ):=
 z4e (N:=zf5 Try.prog φ) (z0o ⟨zgr φ,trivial⟩ trivial trivial trivial) (zc7 φ) Try.func10 (by kernel_rfl) (zsv φ) (zrj φ)
end Px
end
section
set_option maxHeartbeats 4000000
set_option maxRecDepth 100000
namespace Px
open Go Go.RowKit Go.Proofs
def z36 (φ:Nat):H TV (RTup TT [.val 27]):=(.seq .x (.seq .x (.seq .x (.seq .x (.seq .x (.seq .x (.seq .x (.seq .x (.seq (.seq .x (.body (.loop ⟨[(169,[(1,.val 36),(2,.val 37),(3,.ptr 0 0),(7,.ptr 1 0),(11,.val 0),(12,.val 0)])],[.box 36 [.val 26],.box 64 [.val 40]]⟩ (fun n=>kk6 (z02 φ n)) (fun zk15=>(.seq .x (.seq (.body (.seq .x (.body (.loop ⟨[(169,[(1,.val 36),(2,.val 37),(3,.ptr 0 0),(7,.ptr 1 0),(11,.val 0),(12,.val 0),(13,.val 0)])],[.box 36 [.val 26],.box 64 [.val 40]]⟩ (fun n z=>zw φ (fun a0 a1 a2 a3 a4 a5=>zk15 (a0,a1,a2,a3,a4,a5,())) n z.1 z.2.1 z.2.2.1 z.2.2.2.1 z.2.2.2.2.1 z.2.2.2.2.2.1 z.2.2.2.2.2.2.1) (fun zk23=>.x))))) .x)))))) .x)))))))))
def z4i (P:Program) (φ:Nat):Env TV:=⟨P,lk [(9,zd4 φ),(10,zf1 φ),(17,zcg φ),(18,zak φ),(19,z7v φ),(20,z7q φ),(21,z5h φ)],lk [],lk [],lk []⟩
theorem zcn (φ:Nat) (a) :(z35 φ).F a=fnX TV (z4i Try.prog φ) φ Try.f5 [26,36,37] [.val 27] (z36 φ) a:=by kernel_rfl
theorem zcu (φ:Nat):fnO TV (z4i Try.prog φ) φ Try.f5 [.val 27] (z36 φ):=by
 unfold fnO
 show obl _ _ _ _ _ _ _ _
 unfold z36
 repeat' (first | exact trivial |(refine⟨?_,?_⟩) |(intro _) | kernel_rfl)
theorem zct [Dr] (φ:Nat):z3o TV Try.prog 5 (z35 φ):=
 z4e (N:=z4i Try.prog φ) (z0o ⟨zp6 φ,zs7 φ,zo7 φ,zhx φ,zd2 φ,zen φ,zbk φ,trivial⟩ trivial trivial trivial) (z36 φ) Try.func5 (by kernel_rfl) (zcn φ) (zcu φ)
end Px
end
section
namespace Px
open Go
theorem zxj {σ ρ:Type} (L:Nat->Int->σ->Option ρ) (len:Nat) (Inv:Nat->σ->Prop) (G:Option ρ->Prop)
  (step:∀ n i s,i<len->Inv i s->(∀ s',Inv (i+1) s'->G (L n ((i:Int)+1) s'))->G (L (n+1) i s))
  (done:∀ n s,Inv len s->G (L (n+1) len s)):∀ n i s,i<=len->Inv i s->len-i<n->G (L n i s):=by
 intro n
 induction n with
 | zero=>intro i s _ _ h; omega
 | succ n ih=>
  intro i s hi hI hn
  by_cases h:i=len
  ·subst h; exact done n s hI
  ·refine step n i s (by omega) hI fun s' hs'=>?_
   have:=ih (i+1) s' (by omega) hs' (by omega)
   simpa using this
theorem z0h {σ ρ:Type} (L:Nat->Int->σ->Option ρ) (len:Nat) (Inv:Nat->σ->Prop) (G:Option ρ->Prop)
  (step:∀ n i s,i<len->Inv i s->(∀ s',Inv (i+1) s'->G (L n ((i:Int)+1) s'))->G (L (n+1) i s))
  (done:∀ n s,Inv len s->G (L (n+1) len s)) (n:Nat) (s:σ) (h:Inv 0 s) (hn:len<n):G (L n 0 s):=by
 simpa using zxj L len Inv G step done n 0 s (w2u _) h (by omega)
theorem yan (x:Int):W x=if x % 18446744073709551616 >= 9223372036854775808 then x % 18446744073709551616-18446744073709551616 else x % 18446744073709551616:=by
 simp [W,IntKind.wrap,IntKind.bits,IntKind.signed]
theorem zzf (x:Int):U x=x % 18446744073709551616:=by
 simp [U,IntKind.wrap,IntKind.bits,IntKind.signed]
theorem W_id {x:Int} (h : -9223372036854775808<=x) (h':x<=9223372036854775807):W x=x:=by
 rw [yan]; split <;> omega
theorem U_id {x:Int} (h:0<=x) (h':x<=18446744073709551615):U x=x:=by
 rw [zzf]; omega
theorem zfn {α:Type} [Inhabited α] (ok:α->Bool) (l:List α) (i:Nat) (h:i<l.length) :(l.take (i+1)).all ok =((l.take i).all ok&&ok (gt l (i:Int))):=by
 rw [w2k h,w42]
 simp [gt,h]
theorem zfg {α:Type} [Inhabited α] (ok:α->Bool) (l:List α) (i:Nat) (h:i<l.length) :(l.take (i+1)).any ok =((l.take i).any ok||ok (gt l (i:Int))):=by
 rw [w2k h,List.any_append]
 simp [gt,h]
theorem z2o {α:Type} [Inhabited α] (l:List α) (i:Nat) (h:i<l.length):l.take (i+1)=l.take i++[gt l (i:Int)]:=by
 rw [w2k h]
 simp [gt,h]
theorem zbc {α:Type} [Inhabited α] {l:List α} {i:Int} (h0:0<=i) (h:i <(l.length:Int)):gt l i∈l:=by
 have hlt:i.toNat<l.length:=by omega
 simp [gt,hlt]
theorem z6g {α:Type} [Inhabited α] {l:List α} {i:Nat} (h:i<l.length):gt l (i:Int)=l[i]:=by
 simp [gt,h]
theorem y6x {α:Type} [Inhabited α] (l:List α) (i:Nat) (h:i<l.length):l.drop i=gt l (i:Int)::l.drop (i+1):=by
 rw [z6g h,List.getElem_cons_drop]
theorem z0r {α:Type} [Inhabited α] (l:List α) (i j:Int) (x:α) (hi:0<=i) (h:i <(l.length:Int)) (hj:0<=j):gt (zr l i x) j=if j=i then x else gt l j:=by
 unfold gt zr
 by_cases e:j=i
 ·subst e
  have:j.toNat<l.length:=by omega
  simp [List.getD,w1l,this]
 ·have:i.toNat≠j.toNat:=by omega
  simp [List.getD,w1l,this,e]
theorem ze0 {α:Type} [Inhabited α] (n:Nat) (x:α) (j:Int) (hj:0<=j) (h:j<n):gt (List.replicate n x) j=x:=by
 have:j.toNat<n:=by omega
 simp [gt,List.getD,w2r,this]
theorem zeu {α:Type} [Inhabited α] (l m:List α) (j:Int) (h0:0<=j) (h:j <(l.length:Int)):gt (l++m) j=gt l j:=by
 have:j.toNat<l.length:=by omega
 simp [gt,List.getD,w1w,this]
theorem zar {α:Type} [Inhabited α] (l m:List α) (j:Int) (h :(l.length:Int)<=j):gt (l++m) j=gt m (j-l.length):=by
 have:¬ j.toNat<l.length:=by omega
 have e :(j-l.length).toNat=j.toNat-l.length:=by omega
 simp [gt,List.getD,w1w,this,e]
theorem zir {α ρ:Type} [Inhabited α] (L:Nat->Int->Int->Option ρ) (k:Int->Option ρ) (l:List α) (ok:α->Bool)
  (step:∀(n i:Nat) (s:Int),i<l.length->L (n+1) i s=L n ((i:Int)+1) (bif ok (gt l i) then s else 1)) (done:∀ n s,L (n+1) l.length s=k s) :
  ∀ n s,l.length<n->L n 0 s=k (bif l.all ok then s else 1):=by
 intro n s hn
 refine zxj L l.length (fun i t=>t=bif (l.take i).all ok then s else 1) (fun o=>o=k (bif l.all ok then s else 1)) ?_ ?_ n 0 s (w2u _) (by simp) (by omega)
 ·intro n i t hi ht hs
  rw [step n i t hi]
  refine hs _ ?_
  rw [zfn ok l i hi,ht]
  cases (l.take i).all ok <;> cases ok (gt l (i:Int)) <;> simp
 ·intro n t ht
  rw [done,ht,w1r]
theorem zya {α ρ:Type} [Inhabited α] (L:Nat->Int->Option ρ) (k:Option ρ) (l:List α) (p:α->Bool) (g:α->Option ρ)
  (step:∀ n i:Nat,i<l.length->L (n+1) i=bif p (gt l i) then g (gt l i) else L n ((i:Int)+1)) (done:∀ n,L (n+1) l.length=k) :
  ∀ n,l.length<n->L n 0=match l.find? p with | some x=>g x | none=>k:=by
 intro n hn
 refine z0h (fun n i (_:Unit)=>L n i) l.length (fun i _=>∀ x∈l.take i,p x=false) (fun o=>o=match l.find? p with | some x=>g x | none=>k) ?_ ?_ n () (by simp) hn
 ·intro n i _ hi hI hs
  simp only [step n i hi]
  cases e:p (gt l (i:Int)) with
  | false=>
   refine hs () ?_
   rw [z2o l i hi]
   intro x hx
   rcases w0l.1 hx with h | h
   ·exact hI x h
   ·simp at h; rw [h]; exact e
  | true=>
   have:l.find? p=some (gt l (i:Int)):=by
    have h1:l=l.take i++(gt l (i:Int)::l.drop (i+1)):=by
     rw [z6g hi,List.getElem_cons_drop,w1x]
    generalize gt l (i:Int)=y at *
    rw [h1,List.find?_append,List.find?_eq_none.2 (fun x hx=>by simp [hI x hx])]
    simp [w43,e]
   rw [this]; rfl
 ·intro n _ hI
  simp only [done]
  rw [w1r] at hI
  rw [List.find?_eq_none.2 (fun x hx=>by simp [hI x hx])]
theorem y45 {α ρ:Type} (l:List α) (p:α->Bool) (r k:ρ) :(match l.find? p with | some _=>r | none=>k)=bif l.any p then r else k:=by
 induction l with
 | nil=>rfl
 | cons x l ih=>
  rw [w43,w3w]
  cases p x
  ·simpa using ih
  ·rfl
theorem ztf {α ρ:Type} [Inhabited α] (L:Nat->Int->Option ρ) (k r:Option ρ) (l:List α) (p:α->Bool)
  (step:∀ n i:Nat,i<l.length->L (n+1) i=bif p (gt l i) then r else L n ((i:Int)+1)) (done:∀ n,L (n+1) l.length=k)
  (n:Nat) (hn:l.length<n):L n 0=bif l.any p then r else k:=by
 rw [zya L k l p (fun _=>r) step done n hn,y45]
def bet (a b c:Int):Bool:=decide (b<=a)&&decide (a<=c)
theorem z7b {a b c:Int} : bet a b c=true↔b<=a/\a<=c:=by simp [bet]
theorem zxd {a b c:Int} (h:bet a b c=true):b<=a/\a<=c:=z7b.1 h
theorem mk_t (n:Int) (b:Nat) (h0:0<=n) (h:n<=100000) (hb:b<=1000000):z8 n b:=by
 refine⟨h0,?_,by omega⟩
 have :(b:Int)*n<=1000000*100000:=Int.mul_le_mul (by omega) h h0 (by omega)
 omega
theorem y89 {x y z:Int} : min2 x y<z↔x<z\/y<z:=by unfold min2; split <;> omega
end Px
end
section
namespace Px
def sumN:Nat->(Nat->Int)->Int
 | 0,_=>0
 | n+1,f=>sumN n f+f n
theorem zt:∀ {n:Nat} {f g:Nat->Int},(∀ i,i<n->f i=g i)->sumN n f=sumN n g
 | 0,_,_,_=>rfl
 | n+1,f,g,h=>by rw [sumN,sumN,zt (n:=n) fun i hi=>h i (by omega),h n (by omega)]
theorem zfp (f g:Nat->Int):∀ n:Nat,sumN n (fun i=>f i+g i)=sumN n f+sumN n g
 | 0=>rfl
 | n+1=>by simp only [sumN,zfp f g n]; omega
theorem zab (f g:Nat->Int):∀ n:Nat,sumN n (fun i=>f i-g i)=sumN n f-sumN n g
 | 0=>rfl
 | n+1=>by simp only [sumN,zab f g n]; omega
theorem znh (c:Int) (f:Nat->Int):∀ n:Nat,sumN n (fun i=>c*f i)=c*sumN n f
 | 0=>by simp [sumN]
 | n+1=>by simp only [sumN,znh c f n,w3c]
theorem zf2:∀ {n:Nat} {f g:Nat->Int},(∀ i,i<n->f i<=g i)->sumN n f<=sumN n g
 | 0,_,_,_=>w1p _
 | n+1,f,g,h=>by
  have h1:=zf2 (n:=n) fun i hi=>h i (by omega)
  have h2:=h n (by omega)
  simp only [sumN]; omega
theorem z4d (n:Nat):sumN n (fun _=>0)=0:=by
 induction n with
 | zero=>rfl
 | succ n ih=>simp only [sumN,ih]; rfl
theorem z52 {n:Nat} {f:Nat->Int} (h:∀ i,i<n->0<=f i):0<=sumN n f:=by
 have:=zf2 (f:=fun _=>0) (g:=f) h
 rw [z4d] at this; exact this
theorem zf6 (f:Nat->Nat->Int):∀ n k:Nat,sumN n (fun i=>sumN k (fun j=>f i j))=sumN k (fun j=>sumN n (fun i=>f i j))
 | 0,k=>(z4d k).symm
 | n+1,k=>by simp only [sumN,zf6 f n k]; rw [<- zfp]
theorem z8q (f:Nat->Int) (v:Nat):∀ k:Nat,sumN k (fun w=>if w=v then f w else 0)=if v<k then f v else 0
 | 0=>rfl
 | k+1=>by
  simp only [sumN,z8q f v k]
  by_cases h:v<k
  ·rw [if_pos h,if_neg (by omega),if_pos (by omega)]; omega
  ·by_cases e:k=v
   ·subst e; rw [if_neg h,if_pos rfl,if_pos (by omega)]; omega
   ·rw [if_neg h,if_neg e,if_neg (by omega)]; rfl
theorem zq7 {k:Nat} (f:Nat->Int) {v:Nat} (h:v<k):sumN k (fun w=>if v=w then f w else 0)=f v:=by
 have:=z8q f v k
 rw [if_pos h] at this
 rw [<- this]
 exact zt fun i _=>by by_cases e:v=i <;> simp [e,eq_comm]
theorem zgs {k:Nat} {f g:Nat->Int} {v:Nat} {d:Int} (hv:v<k) (h:∀ i,i<k->f i<=g i) (hd:f v+d<=g v):sumN k f+d<=sumN k g:=by
 have h1:sumN k (fun i=>f i +(if i=v then(fun _=>d) i else 0))<=sumN k g:=zf2 fun i hi=>by
  by_cases e:i=v
  ·subst e; rw [if_pos rfl]; exact hd
  ·rw [if_neg e]; have:=h i hi; omega
 rw [zfp,z8q,if_pos hv] at h1
 exact h1
structure Nw where
 k:Nat
 m:Nat
 fr:Nat->Nat
 to:Nat->Nat
 cap:Nat->Int
 cost:Nat->Int
structure Nw.Ok (N:Nw):Prop where
 fr:∀ i,i<N.m->N.fr i<N.k
 to:∀ i,i<N.m->N.to i<N.k
 ne:∀ i,i<N.m->N.fr i≠N.to i
def Nw.outS (N:Nw) (x:Nat->Int) (v:Nat):Int:=sumN N.m fun i=>if N.fr i=v then x i else 0
def Nw.inS (N:Nw) (x:Nat->Int) (v:Nat):Int:=sumN N.m fun i=>if N.to i=v then x i else 0
def Nw.exc (N:Nw) (b x:Nat->Int) (v:Nat):Int:=b v-N.outS x v+N.inS x v
structure Nw.Feas (N:Nw) (b x:Nat->Int):Prop where
 bnd:∀ i,i<N.m->0<=x i/\x i<=N.cap i
 exc:∀ v,v<N.k->N.exc b x v=0
theorem zuu (a:Int) (c:Prop) [Decidable c] (b:Int):a *(if c then b else 0)=if c then a*b else 0:=by
 split
 ·rfl
 ·exact Int.mul_zero a
theorem Nw.pot {N:Nw} (h:N.Ok) (p x:Nat->Int):sumN N.k (fun v=>p v *(N.outS x v-N.inS x v))=sumN N.m fun i=>(p (N.fr i)-p (N.to i))*x i:=by
 have h1:sumN N.k (fun v=>p v*N.outS x v)=sumN N.m fun i=>p (N.fr i)*x i:=by
  refine(zt (g:=fun v=>sumN N.m fun i=>if N.fr i=v then p v*x i else 0) fun v hv=>?_).trans ?_
  ·rw [Nw.outS,<- znh]
   exact zt fun i _=>zuu _ _ _
  ·rw [zf6]
   exact zt fun i hi=>zq7 (fun v=>p v*x i) (h.fr i hi)
 have h2:sumN N.k (fun v=>p v*N.inS x v)=sumN N.m fun i=>p (N.to i)*x i:=by
  refine(zt (g:=fun v=>sumN N.m fun i=>if N.to i=v then p v*x i else 0) fun v hv=>?_).trans ?_
  ·rw [Nw.inS,<- znh]
   exact zt fun i _=>zuu _ _ _
  ·rw [zf6]
   exact zt fun i hi=>zq7 (fun v=>p v*x i) (h.to i hi)
 refine(zt (g:=fun v=>p v*N.outS x v-p v*N.inS x v) fun v _=>Int.mul_sub _ _ _).trans ?_
 rw [zab,h1,h2,<- zab]
 exact zt fun i _=>(w52 _ _ _).symm
def Nw.rc (N:Nw) (p:Nat->Int) (i:Nat):Int:=N.cost i+p (N.fr i)-p (N.to i)
def Nw.Tight (N:Nw) (x p:Nat->Int):Prop:=∀ i,i<N.m->(x i<N.cap i->0<=N.rc p i)/\(0<x i->N.rc p i<=0)
structure Nw.Step (N:Nw) (x:Nat->Int) (u w i:Nat) (c r:Int):Prop where
 lt:i<N.m
 way:N.fr i=u/\N.to i=w/\x i<N.cap i/\c=N.cost i/\r=N.cap i-x i\/N.to i=u/\N.fr i=w/\0<x i/\c=- N.cost i/\r=x i
structure Nw.Inv (N:Nw) (b x left p:Nat->Int):Prop where
 bnd:∀ i,i<N.m->0<=x i/\x i<=N.cap i
 exc:∀ v,v<N.k->left v=N.exc b x v
 red:N.Tight x p
 pos:∀ v,v<N.k->0<=b v->0<=left v/\left v<=b v
 neg:∀ v,v<N.k->b v<=0->b v<=left v/\left v<=0
theorem Nw.Inv.step {N:Nw} {b x left p:Nat->Int} (h:N.Inv b x left p) {u w i:Nat} {c r:Int} (hs:N.Step x u w i c r):0<=c+p u-p w/\0<r:=by
 obtain⟨t1,t2⟩:=h.red i hs.lt
 unfold Nw.rc at t1 t2
 rcases hs.way with⟨rfl,rfl,e1,rfl,rfl⟩ |⟨rfl,rfl,e1,rfl,rfl⟩
 ·have:=t1 e1; omega
 ·have:=t2 e1; omega
theorem Nw.cut {N:Nw} (hN:N.Ok) {b x left p y:Nat->Int} (h:N.Inv b x left p) (hy:N.Feas b y) (hb:sumN N.k b=0) (R:Nat->Bool) (src:∀ v,v<N.k->0<left v->R v=true)
  (cl:∀ u w i c r,N.Step x u w i c r->R u=true->R w=true) (hR:∀ v,v<N.k->R v=true->0<=left v):∀ v,v<N.k->left v=0:=by
 let q:Nat->Int:=fun v=>bif R v then 1 else 0
 have e1:=Nw.pot hN q x
 have e2:=Nw.pot hN q y
 have e3:sumN N.k (fun v=>q v*left v) =(sumN N.m fun i=>(q (N.fr i)-q (N.to i))*y i)-sumN N.m fun i=>(q (N.fr i)-q (N.to i))*x i:=by
  rw [<- e1,<- e2,<- zab]
  refine zt fun v hv=>?_
  have h1:=h.exc v hv
  have h2:=hy.exc v hv
  unfold Nw.exc at h1 h2
  rw [h1,<- Int.mul_sub]
  congr 1
  omega
 have e4:sumN N.k (fun v=>q v*left v)<=0:=by
  rw [e3,<- zab]
  have:sumN N.m (fun i=>(q (N.fr i)-q (N.to i))*y i -(q (N.fr i)-q (N.to i))*x i)<=sumN N.m (fun _=>0):=zf2 fun i hi=>by
   have b1:=h.bnd i hi
   have b2:=hy.bnd i hi
   rw [<- Int.mul_sub]
   cases c1:R (N.fr i) <;> cases c2:R (N.to i) <;> simp only [q,c1,c2,cond_true,cond_false]
   ·omega
   ·have:x i=0:=by
     by_cases g:0<x i
     ·have:=cl (N.to i) (N.fr i) i (- N.cost i) (x i) ⟨hi,.inr ⟨rfl,rfl,g,rfl,rfl⟩⟩ c2
      rw [c1] at this; cases this
     ·omega
    omega
   ·have:x i=N.cap i:=by
     by_cases g:x i<N.cap i
     ·have:=cl (N.fr i) (N.to i) i (N.cost i) (N.cap i-x i) ⟨hi,.inl ⟨rfl,rfl,g,rfl,rfl⟩⟩ c1
      rw [c2] at this; cases this
     ·omega
    omega
   ·omega
  rw [z4d] at this; exact this
 have np:∀ v,v<N.k->left v<=0:=by
  intro v hv
  by_cases g:0<left v
  ·have hr:=src v hv g
   have:=zgs (f:=fun _=>0) (g:=fun v=>q v*left v) (d:=left v) hv (fun w hw=>by
    simp only [q]
    cases c:R w
    ·simp
    ·simpa using hR w hw c) (by simp [q,hr])
   rw [z4d] at this
   omega
  ·omega
 have tot:sumN N.k left=0:=by
  have h1:=Nw.pot hN (fun _=>1) x
  have h2:sumN N.m (fun i=>((1:Int)-1)*x i)=0:=by
   rw [<- z4d N.m]; exact zt fun i _=>by simp
  rw [h2] at h1
  rw [<- hb]
  have:sumN N.k left=sumN N.k (fun v=>b v-1 *(N.outS x v-N.inS x v)):=zt fun v hv=>by
   rw [h.exc v hv]; unfold Nw.exc; omega
  rw [this,zab,h1]; omega
 intro v hv
 by_cases g:left v<0
 ·have:=zgs (f:=left) (g:=fun _=>0) (d:=- left v) hv np (by omega)
  rw [z4d,tot] at this
  omega
 ·have:=np v hv; omega
end Px
end
section
namespace Px
open Go
theorem zfi {α σ ρ:Type} [Inhabited α] (L:Nat->Int->σ->Option ρ) (k:σ->Option ρ) (r:Option ρ) (l:List α) (ok:α->Bool) (f:σ->α->σ) (Inv:Nat->σ->Prop)
  (step:∀(n i:Nat) (s:σ),i<l.length->Inv i s->L (n+1) i s =(bif ok (gt l i) then L n ((i:Int)+1) (f s (gt l i)) else r)/\(ok (gt l i)=true->Inv (i+1) (f s (gt l i)))) (done:∀ n s,Inv l.length s->L (n+1) l.length s=k s)
  (n:Nat) (s:σ) (h0:Inv 0 s) (hn:l.length<n):L n 0 s =(bif l.all ok then k (l.foldl f s) else r)/\(l.all ok=true->Inv l.length (l.foldl f s)):=by
 refine z0h L l.length (fun i t=>(l.take i).all ok=true/\t =(l.take i).foldl f s/\Inv i t) (fun o=>o =(bif l.all ok then k (l.foldl f s) else r)/\(l.all ok=true->Inv l.length (l.foldl f s))) ?_ ?_ n s ⟨by simp,by simp,h0⟩ hn
 ·intro n i t hi ⟨ha,ht,hI⟩ hs
  obtain⟨e1,e2⟩:=step n i t hi hI
  rw [e1]
  cases hok:ok (gt l (i:Int)) with
  | true=>
   refine hs _ ⟨by rw [zfn ok l i hi,ha,hok]; rfl,?_,e2 hok⟩
   rw [z2o l i hi,w4m,<- ht]; rfl
  | false=>
   have:l.all ok=false:=by
    rw [List.all_eq_false]
    exact⟨gt l (i:Int),zbc (by omega) (by omega),by rw [hok]; simp⟩
   rw [this]
   exact⟨rfl,fun h=>by cases h⟩
 ·intro n t ⟨ha,ht,hI⟩
  rw [w1r] at ha ht
  subst ht
  rw [ha]
  exact⟨done n _ hI,fun _=>hI⟩
theorem zd8 (φ:Nat) (a b c:Int):z47 φ a b c=some (bet a b c,()):=rfl
def zpp (s:Int):Bool:=bet s (-1000000000) 1000000000
def zlk (k:Int) (a:Arc):Bool:=!((((!bet a.from_ 0 (k-1)||!bet a.to 0 (k-1))||a.from_==a.to)||!bet a.cap 0 1000000000)||!bet a.cost 0 1000000000)
def sumL (l:List Int):Int:=l.foldl (fun s x=>s+x) 0
def zsm (n:zj):Int:=
 bif decide (256<n.supply.length)||decide (2048<n.arcs.length) then 2 else
 bif n.supply.all zpp then(bif n.arcs.all (zlk n.supply.length) then(bif sumL n.supply !=0 then 360 else 0) else 1) else 1
theorem zkr (φ:Nat) (n:zj) (s:Int) (hs:n.supply.length<=256) (ha:n.arcs.length<=2048) (m:Nat) (hm:n.arcs.length<m) :
  z2q φ m s n.arcs (n.arcs.length:Int) 0 n=bif n.arcs.all (zlk n.supply.length) then(if(s:Int) !=0 then some (360,()) else some (0,())) else some (1,()):=by
 have hp:W ((n.supply.length:Int)-1) =(n.supply.length:Int)-1:=W_id (by omega) (by omega)
 have:=zfi (fun m i (_:Unit)=>z2q φ m s n.arcs (n.arcs.length:Int) i n) (fun _=>if(s:Int) !=0 then some (360,()) else some (0,())) (some (1,())) n.arcs (zlk n.supply.length) (fun u _=>u) (fun _ _=>True) ?_ ?_ m () trivial hm
 ·exact this.1
 ·intro m i u hi _
  refine⟨?_,fun _=>trivial⟩
  have hW:W ((i:Int)+1) =(i:Int)+1:=W_id (by omega) (by omega)
  rw [z2q,if_pos (by simp; omega),z6 ⟨by omega,by omega⟩,hp,hW]
  simp only [zd8,w04]
  generalize gt n.arcs (i:Int)=a
  unfold zlk
  cases h1:bet a.from_ 0 ((n.supply.length:Int)-1) <;> cases h2:bet a.to 0 ((n.supply.length:Int)-1) <;> cases h3 :(a.from_==a.to) <;> cases h4:bet a.cap 0 1000000000 <;> cases h5:bet a.cost 0 1000000000 <;> simp [z0q,h1,h2,h3,h4,h5]
 ·intro m u _
  rw [z2q,if_neg (by simp)]
theorem zf7 (φ:Nat) (n:zj) (hφ:5000<φ):z8u φ n=some (zsm n,()):=by
 unfold z8u zsm
 by_cases hl:256<n.supply.length\/2048<n.arcs.length
 ·have e :(decide (256<n.supply.length)||decide (2048<n.arcs.length))=true:=by simpa using hl
  rw [if_pos (by simp; omega),e]; rfl
 ·have e :(decide (256<n.supply.length)||decide (2048<n.arcs.length))=false:=by simpa using hl
  rw [if_neg (by simp; omega),e]
  have hs:n.supply.length<=256:=by omega
  have ha:n.arcs.length<=2048:=by omega
  have:=zfi (fun m i s=>z5b φ m s n.supply (n.supply.length:Int) i n) (fun s=>z2q φ φ s n.arcs (n.arcs.length:Int) 0 n) (some (1,())) n.supply zpp (fun s x=>s+x)
   (fun i s=>-(1000000000 *(i:Int))<=s/\s<=1000000000 *(i:Int)) ?_ ?_ φ 0 ⟨by simp,by simp⟩ (by omega)
  ·rw [this.1]
   simp only [cond_false]
   cases hall:n.supply.all zpp with
   | false=>rfl
   | true=>
    simp only [cond_true]
    rw [zkr φ n _ hs ha φ (by omega)]
    show _=some ((bif n.arcs.all (zlk n.supply.length) then(bif sumL n.supply !=0 then 360 else 0) else 1),())
    unfold sumL
    cases n.arcs.all (zlk n.supply.length) with
    | false=>rfl
    | true=>
     simp only [cond_true]
     cases h :(n.supply.foldl (fun s x=>s+x) 0 !=0) <;> simp
  ·intro m i s hi hI
   have hW:W ((i:Int)+1) =(i:Int)+1:=W_id (by omega) (by omega)
   rw [z5b,if_pos (by simp; omega),z6 ⟨by omega,by omega⟩,hW]
   simp only [zd8,w04]
   generalize gt n.supply (i:Int)=x
   unfold zpp
   cases hb:bet x (-1000000000) 1000000000 with
   | false=>exact⟨by simp,fun h=>by cases h⟩
   | true=>
    obtain⟨b1,b2⟩:=zxd hb
    have hx:W (s+x)=s+x:=W_id (by omega) (by omega)
    refine⟨by simp [hx],fun _=>⟨by push_cast; omega,by push_cast; omega⟩⟩
  ·intro m s _
   rw [z5b,if_neg (by simp)]
end Px
end
section
namespace Px
open Go
def nwOf (n:zj):Nw:=⟨n.supply.length,n.arcs.length,fun i=>(gt n.arcs (i:Int)).from_.toNat,fun i=>(gt n.arcs (i:Int)).to.toNat,fun i=>(gt n.arcs (i:Int)).cap,fun i=>(gt n.arcs (i:Int)).cost⟩
def atN (l:List Int) (v:Nat):Int:=gt l (v:Int)
theorem y2w (l:List Int) (x:Int):sumL (l++[x])=sumL l+x:=by
 unfold sumL; rw [w4m]; rfl
theorem zq5 (l:List Int):∀ i:Nat,i<=l.length->sumL (l.take i)=sumN i (atN l)
 | 0,_=>rfl
 | i+1,h=>by
  rw [z2o l i (by omega),y2w,zq5 l i (by omega)]; rfl
theorem zx0 (l:List Int):sumL l=sumN l.length (atN l):=by
 have:=zq5 l l.length (w18 _)
 rwa [w1r] at this
structure z4z (n:zj):Prop where
 k:n.supply.length<=256
 m:n.arcs.length<=2048
 arc:∀ i:Nat,i<n.arcs.length->0<=(gt n.arcs (i:Int)).from_/\(gt n.arcs (i:Int)).from_ <(n.supply.length:Int)/\0<=(gt n.arcs (i:Int)).to/\(gt n.arcs (i:Int)).to <(n.supply.length:Int)/\
  (gt n.arcs (i:Int)).from_≠(gt n.arcs (i:Int)).to/\0<=(gt n.arcs (i:Int)).cap/\(gt n.arcs (i:Int)).cap<=1000000000/\0<=(gt n.arcs (i:Int)).cost/\(gt n.arcs (i:Int)).cost<=1000000000
 sup:∀ v:Nat,v<n.supply.length->-1000000000<=atN n.supply v/\atN n.supply v<=1000000000
 sum:sumN n.supply.length (atN n.supply)=0
theorem zqu {k:Int} {a:Arc} : zlk k a=true↔(0<=a.from_/\a.from_<k)/\(0<=a.to/\a.to<k)/\a.from_≠a.to/\(0<=a.cap/\a.cap<=1000000000)/\(0<=a.cost/\a.cost<=1000000000):=by
 unfold zlk
 simp only [w0u,w1g,Bool.not_eq_false',z7b,beq_eq_false_iff_ne,ne_eq]
 constructor
 ·rintro⟨⟨⟨⟨h1,h2⟩,h3⟩,h4⟩,h5⟩; exact⟨⟨h1.1,by omega⟩,⟨h2.1,by omega⟩,h3,h4,h5⟩
 ·rintro⟨h1,h2,h3,h4,h5⟩; exact⟨⟨⟨⟨⟨h1.1,by omega⟩,⟨h2.1,by omega⟩⟩,h3⟩,h4⟩,h5⟩
theorem zzd {n:zj} (h:zsm n=0):z4z n:=by
 unfold zsm at h
 cases e :(decide (256<n.supply.length)||decide (2048<n.arcs.length)) with
 | true=>rw [e] at h; simp at h
 | false=>
  rw [e] at h
  simp only [cond_false] at h
  cases e1:n.supply.all zpp with
  | false=>rw [e1] at h; simp at h
  | true=>
   cases e2:n.arcs.all (zlk n.supply.length) with
   | false=>rw [e1,e2] at h; simp at h
   | true=>
    rw [e1,e2] at h
    simp only [cond_true] at h
    simp only [w1g,decide_eq_false_iff_not] at e
    refine⟨by omega,by omega,fun i hi=>?_,fun v hv=>?_,?_⟩
    ·have:=zqu.1 (w0b.1 e2 _ (zbc (i:=(i:Int)) (by omega) (by omega)))
     obtain⟨⟨a1,a2⟩,⟨b1,b2⟩,c,⟨d1,d2⟩,e1,e2⟩:=this
     exact⟨a1,a2,b1,b2,c,d1,d2,e1,e2⟩
    ·exact zxd (w0b.1 e1 _ (zbc (i:=(v:Int)) (by omega) (by omega)))
    ·rw [<- zx0]
     cases e3 :(sumL n.supply !=0) with
     | true=>rw [e3] at h; simp at h
     | false=>simpa using e3
theorem z4z.nw {n:zj} (h:z4z n) :(nwOf n).Ok where
 fr:=fun i hi=>by obtain⟨a,b,_⟩:=h.arc i hi; show (gt n.arcs (i:Int)).from_.toNat<n.supply.length; omega
 to:=fun i hi=>by obtain⟨_,_,a,b,_⟩:=h.arc i hi; show (gt n.arcs (i:Int)).to.toNat<n.supply.length; omega
 ne:=fun i hi=>by obtain⟨a,_,b,_,c,_⟩:=h.arc i hi; show (gt n.arcs (i:Int)).from_.toNat≠(gt n.arcs (i:Int)).to.toNat; omega
theorem ztp {m:Nat} {f:Nat->Int} {B:Int} (h:∀ i,i<m->0<=f i/\f i<=B):0<=sumN m f/\sumN m f<=B*m:=by
 refine⟨z52 fun i hi=>(h i hi).1,?_⟩
 induction m with
 | zero=>simp [sumN]
 | succ m ih=>
  have:=ih fun i hi=>h i (by omega)
  have h2:=(h m (by omega)).2
  simp only [sumN]
  push_cast
  rw [w3c,Int.mul_one]
  omega
end Px
end
section
namespace Px
structure Nw.Found (N:Nw) (x left p:Nat->Int) (R:Nat->Bool) (d f a r:Nat->Int) (o:Nat->Nat):Prop where
 d0:∀ v,v<N.k->R v=true->0<=d v
 src:∀ v,v<N.k->0<left v->R v=true/\d v=0
 cl:∀ u w i c r,N.Step x u w i c r->R u=true->R w=true/\d w<=d u +(c+p u-p w)
 ord:∀ v,v<N.k->R v=true->o v<N.k
 tr:∀ v,v<N.k->R v=true->f v<0/\0<left v\/∃(u:Nat) (c:Int),f v =(u:Int)/\u<N.k/\R u=true/\o u<o v/\0<=a v/\N.Step x u v (a v).toNat c (r v)/\d v=d u +(c+p u-p v)
structure NewP (k:Nat) (p:Nat->Int) (R:Nat->Bool) (d:Nat->Int) (z:Int) (q:Nat->Int):Prop where
 z0:0<=z
 zmax:∀ v,v<k->R v=true->d v<=z
 zat:z=0\/∃ v,v<k/\R v=true/\d v=z
 new:∀ v,v<k->q v=p v+bif R v then d v else z
structure Nw.Pb (N:Nw) (C:Int) (left p:Nat->Int):Prop where
 p0:∀ v,v<N.k->0<=p v
 src:∀ v,v<N.k->0<left v->p v=0
 top:∀ v,v<N.k->p v<=N.k*C+sumN N.k fun w=>min (p w) (N.k*C)
section
variable {N:Nw} {b x left p:Nat->Int} {R:Nat->Bool} {d f a r:Nat->Int} {o:Nat->Nat} {z:Int} {q:Nat->Int}
theorem Nw.Found.tight (h:N.Found x left p R d f a r o) (hq:NewP N.k p R d z q) {u v:Nat} {c:Int} (hu:u<N.k) (hv:v<N.k) (ru:R u=true) (rv:R v=true) (e:d v=d u +(c+p u-p v)):q v=q u+c:=by
 rw [hq.new u hu,hq.new v hv,ru,rv]
 simp only [cond_true]
 omega
theorem Nw.Found.red (hN:N.Ok) (hI:N.Tight x p) (h:N.Found x left p R d f a r o) (hq:NewP N.k p R d z q):N.Tight x q:=by
 have key:∀ u w i c r,N.Step x u w i c r->0<=c+p u-p w->u<N.k->w<N.k->0<=c+q u-q w:=by
  intro u w i c r hs h0 hu hw
  rw [hq.new u hu,hq.new w hw]
  cases ru:R u with
  | true=>
   obtain⟨rw',hd⟩:=h.cl u w i c r hs ru
   rw [rw']; simp only [cond_true]; omega
  | false=>
   cases rw':R w with
   | true=>have:=hq.zmax w hw rw'; simp only [cond_true,cond_false]; omega
   | false=>simp only [cond_false]; omega
 intro i hi
 obtain⟨t1,t2⟩:=hI i hi
 have hf:=hN.fr i hi
 have ht:=hN.to i hi
 unfold Nw.rc at *
 refine⟨fun g=>?_,fun g=>?_⟩
 ·exact key _ _ i _ _ ⟨hi,.inl ⟨rfl,rfl,g,rfl,rfl⟩⟩ (t1 g) hf ht
 ·have:=key _ _ i _ _ ⟨hi,.inr ⟨rfl,rfl,g,rfl,rfl⟩⟩ (by have:=t2 g; omega) ht hf
  omega
theorem Nw.Found.le_o (hN:N.Ok) {C:Int} (hC:∀ i,i<N.m->0<=N.cost i/\N.cost i<=C) (hC0:0<=C) (h:N.Found x left p R d f a r o) (hb:N.Pb C left p) (hq:NewP N.k p R d z q):∀ n v,o v<n->v<N.k->R v=true->q v<=o v*C:=by
 intro n
 induction n with
 | zero=>intro v h0; omega
 | succ n ih=>
  intro v hn hv rv
  rcases h.tr v hv rv with⟨_,g⟩ |⟨u,c,_,hu,ru,ho,_,hs,e⟩
  ·have hd:=(h.src v hv g).2
   rw [hq.new v hv,rv,cond_true,hd,hb.src v hv g]
   exact w2d (by omega) hC0
  ·have e1:=h.tight hq hu hv ru rv e
   have e2:=ih u (by omega) hu ru
   have e3:c<=C:=by
    have:=hC _ hs.lt
    rcases hs.way with⟨_,_,_,rfl,_⟩ |⟨_,_,_,rfl,_⟩ <;> omega
   have e4 :((o u:Int)+1)*C<=(o v:Int)*C:=w21 (by omega) hC0
   rw [w2v] at e4
   omega
theorem Nw.Found.pb (hN:N.Ok) {C:Int} (hC:∀ i,i<N.m->0<=N.cost i/\N.cost i<=C) (hC0:0<=C) (h:N.Found x left p R d f a r o) (hb:N.Pb C left p) (hq:NewP N.k p R d z q):N.Pb C left q:=by
 have up:∀ v,v<N.k->p v<=q v:=fun v hv=>by
  rw [hq.new v hv]
  cases rv:R v with
  | true=>have:=h.d0 v hv rv; simp only [cond_true]; omega
  | false=>have:=hq.z0; simp only [cond_false]; omega
 have lim:∀ v,v<N.k->R v=true->q v<=N.k*C:=fun v hv rv=>by
  have h1:=h.le_o hN hC hC0 hb hq _ v (w2t _) hv rv
  have h2:=h.ord v hv rv
  have h3 :(o v:Int)*C<=(N.k:Int)*C:=w21 (by omega) hC0
  omega
 have mono:∀ i,i<N.k->min (p i) (N.k*C)<=min (q i) (N.k*C):=fun i hi=>by have:=up i hi; omega
 have grow :(sumN N.k fun w=>min (p w) (N.k*C))+z<=sumN N.k fun w=>min (q w) (N.k*C):=by
  rcases hq.zat with e |⟨v,hv,rv,e⟩
  ·rw [e]; have:=zf2 mono; omega
  ·refine zgs hv mono ?_
   have h1:=lim v hv rv
   have h2:=up v hv
   have h3:=hq.new v hv
   rw [rv,cond_true] at h3
   show min (p v) (N.k*C)+z<=min (q v) (N.k*C)
   omega
 refine⟨fun v hv=>by have:=hb.p0 v hv; have:=up v hv; omega,fun v hv g=>?_,fun v hv=>?_⟩
 ·obtain⟨h1,h2⟩:=h.src v hv g
  rw [hq.new v hv,h1,cond_true,h2,hb.src v hv g]; rfl
 ·cases rv:R v with
  | true=>
   have h1:=lim v hv rv
   have h2:0<=sumN N.k fun w=>min (q w) (N.k*C):=z52 fun w hw=>by
    have h3:=hb.p0 w hw
    have h4:=up w hw
    have h5:0<=(N.k:Int)*C:=w2d (by omega) hC0
    show 0<=min (q w) (N.k*C)
    omega
   omega
  | false=>
   have h1:=hq.new v hv
   rw [rv,cond_false] at h1
   have h2:=hb.top v hv
   omega
end
def amtP (f r:Nat->Int):Nat->Nat->Int->Int×Nat
 | 0,v,n=>(n,v)
 | m+1,v,n=>if 0<=f v then amtP f r m (f v).toNat (min n (r v)) else(n,v)
def setF (x:Nat->Int) (i:Nat) (y:Int):Nat->Int:=fun j=>if j=i then y else x j
def augP (N:Nw) (f a:Nat->Int) (n:Int):Nat->Nat->(Nat->Int)->Nat->Int
 | 0,_,x=>x
 | m+1,v,x=>if 0<=f v then augP N f a n m (f v).toNat (setF x (a v).toNat (if N.to (a v).toNat=v/\N.fr (a v).toNat =(f v).toNat then x (a v).toNat+n else x (a v).toNat-n)) else x
section
variable {N:Nw} {b x left p:Nat->Int} {R:Nat->Bool} {d f a r:Nat->Int} {o:Nat->Nat} {z:Int} {q:Nat->Int}
theorem zqz (N:Nat) (e:Nat->Nat) (x:Nat->Int) (i:Nat) (y:Int) (v:Nat) (hi:i<N) :(sumN N fun j=>if e j=v then setF x i y j else 0) =(sumN N fun j=>if e j=v then x j else 0)+if e i=v then y-x i else 0:=by
 have h:=z8q (fun j=>if e j=v then y-x j else 0) i N
 rw [if_pos hi] at h
 rw [<- h,<- zfp]
 refine zt fun j _=>?_
 unfold setF
 by_cases c:j=i
 ·subst c; simp only [if_true]
  split <;> omega
 ·simp only [if_neg c]; omega
theorem Nw.exc_setF (N:Nw) (b x:Nat->Int) (i:Nat) (y:Int) (v:Nat) (hi:i<N.m):N.exc b (setF x i y) v=N.exc b x v -(if N.fr i=v then y-x i else 0) +(if N.to i=v then y-x i else 0):=by
 unfold Nw.exc Nw.outS Nw.inS
 rw [zqz N.m N.fr x i y v hi,zqz N.m N.to x i y v hi]
 omega
theorem zrk (f r:Nat->Int):∀(m v:Nat) (n:Int),(amtP f r m v n).1<=n
 | 0,_,n=>w1p _
 | m+1,v,n=>by
  unfold amtP
  split
  ·have:=zrk f r m (f v).toNat (min n (r v)); omega
  ·exact w1p _
theorem Nw.Found.amt (hI:N.Tight x p) (h:N.Found x left p R d f a r o):∀(m v:Nat) (n:Int),o v<m->v<N.k->R v=true->1<=n->
  1<=(amtP f r m v n).1/\(amtP f r m v n).2<N.k/\R (amtP f r m v n).2=true/\0<left (amtP f r m v n).2
 | 0,v,n,h0,_,_,_=>by omega
 | m+1,v,n,h0,hv,rv,hn=>by
  unfold amtP
  rcases h.tr v hv rv with⟨g1,g2⟩ |⟨u,c,e,hu,ru,ho,_,hs,_⟩
  ·rw [if_neg (by omega)]; exact⟨hn,hv,rv,g2⟩
  ·rw [if_pos (by omega),e]
   have hr:0<r v:=by rcases hs.way with⟨_,_,g,_,e⟩ |⟨_,_,g,_,e⟩ <;> omega
   exact h.amt hI m u _ (by omega) hu ru (by omega)
theorem Nw.Found.aug (hN:N.Ok) (h:N.Found x left p R d f a r o) (hq:NewP N.k p R d z q) {n:Int} {e:Nat} (hn:0<=n):∀(m v:Nat) (n':Int) (y:Nat->Int),o v<m->v<N.k->R v=true->n<=(amtP f r m v n').1->
  (∀ i,i<N.m->0<=y i/\y i<=N.cap i)->N.Tight y q->(∀ w,w<N.k->R w=true->0<=f w->o w<=o v->y (a w).toNat=x (a w).toNat)->
  (∀ w,w<N.k->N.exc b y w=left w +(if w=e then n else 0) -(if w=v then n else 0))->
  (∀ i,i<N.m->0<=augP N f a n m v y i/\augP N f a n m v y i<=N.cap i)/\N.Tight (augP N f a n m v y) q/\
   ∀ w,w<N.k->N.exc b (augP N f a n m v y) w=left w +(if w=e then n else 0) -(if w =(amtP f r m v n').2 then n else 0)
 | 0,v,n',y,h0,_,_,_,_,_,_,_=>by omega
 | m+1,v,n',y,h0,hv,rv,hle,hb,ht,hsame,hexc=>by
  unfold augP amtP
  unfold amtP at hle
  rcases h.tr v hv rv with⟨g1,g2⟩ |⟨u,c,ef,hu,ru,ho,ha,hs,ed⟩
  ·rw [if_neg (by omega),if_neg (by omega)]
   exact⟨hb,ht,hexc⟩
  ·have hf:0<=f v:=by omega
   rw [if_pos hf] at hle
   rw [if_pos hf,if_pos hf]
   have efn :(f v).toNat=u:=by omega
   rw [efn] at hle ⊢
   have hnr:n<=r v:=by have:=zrk f r m u (min n' (r v)); omega
   have hx:=hsame v hv rv hf (w18 _)
   have hlt:=hs.lt
   have htq:=h.tight hq hu hv ru rv ed
   have huv:u≠v:=fun e=>by rw [e] at ho; omega
   have hrc:N.rc q (a v).toNat=0:=by
    unfold Nw.rc
    rcases hs.way with⟨w1,w2,_,w4,_⟩ |⟨w1,w2,_,w4,_⟩ <;> rw [w1,w2] <;> omega
   have hbi:=hb _ hlt
   generalize hi :(a v).toNat=i at *
   generalize hy :(if N.to i=v/\N.fr i=u then y i+n else y i-n)=y'
   have hy':0<=y'/\y'<=N.cap i:=by
    rw [<- hy]
    rcases hs.way with⟨w1,w2,_,_,w5⟩ |⟨w1,w2,_,_,w5⟩
    ·rw [if_pos ⟨w2,w1⟩]; omega
    ·rw [if_neg (fun g=>huv (by rw [<- w1]; exact g.1))]; omega
   refine h.aug hN hq hn m u (min n' (r v)) (setF y i y') (by omega) hu ru hle ?_ ?_ ?_ ?_
   ·intro j hj
    unfold setF
    split
    ·rename_i g; rw [g]; exact hy'
    ·exact hb j hj
   ·intro j hj
    by_cases g:j=i
    ·subst g; rw [hrc]; exact⟨fun _=>w1p _,fun _=>w1p _⟩
    ·unfold setF; simp only [if_neg g]; exact ht j hj
   ·intro w hw rw' fw ow
    have hne :(a w).toNat≠i:=by
     intro g
     rcases h.tr w hw rw' with⟨g1,_⟩ |⟨u',c',ef',_,_,ho',_,hs',_⟩
     ·omega
     ·rw [g] at hs'
      have hwv:w≠v:=fun e=>by rw [e] at ow; omega
      rcases hs.way with⟨w1,w2,_⟩ |⟨w1,w2,_⟩ <;> rcases hs'.way with⟨v1,v2,_⟩ |⟨v1,v2,_⟩
      ·exact hwv (by rw [<- v2,w2])
      ·have:u'=v:=by rw [<- v1,w2]
       rw [this] at ho'; omega
      ·have:u'=v:=by rw [<- v1,w2]
       rw [this] at ho'; omega
      ·exact hwv (by rw [<- v2,w2])
    unfold setF
    rw [if_neg hne]
    exact hsame w hw rw' fw (by omega)
   ·intro w hw
    rw [Nw.exc_setF N b y i y' w hlt,hexc w hw,<- hy]
    rcases hs.way with⟨w1,w2,_⟩ |⟨w1,w2,_⟩
    ·have hcd:N.to i=v/\N.fr i=u:=⟨w2,w1⟩
     rw [if_pos hcd,w1,w2]
     by_cases c1:w=v
     ·have c2:¬(w=u):=fun g=>huv (by rw [<- g,c1])
      rw [if_pos c1,if_neg c2,if_pos c1.symm,if_neg (fun g:u=w=>c2 g.symm)]; omega
     ·rw [if_neg c1,if_neg (fun g:v=w=>c1 g.symm)]
      by_cases c2:w=u
      ·rw [if_pos c2,if_pos c2.symm]; omega
      ·rw [if_neg c2,if_neg (fun g:u=w=>c2 g.symm)]; omega
    ·have hcd:¬(N.to i=v/\N.fr i=u):=fun g=>huv (by rw [<- w1]; exact g.1)
     rw [if_neg hcd,w1,w2]
     by_cases c1:w=v
     ·have c2:¬(w=u):=fun g=>huv (by rw [<- g,c1])
      rw [if_pos c1,if_neg c2,if_pos c1.symm,if_neg (fun g:u=w=>c2 g.symm)]; omega
     ·rw [if_neg c1,if_neg (fun g:v=w=>c1 g.symm)]
      by_cases c2:w=u
      ·rw [if_pos c2,if_pos c2.symm]; omega
      ·rw [if_neg c2,if_neg (fun g:u=w=>c2 g.symm)]; omega
def zqd (left:Nat->Int) (e s:Nat) (n:Int):Nat->Int:=fun v=>left v +(if v=e then n else 0) -(if v=s then n else 0)
theorem Nw.Found.round (hN:N.Ok) (hI:N.Inv b x left p) (h:N.Found x left p R d f a r o) (hq:NewP N.k p R d z q) {m e:Nat} (he:e<N.k) (re:R e=true) (le:left e<0) (hm:o e<m) {n:Int} {s:Nat}
  (hn:n=min (amtP f r m e (- left e)).1 (left s)) (hs:s =(amtP f r m e (- left e)).2) :
  1<=n/\s<N.k/\R s=true/\0<left s/\e≠s/\N.Inv b (augP N f a n m e x) (zqd left e s n) q/\n<=left s/\n<=- left e:=by
 obtain⟨a1,a2,a3,a4⟩:=h.amt hI.red m e (- left e) hm he re (by omega)
 rw [<- hs] at a2 a3 a4
 have hle:=zrk f r m e (- left e)
 have hes:e≠s:=fun g=>by rw [<- g] at a4; omega
 obtain⟨b1,b2,b3⟩:=h.aug (b:=b) (e:=e) hN hq (n:=n) (by omega) m e (- left e) x hm he re (by omega) hI.bnd (h.red hN hI.red hq) (fun _ _ _ _ _=>rfl) (fun w hw=>by rw [<- hI.exc w hw]; omega)
 rw [<- hs] at b3
 refine⟨by omega,a2,a3,a4,hes,⟨b1,fun v hv=>(b3 v hv).symm,b2,fun v hv g=>?_,fun v hv g=>?_⟩,by omega,by omega⟩
 ·have h1:=hI.pos v hv g
  have h2:=hI.neg v hv
  unfold zqd
  by_cases c1:v=e
  ·subst c1
   omega
  ·rw [if_neg c1]
   by_cases c2:v=s
   ·subst c2; rw [if_pos rfl]; omega
   ·rw [if_neg c2]; omega
 ·have h1:=hI.neg v hv g
  have h2:=hI.pos v hv
  unfold zqd
  by_cases c2:v=s
  ·subst c2; omega
  ·rw [if_neg c2]
   by_cases c1:v=e
   ·subst c1; rw [if_pos rfl]; omega
   ·rw [if_neg c1]; omega
end
end Px
end
section
namespace Px
abbrev farC:Int:=1152921504606846976
def setQ (D:Nat->Bool) (v:Nat):Nat->Bool:=fun w=>if w=v then true else D w
def setN (o:Nat->Nat) (v n:Nat):Nat->Nat:=fun w=>if w=v then n else o w
structure Nw.Srch (N:Nw) (x left p:Nat->Int) (B:Int) (n:Nat) (D:Nat->Bool) (Q:Nat->Nat->Prop) (d f a r:Nat->Int) (o:Nat->Nat):Prop where
 cnt:sumN N.k (fun v=>bif D v then 1 else 0)=n
 od:∀ v,v<N.k->D v=true->o v<n
 d0:∀ v,v<N.k->0<=d v
 lim:∀ v,v<N.k->d v<farC->d v<=n*B
 src:∀ v,v<N.k->0<left v->d v=0
 qd:∀ u i,Q u i->D u=true
 cl:∀ u w i c r,N.Step x u w i c r->Q u i->d w<farC/\d w<=d u +(c+p u-p w)
 le:∀ u w,u<N.k->w<N.k->D u=true->D w=false->d u<=d w
 dr:∀ u,u<N.k->D u=true->d u<farC
 tr:∀ v,v<N.k->d v<farC->f v<0/\0<left v\/∃(u:Nat) (c:Int),f v =(u:Int)/\u<N.k/\D u=true/\(D v=true->o u<o v)/\0<=a v/\N.Step x u v (a v).toNat c (r v)/\d v=d u +(c+p u-p v)
section
variable {N:Nw} {x left p:Nat->Int} {B:Int} {n:Nat} {D:Nat->Bool} {Q:Nat->Nat->Prop} {d f a r:Nat->Int} {o:Nat->Nat}
theorem Nw.Srch.start (hB:0<=B) (hd:∀ v,v<N.k->d v=if 0<left v then 0 else farC) (hf:∀ v,v<N.k->f v=-1):N.Srch x left p B 0 (fun _=>false) (fun _ _=>False) d f a r o where
 cnt:=z4d N.k
 od:=fun v _ h=>by cases h
 d0:=fun v hv=>by rw [hd v hv]; split <;> simp [farC]
 lim:=fun v hv h=>by rw [hd v hv] at h ⊢; split at h <;> simp_all
 src:=fun v hv h=>by rw [hd v hv,if_pos h]
 qd:=fun u i h=>h.elim
 cl:=fun u w i c r _ h=>h.elim
 le:=fun u w _ _ h=>by cases h
 dr:=fun u _ h=>by cases h
 tr:=fun v hv h=>.inl ⟨by rw [hf v hv]; omega,by
  rw [hd v hv] at h
  split at h
  ·assumption
  ·omega⟩
theorem Nw.Srch.n_lt (h:N.Srch x left p B n D Q d f a r o) {v:Nat} (hv:v<N.k) (hD:D v=false):n<N.k:=by
 have h1:=zgs (f:=fun v=>bif D v then 1 else 0) (g:=fun _=>1) (d:=1) hv (fun i _=>by cases D i <;> simp) (by simp [hD])
 rw [h.cnt] at h1
 have:sumN N.k (fun _=>1)=N.k:=by
  generalize N.k=k
  induction k with
  | zero=>rfl
  | succ k ih=>simp only [sumN,ih]; omega
 omega
theorem Nw.Srch.n_le (h:N.Srch x left p B n D Q d f a r o):n<=N.k:=by
 have h1:=zf2 (n:=N.k) (f:=fun v=>bif D v then 1 else 0) (g:=fun _=>1) (fun i _=>by cases D i <;> simp)
 rw [h.cnt] at h1
 have:sumN N.k (fun _=>1)=N.k:=by
  generalize N.k=k
  induction k with
  | zero=>rfl
  | succ k ih=>simp only [sumN,ih]; omega
 omega
theorem Nw.Srch.mark (hB:0<=B) (h:N.Srch x left p B n D Q d f a r o) {v:Nat} (hv:v<N.k) (hD:D v=false) (hf:d v<farC) (hm:∀ w,w<N.k->D w=false->d v<=d w) :
  N.Srch x left p B (n+1) (setQ D v) Q d f a r (setN o v n) where
 cnt:=by
  have h1:=z8q (fun _=>1) v N.k
  rw [if_pos hv] at h1
  rw [show ((n+1:Nat):Int) =(n:Int)+1 by omega,<- h.cnt,<- h1,<- zfp]
  refine zt fun w _=>?_
  unfold setQ
  by_cases e:w=v
  ·subst e; simp [hD,h1]
  ·simp [e]
 od:=fun w hw g=>by
  unfold setQ at g; unfold setN
  by_cases e:w=v
  ·rw [if_pos e]; omega
  ·rw [if_neg e] at g ⊢; have:=h.od w hw g; omega
 d0:=h.d0
 lim:=fun w hw g=>by
  have:=h.lim w hw g
  rw [show ((n+1:Nat):Int) =(n:Int)+1 by omega,w2v]; omega
 src:=h.src
 qd:=fun u i g=>by unfold setQ; split <;> simp [h.qd u i g]
 cl:=h.cl
 le:=fun u w hu hw g1 g2=>by
  unfold setQ at g1 g2
  by_cases e2:w=v
  ·rw [if_pos e2] at g2; cases g2
  ·rw [if_neg e2] at g2
   by_cases e1:u=v
   ·subst e1; exact hm w hw g2
   ·rw [if_neg e1] at g1; exact h.le u w hu hw g1 g2
 dr:=fun u hu g=>by
  unfold setQ at g
  by_cases e1:u=v
  ·subst e1; exact hf
  ·rw [if_neg e1] at g; exact h.dr u hu g
 tr:=fun w hw g=>by
  rcases h.tr w hw g with h1 |⟨u,c,e1,e2,e3,e4,e5⟩
  ·exact .inl h1
  ·refine .inr ⟨u,c,e1,e2,by unfold setQ; split <;> simp [e3],fun g2=>?_,e5⟩
   have huv:u≠v:=fun e=>by rw [e,hD] at e3; cases e3
   unfold setQ at g2; unfold setN
   rw [if_neg huv]
   by_cases e:w=v
   ·rw [if_pos e]; exact h.od u e2 e3
   ·rw [if_neg e] at g2 ⊢; exact e4 g2
def addQ (Q:Nat->Nat->Prop) (v i:Nat):Nat->Nat->Prop:=fun u j=>Q u j\/(u=v/\j=i)
theorem Nw.Step.uniq (hN:N.Ok) {u w w' i:Nat} {c c' r r':Int} (h:N.Step x u w i c r) (h':N.Step x u w' i c' r'):w'=w/\c'=c/\r'=r:=by
 have hne:=hN.ne i h.lt
 rcases h.way with⟨a1,a2,a3,a4,a5⟩ |⟨a1,a2,a3,a4,a5⟩ <;> rcases h'.way with⟨b1,b2,b3,b4,b5⟩ |⟨b1,b2,b3,b4,b5⟩
 ·exact⟨by omega,by omega,by omega⟩
 ·exact absurd (a1.trans b1.symm) hne
 ·exact absurd (b1.trans a1.symm) hne
 ·exact⟨by omega,by omega,by omega⟩
theorem Nw.Srch.pass (hN:N.Ok) (h:N.Srch x left p B n D Q d f a r o) {v w i:Nat} {c m:Int} (hD:D v=true) (hs:N.Step x v w i c m) (hd:d v +(c+p v-p w)<farC) (hn:¬ d v +(c+p v-p w)<d w) :
  N.Srch x left p B n D (addQ Q v i) d f a r o:=
 { h with
  qd:=fun u j g=>by rcases g with g |⟨rfl,rfl⟩ <;> first | exact h.qd u j g | exact hD
  cl:=fun u w' j c' r' g1 g2=>by
   rcases g2 with g2 |⟨rfl,rfl⟩
   ·exact h.cl u w' j c' r' g1 g2
   ·obtain⟨rfl,rfl,rfl⟩:=Nw.Step.uniq hN hs g1
    omega }
theorem Nw.Srch.skip (h:N.Srch x left p B n D Q d f a r o) {v i:Nat} (hD:D v=true) (hs:∀ w c m,¬ N.Step x v w i c m):N.Srch x left p B n D (addQ Q v i) d f a r o:=
 { h with
  qd:=fun u j g=>by rcases g with g |⟨rfl,rfl⟩ <;> first | exact h.qd u j g | exact hD
  cl:=fun u w' j c' r' g1 g2=>by
   rcases g2 with g2 |⟨rfl,rfl⟩
   ·exact h.cl u w' j c' r' g1 g2
   ·exact absurd g1 (hs _ _ _) }
theorem Nw.Srch.relax (hN:N.Ok) (h:N.Srch x left p B n D Q d f a r o) {v w i:Nat} {c m:Int} (hv:v<N.k) (hw:w<N.k) (hD:D v=true) (htop:∀ u,u<N.k->D u=true->d u<=d v) (hs:N.Step x v w i c m) (h0:0<=c+p v-p w)
  (hl:d v +(c+p v-p w)<=n*B) (hd:d v +(c+p v-p w)<farC) (hn:d v +(c+p v-p w)<d w) :
  D w=false/\N.Srch x left p B n D (addQ Q v i) (setF d w (d v +(c+p v-p w))) (setF f w v) (setF a w i) (setF r w m) o:=by
 have hDw:D w=false:=by
  cases e:D w with
  | false=>rfl
  | true=>have:=htop w hw e; omega
 have hvw:v≠w:=fun e=>by rw [e,hDw] at hD; cases hD
 have hdu:∀ u,D u=true->setF d w (d v +(c+p v-p w)) u=d u:=fun u g=>by
  unfold setF
  rw [if_neg (fun e=>by rw [e,hDw] at g; cases g)]
 have hdl:∀ u,setF d w (d v +(c+p v-p w)) u<=d u:=fun u=>by
  unfold setF
  split
  ·rename_i e; subst e; omega
  ·exact w1p _
 refine⟨hDw,?_⟩
 exact
 {cnt:=h.cnt
  od:=h.od
  d0:=fun u hu=>by
   unfold setF
   split
   ·have:=h.d0 v hv; omega
   ·exact h.d0 u hu
  lim:=fun u hu g=>by
   unfold setF at g ⊢
   split
   ·exact hl
   ·rename_i e; rw [if_neg e] at g; exact h.lim u hu g
  src:=fun u hu g=>by
   have h1:=h.src u hu g
   unfold setF
   split
   ·rename_i e; subst e; have:=h.d0 v hv; omega
   ·exact h1
  qd:=fun u j g=>by rcases g with g |⟨rfl,rfl⟩ <;> first | exact h.qd u j g | exact hD
  cl:=fun u w' j c' r' g1 g2=>by
   rcases g2 with g2 |⟨rfl,rfl⟩
   ·obtain⟨h1,h2⟩:=h.cl u w' j c' r' g1 g2
    have h3:=hdl w'
    rw [hdu u (h.qd u j g2)]
    omega
   ·obtain⟨rfl,rfl,rfl⟩:=Nw.Step.uniq hN hs g1
    rw [hdu u hD]
    unfold setF
    rw [if_pos rfl]
    omega
  le:=fun u w' hu hw' g1 g2=>by
   rw [hdu u g1]
   unfold setF
   split
   ·have:=htop u hu g1; omega
   ·exact h.le u w' hu hw' g1 g2
  dr:=fun u hu g=>by rw [hdu u g]; exact h.dr u hu g
  tr:=fun u hu g=>by
   by_cases e:u=w
   ·subst e
    refine .inr ⟨v,c,by simp [setF],hv,hD,fun g2=>(by rw [hDw] at g2; cases g2),by simp [setF],by simpa [setF] using hs,?_⟩
    rw [hdu v hD]
    simp [setF]
   ·have e':∀(y:Nat->Int) (z:Int),setF y w z u=y u:=fun y z=>by unfold setF; rw [if_neg e]
    rw [e'] at g
    rcases h.tr u hu g with⟨h1,h2⟩ |⟨u',c',e1,e2,e3,e4,e5,e6,e7⟩
    ·exact .inl ⟨by rw [e']; exact h1,h2⟩
    ·refine .inr ⟨u',c',by rw [e']; exact e1,e2,e3,e4,by rw [e']; exact e5,by rw [e',e']; exact e6,by rw [e',hdu u' e3]; exact e7⟩ }
theorem Nw.Srch.found (h:N.Srch x left p B n D Q d f a r o) (hN:N.Ok) (hQ:∀ u i,D u=true->Q u i) (hend:∀ v,v<N.k->D v=false->¬ d v<farC):N.Found x left p (fun v=>decide (d v<farC)) d f a r o where
 d0:=fun v hv _=>h.d0 v hv
 src:=fun v hv g=>by have:=h.src v hv g; simp [this,farC]
 cl:=fun u w i c r g1 g2=>by
  have hu:u<N.k:=by
   rcases g1.way with⟨e,_⟩ |⟨e,_⟩ <;> rw [<- e]
   ·exact hN.fr i g1.lt
   ·exact hN.to i g1.lt
  have hD:D u=true:=by
   cases e:D u with
   | true=>rfl
   | false=>exact absurd (of_decide_eq_true g2) (hend u hu e)
  have:=h.cl u w i c r g1 (hQ u i hD)
  exact⟨decide_eq_true this.1,this.2⟩
 ord:=fun v hv g=>by
  have hD:D v=true:=by
   cases e:D v with
   | true=>rfl
   | false=>exact absurd (of_decide_eq_true g) (hend v hv e)
  have:=h.od v hv hD
  have:=h.n_le
  omega
 tr:=fun v hv g=>by
  have hD:D v=true:=by
   cases e:D v with
   | true=>rfl
   | false=>exact absurd (of_decide_eq_true g) (hend v hv e)
  rcases h.tr v hv (of_decide_eq_true g) with h1 |⟨u,c,e1,e2,e3,e4,e5⟩
  ·exact .inl h1
  ·exact .inr ⟨u,c,e1,e2,decide_eq_true (h.dr u e2 e3),e4 hD,e5⟩
end
end Px
end
section
namespace Px
open Go
structure AdjI (n:zj) (i:Nat) (be en:List (List Int)):Prop where
 lb:be.length=n.supply.length
 le:en.length=n.supply.length
 bi:∀ v:Nat,v<n.supply.length->∀ j∈gt be (v:Int),0<=j/\j <(i:Int)/\(gt n.arcs j).from_ =(v:Int)
 ei:∀ v:Nat,v<n.supply.length->∀ j∈gt en (v:Int),0<=j/\j <(i:Int)/\(gt n.arcs j).to =(v:Int)
 bc:∀ j:Nat,j<i->(j:Int)∈gt be (gt n.arcs (j:Int)).from_
 ec:∀ j:Nat,j<i->(j:Int)∈gt en (gt n.arcs (j:Int)).to
 bl:∀ v:Nat,v<n.supply.length->(gt be (v:Int)).length<=i
 el:∀ v:Nat,v<n.supply.length->(gt en (v:Int)).length<=i
abbrev Adj (n:zj) (be en:List (List Int)):Prop:=AdjI n n.arcs.length be en
theorem zkw {α:Type} [Inhabited α] (l:List α) {i:Int} (h0:0<=i) (h:i <(l.length:Int)):zr l i (gt l i)=l:=by
 obtain⟨n,rfl⟩:=w1v h0
 rw [z6g (by omega)]; unfold zr; simp
theorem zn1 {α:Type} [Inhabited α] (n:Nat) (x:α) {j:Nat} (h:j<n):gt (List.replicate n x) (j:Int)=x:=by
 rw [z6g (by simpa using h)]; simp
theorem y3p {n:zj} (h:z4z n) {i:Nat} (hi:i<n.arcs.length) {be en:List (List Int)} (hA:AdjI n i be en) :
  AdjI n (i+1) (zr be (gt n.arcs (i:Int)).from_ (gt be (gt n.arcs (i:Int)).from_++[(i:Int)])) (zr en (gt n.arcs (i:Int)).to (gt en (gt n.arcs (i:Int)).to++[(i:Int)])):=by
 obtain⟨a1,a2,a3,a4,_⟩:=h.arc i hi
 have g1:∀ v:Int,0<=v->gt (zr be (gt n.arcs (i:Int)).from_ (gt be (gt n.arcs (i:Int)).from_++[(i:Int)])) v=if v =(gt n.arcs (i:Int)).from_ then gt be v++[(i:Int)] else gt be v:=fun v hv=>by
  rw [z0r _ _ _ _ a1 (by rw [hA.lb]; exact a2) hv]
  split
  ·rename_i e; rw [e]
  ·rfl
 have g2:∀ v:Int,0<=v->gt (zr en (gt n.arcs (i:Int)).to (gt en (gt n.arcs (i:Int)).to++[(i:Int)])) v=if v =(gt n.arcs (i:Int)).to then gt en v++[(i:Int)] else gt en v:=fun v hv=>by
  rw [z0r _ _ _ _ a3 (by rw [hA.le]; exact a4) hv]
  split
  ·rename_i e; rw [e]
  ·rfl
 refine⟨by rw [z08]; exact hA.lb,by rw [z08]; exact hA.le,fun v hv j hj=>?_,fun v hv j hj=>?_,fun j hj=>?_,fun j hj=>?_,fun v hv=>?_,fun v hv=>?_⟩
 ·rw [g1 _ (by omega)] at hj
  split at hj
  ·rename_i e
   rcases w0l.1 hj with q | q
   ·obtain⟨b1,b2,b3⟩:=hA.bi v hv j q; exact⟨b1,by omega,b3⟩
   ·have q:=w0k.1 q; subst q; exact⟨by omega,by omega,e.symm⟩
  ·obtain⟨b1,b2,b3⟩:=hA.bi v hv j hj; exact⟨b1,by omega,b3⟩
 ·rw [g2 _ (by omega)] at hj
  split at hj
  ·rename_i e
   rcases w0l.1 hj with q | q
   ·obtain⟨b1,b2,b3⟩:=hA.ei v hv j q; exact⟨b1,by omega,b3⟩
   ·have q:=w0k.1 q; subst q; exact⟨by omega,by omega,e.symm⟩
  ·obtain⟨b1,b2,b3⟩:=hA.ei v hv j hj; exact⟨b1,by omega,b3⟩
 ·rw [g1 _ (h.arc j (by omega)).1]
  by_cases e:j=i
  ·subst e; rw [if_pos rfl]; simp
  ·have:=hA.bc j (by omega)
   split
   ·exact w1c _ this
   ·exact this
 ·rw [g2 _ (h.arc j (by omega)).2.2.1]
  by_cases e:j=i
  ·subst e; rw [if_pos rfl]; simp
  ·have:=hA.ec j (by omega)
   split
   ·exact w1c _ this
   ·exact this
 ·rw [g1 _ (by omega)]
  have:=hA.bl v hv
  split
  ·rw [w0f]; simp; omega
  ·omega
 ·rw [g2 _ (by omega)]
  have:=hA.el v hv
  split
  ·rw [w0f]; simp; omega
  ·omega
theorem y6p (φ:Nat) {n:zj} (h:z4z n) (hφ:5000<φ) (sup X left price d1 d2:List Int) (arcs:List Arc) :
  ∃ be en,Adj n be en/\z16 φ φ n.arcs (n.arcs.length:Int) 0 sup arcs X left price (List.replicate n.supply.length []) (List.replicate n.supply.length []) d1 d2=z2p φ φ sup arcs X left price be en d1 d2:=by
 have hm:=h.m
 refine z0h (fun m i (st:List (List Int)×List (List Int))=>z16 φ m n.arcs (n.arcs.length:Int) i sup arcs X left price st.1 st.2 d1 d2) n.arcs.length (fun i st=>AdjI n i st.1 st.2) (fun r=>∃ be en,Adj n be en/\r=z2p φ φ sup arcs X left price be en d1 d2) ?_ ?_ φ (List.replicate n.supply.length [],List.replicate n.supply.length []) ?_ (by omega)
 ·rintro m i ⟨be,en⟩ hi hA hs
  have hA:AdjI n i be en:=hA
  obtain⟨a1,a2,a3,a4,_⟩:=h.arc i hi
  have b1:=hA.lb
  have b2:=hA.le
  have l1:=hA.bl (gt n.arcs (i:Int)).from_.toNat (by omega)
  have l2:=hA.el (gt n.arcs (i:Int)).to.toNat (by omega)
  rw [show (((gt n.arcs (i:Int)).from_.toNat:Nat):Int) =(gt n.arcs (i:Int)).from_ by omega] at l1
  rw [show (((gt n.arcs (i:Int)).to.toNat:Nat):Int) =(gt n.arcs (i:Int)).to by omega] at l2
  show ∃ be' en',Adj n be' en'/\z16 φ (m+1) n.arcs (n.arcs.length:Int) (i:Int) sup arcs X left price be en d1 d2=_
  rw [z16,if_pos (by simp; omega),z6 ⟨by omega,by omega⟩,z6 ⟨a1,by omega⟩,z6 ⟨a1,by omega⟩,z6 rfl,z6 (by simp [fits]; omega),z6 ⟨a1,by omega⟩,z6 rfl,z6 ⟨a3,by omega⟩,z6 ⟨a3,by omega⟩,z6 rfl,z6 (by simp [fits]; omega),z6 ⟨a3,by omega⟩,z6 rfl,W_id (by omega) (by omega)]
  exact hs (_,_) (y3p h hi hA)
 ·rintro m ⟨be,en⟩ hA
  show ∃ be' en',Adj n be' en'/\z16 φ (m+1) n.arcs (n.arcs.length:Int) (n.arcs.length:Int) sup arcs X left price be en d1 d2=_
  rw [z16,if_neg (by simp)]
  exact⟨be,en,hA,rfl⟩
 ·refine⟨by simp,by simp,fun v hv j hj=>?_,fun v hv j hj=>?_,fun j hj=>by omega,fun j hj=>by omega,fun v hv=>?_,fun v hv=>?_⟩
  ·rw [zn1 _ _ hv] at hj; cases hj
  ·rw [zn1 _ _ hv] at hj; cases hj
  ·rw [zn1 _ _ hv]; simp
  ·rw [zn1 _ _ hv]; simp
structure Rnd (n:zj) (x left p:List Int):Prop where
 lx:x.length=n.arcs.length
 ll:left.length=n.supply.length
 lp:p.length=n.supply.length
 inv :(nwOf n).Inv (atN n.supply) (atN x) (atN left) (atN p)
 pb :(nwOf n).Pb 1000000000 (atN left) (atN p)
theorem zjb {m:Nat} {f:Nat->Int} {B:Int} (h:∀ i,i<m->f i<=B):sumN m f<=B*m:=by
 induction m with
 | zero=>simp [sumN]
 | succ m ih=>
  have:=ih fun i hi=>h i (by omega)
  have h2:=h m (by omega)
  simp only [sumN]
  push_cast
  rw [w3c,Int.mul_one]
  omega
theorem Rnd.pbd {n:zj} (h:z4z n) {x left p:List Int} (hR:Rnd n x left p) {v:Nat} (hv:v<n.supply.length):0<=atN p v/\atN p v<=66000000000000:=by
 refine⟨hR.pb.p0 v hv,?_⟩
 have h1:=hR.pb.top v hv
 have hk:=h.k
 have h2 :(sumN (nwOf n).k fun w=>min (atN p w) (((nwOf n).k:Int)*1000000000))<=(256000000000:Int) *((nwOf n).k:Nat):=zjb fun w hw=>by
  show min (atN p w) ((n.supply.length:Int)*1000000000)<=256000000000
  omega
 have h3 :(((nwOf n).k:Nat):Int) =(n.supply.length:Int):=rfl
 rw [h3] at h1 h2
 omega
theorem Rnd.xbd {n:zj} (h:z4z n) {x left p:List Int} (hR:Rnd n x left p) {i:Nat} (hi:i<n.arcs.length):0<=atN x i/\atN x i<=(gt n.arcs (i:Int)).cap/\(gt n.arcs (i:Int)).cap<=1000000000:=by
 have h1:=hR.inv.bnd i hi
 have h2:=h.arc i hi
 exact⟨h1.1,h1.2,h2.2.2.2.2.2.2.1⟩
theorem Rnd.lbd {n:zj} (h:z4z n) {x left p:List Int} (hR:Rnd n x left p) {v:Nat} (hv:v<n.supply.length) : -1000000000<=atN left v/\atN left v<=1000000000:=by
 have h1:=h.sup v hv
 by_cases g:0<=atN n.supply v
 ·have:=hR.inv.pos v hv g; omega
 ·have:=hR.inv.neg v hv (by omega); omega
abbrev BB:Int:=100000000000000
structure SrI (n:zj) (x left p:List Int) (nn:Nat) (o:Nat->Nat) (Q:Nat->Nat->Prop) (dn:List Bool) (D F:List Int) (S:List zd):Prop where
 ld:dn.length=n.supply.length
 lD:D.length=n.supply.length
 lF:F.length=n.supply.length
 lS:S.length=n.supply.length
 srch :(nwOf n).Srch (atN x) (atN left) (atN p) BB nn (fun v=>gt dn (v:Int)) Q (atN D) (atN F) (fun v=>(gt S (v:Int)).arc) (fun v=>(gt S (v:Int)).room) o
structure VsI (n:zj) (x left p:List Int) (nn:Nat) (o:Nat->Nat) (v:Nat) (Q:Nat->Nat->Prop) (dn:List Bool) (D F:List Int) (S:List zd):Prop extends SrI n x left p (nn+1) o Q dn D F S where
 hv:v<n.supply.length
 dv:gt dn (v:Int)=true
 top:∀ u,u<n.supply.length->gt dn (u:Int)=true->atN D u<=atN D v
 lv:0<=atN D v/\atN D v<=(nn:Int)*BB
 nk:nn<n.supply.length
theorem z8f {l:List Int} {w:Nat} (y:Int) (h:w<l.length):atN (zr l (w:Int) y)=setF (atN l) w y:=by
 funext j
 unfold atN setF
 rw [z0r _ _ _ _ (by omega) (by omega) (by omega)]
 by_cases e:j=w
 ·rw [if_pos e,if_pos (by omega)]
 ·rw [if_neg e,if_neg (by omega)]
theorem zzn {S:List zd} {w:Nat} (st:zd) (h:w<S.length) (g:zd->Int) :(fun v:Nat=>g (gt (zr S (w:Int) st) (v:Int)))=setF (fun v:Nat=>g (gt S (v:Int))) w (g st):=by
 funext j
 unfold setF
 rw [z0r _ _ _ _ (by omega) (by omega) (by omega)]
 by_cases e:j=w
 ·rw [if_pos e,if_pos (by omega)]
 ·rw [if_neg e,if_neg (by omega)]
section
variable {n:zj} {x left p:List Int} {nn:Nat} {o:Nat->Nat} {v:Nat} {Q:Nat->Nat->Prop} {dn:List Bool} {D F:List Int} {S:List zd}
theorem Rnd.rc (h:z4z n) (hR:Rnd n x left p) {v w i:Nat} {c r:Int} (hv:v<n.supply.length) (hw:w<n.supply.length) (hs :(nwOf n).Step (atN x) v w i c r):0<=c+atN p v-atN p w/\c+atN p v-atN p w<=70000000000000/\-1000000000<=c/\c<=1000000000:=by
 have h1:=(hR.inv.step hs).1
 have h2:=hR.pbd h hv
 have h3:=hR.pbd h hw
 have h4:=h.arc i hs.lt
 have h5 :(nwOf n).cost i =(gt n.arcs (i:Int)).cost:=rfl
 have : -1000000000<=c/\c<=1000000000:=by rcases hs.way with⟨_,_,_,e,_⟩ |⟨_,_,_,e,_⟩ <;> omega
 exact⟨h1,by omega,this.1,this.2⟩
theorem VsI.dbd (h:z4z n) (hV:VsI n x left p nn o v Q dn D F S):0<=atN D v/\atN D v<=25600000000000000:=by
 have hl:=hV.lv
 have h1:=hV.nk
 have h2:=h.k
 have :(nn:Int)*BB<=256*BB:=w21 (by omega) (by simp [BB])
 refine⟨hl.1,w4u hl.2 (w4u this (by simp [BB]))⟩
theorem VsI.pass (h:z4z n) (hR:Rnd n x left p) (hV:VsI n x left p nn o v Q dn D F S) {w i:Nat} {c r:Int} (hw:w<n.supply.length) (hs :(nwOf n).Step (atN x) v w i c r) (hn:¬ atN D v +(c+atN p v-atN p w)<atN D w) :
  VsI n x left p nn o v (addQ Q v i) dn D F S:=by
 have h1:=hR.rc h hV.hv hw hs
 have h2:=hV.dbd h
 exact { hV with srch:=hV.srch.pass h.nw hV.dv hs (by simp only [farC]; omega) hn }
theorem VsI.skip (hV:VsI n x left p nn o v Q dn D F S) {i:Nat} (hs:∀ w c r,¬(nwOf n).Step (atN x) v w i c r):VsI n x left p nn o v (addQ Q v i) dn D F S:=
 { hV with srch:=hV.srch.skip hV.dv hs }
theorem VsI.relax (h:z4z n) (hR:Rnd n x left p) (hV:VsI n x left p nn o v Q dn D F S) {w i:Nat} {c r:Int} (hw:w<n.supply.length) (hs :(nwOf n).Step (atN x) v w i c r) (hn:atN D v +(c+atN p v-atN p w)<atN D w) (cc:Int) :
  VsI n x left p nn o v (addQ Q v i) dn (zr D (w:Int) (atN D v +(c+atN p v-atN p w))) (zr F (w:Int) (v:Int)) (zr S (w:Int) ⟨(i:Int),(w:Int),cc,r⟩):=by
 have h1:=hR.rc h hV.hv hw hs
 have h2:=hV.dbd h
 have h3:atN D v +(c+atN p v-atN p w)<=((nn+1:Nat):Int)*BB:=by
  have:=hV.lv.2
  rw [show ((nn+1:Nat):Int) =(nn:Int)+1 by omega,w2v]
  simp only [BB] at this ⊢
  omega
 obtain⟨q1,q2⟩:=hV.srch.relax h.nw hV.hv hw hV.dv hV.top hs h1.1 h3 (by simp only [farC]; omega) hn
 have hvw:v≠w:=fun e=>by rw [e] at hV; have:=hV.dv; rw [this] at q1; cases q1
 have eD:=z8f (atN D v +(c+atN p v-atN p w)) (l:=D) (by rw [hV.lD]; exact hw)
 have eF:=z8f (v:Int) (l:=F) (by rw [hV.lF]; exact hw)
 have eA:=zzn ⟨(i:Int),(w:Int),cc,r⟩ (S:=S) (by rw [hV.lS]; exact hw) (·.arc)
 have eR:=zzn ⟨(i:Int),(w:Int),cc,r⟩ (S:=S) (by rw [hV.lS]; exact hw) (·.room)
 have ev:∀ u:Nat,gt dn (u:Int)=true->atN (zr D (w:Int) (atN D v +(c+atN p v-atN p w))) u=atN D u:=fun u hu=>by
  rw [eD]; unfold setF
  rw [if_neg (fun e=>by rw [e,q1] at hu; cases hu)]
 refine { ld:=hV.ld,lD:=by rw [z08]; exact hV.lD,lF:=by rw [z08]; exact hV.lF,lS:=by rw [z08]; exact hV.lS,srch:=?_,hv:=hV.hv,dv:=hV.dv,top:=fun u hu hd=>?_,lv:=?_,nk:=hV.nk }
 ·rw [eD,eF,eA,eR]; exact q2
 ·rw [ev u hd,ev v hV.dv]; exact hV.top u hu hd
 ·rw [ev v hV.dv]; exact hV.lv
end
end Px
end
section
namespace Px
open Go
section
variable {φ:Nat} {n:zj} {x left p:List Int} {nn:Nat} {o:Nat->Nat} {v:Nat} {dn:List Bool}
variable (k115:Int->List Int->List Arc->List Bool->List Int->List Int->List Int->List (List Int)->List (List Int)->List Int->List Int->List zd->List Int->List Int->Option (Flow×Int×Unit))
theorem zv0 (h:z4z n) (hR:Rnd n x left p) (sup:List Int) (be en:List (List Int)) (d1 d2:List Int) (hA:Adj n be en) (kI:Int) (bl:List Int) (hbl:bl=gt be (v:Int)) (Q0:Nat->Nat->Prop)
  (G:Option (Flow×Int×Unit)->Prop)
  (fin:∀ D F S,VsI n x left p nn o v (fun u i=>Q0 u i\/(u=v/\(i:Int)∈bl)) dn D F S->G (z0e φ k115 φ ((gt en (v:Int)).length:Int) 0 kI (v:Int) (gt en (v:Int)) sup n.arcs dn (v:Int) x left p be en (v:Int) D F S d1 d2))
  {D F:List Int} {S:List zd} (hV:VsI n x left p nn o v Q0 dn D F S) (m:Nat) (hm:bl.length<m) :
  G (z0d φ k115 m (bl.length:Int) 0 kI (v:Int) bl sup n.arcs dn (v:Int) x left p be (v:Int) en D F S d1 d2):=by
 have hm2:=h.m
 have hbl2:=hA.bl v hV.hv
 rw [<- hbl] at hbl2
 have hv:=hV.hv
 refine z0h (fun m i (st:List Int×List Int×List zd)=>z0d φ k115 m (bl.length:Int) i kI (v:Int) bl sup n.arcs dn (v:Int) x left p be (v:Int) en st.1 st.2.1 st.2.2 d1 d2) bl.length
  (fun i st=>VsI n x left p nn o v (fun u j=>Q0 u j\/(u=v/\(j:Int)∈bl.take i)) dn st.1 st.2.1 st.2.2) G ?_ ?_ m (D,F,S) ?_ hm
 ·rintro m i ⟨D,F,S⟩ hi hI hs
  have hI:VsI n x left p nn o v (fun u j=>Q0 u j\/(u=v/\(j:Int)∈bl.take i)) dn D F S:=hI
  show G (z0d φ k115 (m+1) (bl.length:Int) (i:Int) kI (v:Int) bl sup n.arcs dn (v:Int) x left p be (v:Int) en D F S d1 d2)
  obtain⟨b1,b2,b3⟩:=hA.bi v hv (gt bl (i:Int)) (by rw [<- hbl]; exact zbc (by omega) (by omega))
  obtain⟨j,ej⟩:=w1v b1
  have hj:j<n.arcs.length:=by omega
  have htake:bl.take (i+1)=bl.take i++[(j:Int)]:=by rw [z2o bl i hi,ej]
  rw [ej] at b3
  obtain⟨a1,a2,a3,a4,a5,a6,a7,a8,a9⟩:=h.arc j hj
  obtain⟨w,ew⟩:=w1v a3
  have hw:w<n.supply.length:=by omega
  have hxb:=hR.xbd h hj
  have hpv:=hR.pbd h hv
  have hpw:=hR.pbd h hw
  have hdv:=hI.dbd h
  have lD:=hI.lD
  have lF:=hI.lF
  have lS:=hI.lS
  have lx:=hR.lx
  have lp:=hR.lp
  have wid:∀ st:List Int×List Int×List zd,VsI n x left p nn o v (addQ (fun u j=>Q0 u j\/(u=v/\(j:Int)∈bl.take i)) v j) dn st.1 st.2.1 st.2.2->VsI n x left p nn o v (fun u j=>Q0 u j\/(u=v/\(j:Int)∈bl.take (i+1))) dn st.1 st.2.1 st.2.2:=fun st hq=>by
   have :(fun u j=>Q0 u j\/(u=v/\(j:Int)∈bl.take (i+1)))=addQ (fun u j=>Q0 u j\/(u=v/\(j:Int)∈bl.take i)) v j:=by
    funext u j'
    unfold addQ
    rw [htake]
    simp only [w0l,w0k,eq_iff_iff]
    constructor
    ·rintro(q |⟨q1,q2 | q2⟩)
     ·exact .inl (.inl q)
     ·exact .inl (.inr ⟨q1,q2⟩)
     ·exact .inr ⟨q1,by omega⟩
    ·rintro((q |⟨q1,q2⟩) |⟨q1,q2⟩)
     ·exact .inl q
     ·exact .inr ⟨q1,.inl q2⟩
     ·exact .inr ⟨q1,.inr (by omega)⟩
   rw [this]; exact hq
  have exj:gt x (j:Int)=atN x j:=rfl
  have epv:gt p (v:Int)=atN p v:=rfl
  have epw:gt p (w:Int)=atN p w:=rfl
  have eDv:gt D (v:Int)=atN D v:=rfl
  have eDw:gt D (w:Int)=atN D w:=rfl
  have ef :(nwOf n).fr j=v:=by show (gt n.arcs (j:Int)).from_.toNat=v; omega
  have et :(nwOf n).to j=w:=by show (gt n.arcs (j:Int)).to.toNat=w; omega
  have ecap :(nwOf n).cap j =(gt n.arcs (j:Int)).cap:=rfl
  have ecost :(nwOf n).cost j =(gt n.arcs (j:Int)).cost:=rfl
  have hW1:W ((gt n.arcs (j:Int)).cap-atN x j) =(gt n.arcs (j:Int)).cap-atN x j:=W_id (by omega) (by omega)
  have hW2:W ((gt n.arcs (j:Int)).cost+atN p v) =(gt n.arcs (j:Int)).cost+atN p v:=W_id (by omega) (by omega)
  have hW3:W ((gt n.arcs (j:Int)).cost+atN p v-atN p w) =(gt n.arcs (j:Int)).cost+atN p v-atN p w:=W_id (by omega) (by omega)
  have hW4:W (atN D v +((gt n.arcs (j:Int)).cost+atN p v-atN p w))=atN D v +((gt n.arcs (j:Int)).cost+atN p v-atN p w):=W_id (by omega) (by omega)
  have hW5:W ((i:Int)+1) =(i:Int)+1:=W_id (by omega) (by omega)
  rw [z0d,if_pos (by simp; omega),z6 ⟨by omega,by omega⟩]
  have ej':gt bl (i:Int) =(j:Int):=ej
  have ew' :(gt n.arcs (j:Int)).to =(w:Int):=ew
  rw [ej',ew',exj,epv,epw,eDv,eDw,hW1,hW2,hW3,hW4,hW5,z6 ⟨by omega,by omega⟩,z6 ⟨by omega,by omega⟩,z6 (fun _=>⟨by omega,by omega⟩),z6 (fun _=>⟨by omega,by omega⟩)]
  by_cases g:0 <(gt n.arcs (j:Int)).cap-atN x j
  ·have hst :(nwOf n).Step (atN x) v w j (gt n.arcs (j:Int)).cost ((gt n.arcs (j:Int)).cap-atN x j):=⟨hj,.inl ⟨ef,et,by rw [ecap]; omega,rfl,rfl⟩⟩
   rw [if_pos (by simpa using g),z6 ⟨by omega,by omega⟩,z6 ⟨by omega,by omega⟩]
   by_cases g2:atN D v +((gt n.arcs (j:Int)).cost+atN p v-atN p w)<atN D w
   ·rw [if_pos (by simpa using g2),z6 ⟨by omega,by omega⟩,z6 ⟨by omega,by omega⟩,z6 ⟨by omega,by omega⟩,if_neg (by simp)]
    exact hs (_,_,_) (wid (_,_,_) (hI.relax h hR hw hst g2 _))
   ·rw [if_neg (by simpa using g2),if_neg (by simp)]
    exact hs (D,F,S) (wid (D,F,S) (hI.pass h hR hw hst g2))
  ·rw [if_neg (by simpa using g)]
   refine hs (D,F,S) (wid (D,F,S) (hI.skip fun w' c r q=>?_))
   rcases q.way with⟨q1,q2,q3,_,_⟩ |⟨q1,_⟩
   ·rw [ecap] at q3; omega
   ·rw [et] at q1
    have:=h.nw.ne j hj
    rw [ef,et] at this
    exact this q1.symm
 ·rintro m ⟨D,F,S⟩ hI
  show G (z0d φ k115 (m+1) (bl.length:Int) (bl.length:Int) kI (v:Int) bl sup n.arcs dn (v:Int) x left p be (v:Int) en D F S d1 d2)
  have hle:=hA.le
  have hlb:=hA.lb
  rw [z0d,if_neg (by simp),z6 ⟨by omega,by omega⟩,z6 ⟨by omega,by omega⟩,z6 rfl,hbl,zkw be (by omega) (by omega)]
  have hI:VsI n x left p nn o v (fun u j=>Q0 u j\/(u=v/\(j:Int)∈bl.take bl.length)) dn D F S:=hI
  rw [w1r] at hI
  exact fin D F S hI
 ·have :(fun u j=>Q0 u j\/(u=v/\((j:Nat):Int)∈bl.take 0))=Q0:=by
   funext u j; simp
  show VsI n x left p nn o v (fun u j=>Q0 u j\/(u=v/\(j:Int)∈bl.take 0)) dn D F S
  rw [this]; exact hV
theorem zyd (h:z4z n) (hR:Rnd n x left p) (sup:List Int) (be en:List (List Int)) (d1 d2:List Int) (hA:Adj n be en) (kI:Int) (bl:List Int) (hbl:bl=gt en (v:Int)) (Q0:Nat->Nat->Prop)
  (G:Option (Flow×Int×Unit)->Prop)
  (fin:∀ D F S,VsI n x left p nn o v (fun u i=>Q0 u i\/(u=v/\(i:Int)∈bl)) dn D F S->G (k115 kI sup n.arcs dn x left p be en D F S d1 d2))
  {D F:List Int} {S:List zd} (hV:VsI n x left p nn o v Q0 dn D F S) (m:Nat) (hm:bl.length<m) :
  G (z0e φ k115 m (bl.length:Int) 0 kI (v:Int) bl sup n.arcs dn (v:Int) x left p be en (v:Int) D F S d1 d2):=by
 have hm2:=h.m
 have hbl2:=hA.el v hV.hv
 rw [<- hbl] at hbl2
 have hv:=hV.hv
 refine z0h (fun m i (st:List Int×List Int×List zd)=>z0e φ k115 m (bl.length:Int) i kI (v:Int) bl sup n.arcs dn (v:Int) x left p be en (v:Int) st.1 st.2.1 st.2.2 d1 d2) bl.length
  (fun i st=>VsI n x left p nn o v (fun u j=>Q0 u j\/(u=v/\(j:Int)∈bl.take i)) dn st.1 st.2.1 st.2.2) G ?_ ?_ m (D,F,S) ?_ hm
 ·rintro m i ⟨D,F,S⟩ hi hI hs
  have hI:VsI n x left p nn o v (fun u j=>Q0 u j\/(u=v/\(j:Int)∈bl.take i)) dn D F S:=hI
  show G (z0e φ k115 (m+1) (bl.length:Int) (i:Int) kI (v:Int) bl sup n.arcs dn (v:Int) x left p be en (v:Int) D F S d1 d2)
  obtain⟨b1,b2,b3⟩:=hA.ei v hv (gt bl (i:Int)) (by rw [<- hbl]; exact zbc (by omega) (by omega))
  obtain⟨j,ej⟩:=w1v b1
  have hj:j<n.arcs.length:=by omega
  have htake:bl.take (i+1)=bl.take i++[(j:Int)]:=by rw [z2o bl i hi,ej]
  rw [ej] at b3
  obtain⟨a1,a2,a3,a4,a5,a6,a7,a8,a9⟩:=h.arc j hj
  obtain⟨w,ew⟩:=w1v a1
  have hw:w<n.supply.length:=by omega
  have hxb:=hR.xbd h hj
  have hpv:=hR.pbd h hv
  have hpw:=hR.pbd h hw
  have hdv:=hI.dbd h
  have lD:=hI.lD
  have lF:=hI.lF
  have lS:=hI.lS
  have lx:=hR.lx
  have lp:=hR.lp
  have wid:∀ st:List Int×List Int×List zd,VsI n x left p nn o v (addQ (fun u j=>Q0 u j\/(u=v/\(j:Int)∈bl.take i)) v j) dn st.1 st.2.1 st.2.2->VsI n x left p nn o v (fun u j=>Q0 u j\/(u=v/\(j:Int)∈bl.take (i+1))) dn st.1 st.2.1 st.2.2:=fun st hq=>by
   have :(fun u j=>Q0 u j\/(u=v/\(j:Int)∈bl.take (i+1)))=addQ (fun u j=>Q0 u j\/(u=v/\(j:Int)∈bl.take i)) v j:=by
    funext u j'
    unfold addQ
    rw [htake]
    simp only [w0l,w0k,eq_iff_iff]
    constructor
    ·rintro(q |⟨q1,q2 | q2⟩)
     ·exact .inl (.inl q)
     ·exact .inl (.inr ⟨q1,q2⟩)
     ·exact .inr ⟨q1,by omega⟩
    ·rintro((q |⟨q1,q2⟩) |⟨q1,q2⟩)
     ·exact .inl q
     ·exact .inr ⟨q1,.inl q2⟩
     ·exact .inr ⟨q1,.inr (by omega)⟩
   rw [this]; exact hq
  have exj:gt x (j:Int)=atN x j:=rfl
  have epv:gt p (v:Int)=atN p v:=rfl
  have epw:gt p (w:Int)=atN p w:=rfl
  have eDv:gt D (v:Int)=atN D v:=rfl
  have eDw:gt D (w:Int)=atN D w:=rfl
  have ef :(nwOf n).fr j=w:=by show (gt n.arcs (j:Int)).from_.toNat=w; omega
  have et :(nwOf n).to j=v:=by show (gt n.arcs (j:Int)).to.toNat=v; omega
  have ecap :(nwOf n).cap j =(gt n.arcs (j:Int)).cap:=rfl
  have ecost :(nwOf n).cost j =(gt n.arcs (j:Int)).cost:=rfl
  have hW2:W (atN p v -(gt n.arcs (j:Int)).cost)=atN p v -(gt n.arcs (j:Int)).cost:=W_id (by omega) (by omega)
  have hW3:W (atN p v -(gt n.arcs (j:Int)).cost-atN p w)=-(gt n.arcs (j:Int)).cost+atN p v-atN p w:=by rw [W_id (by omega) (by omega)]; omega
  have hW4:W (atN D v +(-(gt n.arcs (j:Int)).cost+atN p v-atN p w))=atN D v +(-(gt n.arcs (j:Int)).cost+atN p v-atN p w):=W_id (by omega) (by omega)
  have hW5:W ((i:Int)+1) =(i:Int)+1:=W_id (by omega) (by omega)
  rw [z0e,if_pos (by simp; omega),z6 ⟨by omega,by omega⟩]
  have ej':gt bl (i:Int) =(j:Int):=ej
  have ew' :(gt n.arcs (j:Int)).from_ =(w:Int):=ew
  rw [ej',ew',exj,epv,epw,eDv,eDw,hW2,hW3,hW4,hW5,z6 ⟨by omega,by omega⟩,z6 ⟨by omega,by omega⟩,z6 (fun _=>⟨by omega,by omega⟩),z6 (fun _=>⟨by omega,by omega⟩),z6 (fun _=>⟨by omega,by omega⟩)]
  by_cases g:0<atN x j
  ·have hst :(nwOf n).Step (atN x) v w j (-(gt n.arcs (j:Int)).cost) (atN x j):=⟨hj,.inr ⟨et,ef,g,rfl,rfl⟩⟩
   rw [if_pos (by simpa using g),z6 ⟨by omega,by omega⟩,z6 ⟨by omega,by omega⟩]
   by_cases g2:atN D v +(-(gt n.arcs (j:Int)).cost+atN p v-atN p w)<atN D w
   ·rw [if_pos (by simpa using g2),z6 ⟨by omega,by omega⟩,z6 ⟨by omega,by omega⟩,z6 ⟨by omega,by omega⟩,if_neg (by simp)]
    exact hs (_,_,_) (wid (_,_,_) (hI.relax h hR hw hst g2 _))
   ·rw [if_neg (by simpa using g2),if_neg (by simp)]
    exact hs (D,F,S) (wid (D,F,S) (hI.pass h hR hw hst g2))
  ·rw [if_neg (by simpa using g)]
   refine hs (D,F,S) (wid (D,F,S) (hI.skip fun w' c r q=>?_))
   rcases q.way with⟨q1,q2,q3,_,_⟩ |⟨q1,q2,q3,_⟩
   ·rw [ef] at q1
    have:=h.nw.ne j hj
    rw [ef,et] at this
    exact this q1
   ·omega
 ·rintro m ⟨D,F,S⟩ hI
  show G (z0e φ k115 (m+1) (bl.length:Int) (bl.length:Int) kI (v:Int) bl sup n.arcs dn (v:Int) x left p be en (v:Int) D F S d1 d2)
  have hle:=hA.le
  rw [z0e,if_neg (by simp),hbl,zkw en (by omega) (by omega)]
  have hI:VsI n x left p nn o v (fun u j=>Q0 u j\/(u=v/\(j:Int)∈bl.take bl.length)) dn D F S:=hI
  rw [w1r] at hI
  exact fin D F S hI
 ·have :(fun u j=>Q0 u j\/(u=v/\((j:Nat):Int)∈bl.take 0))=Q0:=by
   funext u j; simp
  show VsI n x left p nn o v (fun u j=>Q0 u j\/(u=v/\(j:Int)∈bl.take 0)) dn D F S
  rw [this]; exact hV
end
end Px
end
section
namespace Px
open Go
theorem Nw.Srch.wide {N:Nw} {x left p:Nat->Int} {B:Int} {n:Nat} {D:Nat->Bool} {Q Q':Nat->Nat->Prop} {d f a r:Nat->Int} {o:Nat->Nat} (h:N.Srch x left p B n D Q d f a r o)
  (hq:∀ u i,Q' u i->D u=true/\(Q u i\/∀ w c m,¬ N.Step x u w i c m)):N.Srch x left p B n D Q' d f a r o:=
 { h with
  qd:=fun u i g=>(hq u i g).1
  cl:=fun u w i c r' g1 g2=>by
   rcases(hq u i g2).2 with q | q
   ·exact h.cl u w i c r' g1 q
   ·exact absurd g1 (q _ _ _) }
section
variable {φ:Nat} {n:zj} {x left p:List Int}
theorem zm0 (k47:List Int->List Arc->List Int->List Int->List Int->List (List Int)->List (List Int)->List Int->List Int->Option (Flow×Int×Unit))
  (k115:Int->List Int->List Arc->List Bool->List Int->List Int->List Int->List (List Int)->List (List Int)->List Int->List Int->List zd->List Int->List Int->Option (Flow×Int×Unit))
  (k:Nat) (hk:k<=256) (sup:List Int) (arcs:List Arc) (dn:List Bool) (be en:List (List Int)) (D F:List Int) (S:List zd) (d1 d2:List Int) (kI:Int) (ld:dn.length=k) (lD:D.length=k) (G:Option (Flow×Int×Unit)->Prop)
  (fin0 :(∀ u:Nat,u<k->gt dn (u:Int)=false->¬ atN D u<1152921504606846976)->G (z26 φ k47 sup arcs D F S x left p be en d1 d2))
  (fin1:∀ v:Nat,v<k->gt dn (v:Int)=false->atN D v<1152921504606846976->(∀ u:Nat,u<k->gt dn (u:Int)=false->atN D v<=atN D u)->
   G (ck ((0:Int)<=(v:Int)/\(v:Int) <(dn.length:Int)) (ck ((0:Int)<=(v:Int)/\(v:Int) <(be.length:Int)) (ck ((0:Int)<=(v:Int)/\(v:Int) <(be.length:Int)) (ck (((v:Int):Int) =(v:Int)) (z0d φ k115 φ ((gt be (v:Int)).length:Int) 0 kI (v:Int) (gt be (v:Int)) sup arcs (zr dn (v:Int) true) (v:Int) x left p be (v:Int) en D F S d1 d2))))))
  (m:Nat) (hm:k<m):G (z0s φ k47 k115 m kI (k:Int) 0 sup arcs dn (-1) x left p be en D F S d1 d2):=by
 refine z0h (fun m i (v:Int)=>z0s φ k47 k115 m kI (k:Int) i sup arcs dn v x left p be en D F S d1 d2) k
  (fun i v=>(v=-1/\∀ u:Nat,u<i->gt dn (u:Int)=false->¬ atN D u<1152921504606846976)\/∃ w:Nat,w<i/\v =(w:Int)/\gt dn (w:Int)=false/\atN D w<1152921504606846976/\∀ u:Nat,u<i->gt dn (u:Int)=false->atN D w<=atN D u) G ?_ ?_ m (-1) (.inl ⟨rfl,fun u hu=>by omega⟩) hm
 ·intro m i v hi hI hs
  have hW:W ((i:Int)+1) =(i:Int)+1:=W_id (by omega) (by omega)
  have hvr:¬ v<0->(0:Int)<=v/\v <(D.length:Int):=fun hv=>by
   rcases hI with⟨rfl,_⟩ |⟨w,hw,rfl,_⟩ <;> omega
  have eDi:gt D (i:Int)=atN D i:=rfl
  show G (z0s φ k47 k115 (m+1) kI (k:Int) (i:Int) sup arcs dn v x left p be en D F S d1 d2)
  rw [z0s,if_pos (by simp; omega),z6 ⟨by omega,by omega⟩,z6 (fun _=>⟨by omega,by omega⟩),z6 (fun _=>⟨by omega,by omega⟩),z6 (fun q=>hvr (by simpa using q.2)),hW,eDi]
  cases hd:gt dn (i:Int) with
  | true=>
   rw [if_neg (by simp)]
   refine hs v ?_
   rcases hI with⟨rfl,h1⟩ |⟨w,hw,rfl,h1,h2,h3⟩
   ·refine .inl ⟨rfl,fun u hu hu'=>?_⟩
    by_cases e:u=i
    ·rw [e,hd] at hu'; cases hu'
    ·exact h1 u (by omega) hu'
   ·refine .inr ⟨w,by omega,rfl,h1,h2,fun u hu hu'=>?_⟩
    by_cases e:u=i
    ·rw [e,hd] at hu'; cases hu'
    ·exact h3 u (by omega) hu'
  | false=>
   by_cases g1:atN D i<1152921504606846976
   ·rcases hI with⟨rfl,h1⟩ |⟨w,hw,rfl,h1,h2,h3⟩
    ·rw [if_pos (by simp; omega)]
     refine hs (i:Int) (.inr ⟨i,by omega,rfl,hd,g1,fun u hu hu'=>?_⟩)
     by_cases e:u=i
     ·rw [e]; omega
     ·have:=h1 u (by omega) hu'; omega
    ·have eDw:gt D (w:Int)=atN D w:=rfl
     rw [eDw]
     by_cases g2:atN D i<atN D w
     ·rw [if_pos (by simp; omega)]
      refine hs (i:Int) (.inr ⟨i,by omega,rfl,hd,g1,fun u hu hu'=>?_⟩)
      by_cases e:u=i
      ·rw [e]; omega
      ·have:=h3 u (by omega) hu'; omega
     ·rw [if_neg (by simp; omega)]
      refine hs (w:Int) (.inr ⟨w,by omega,rfl,h1,h2,fun u hu hu'=>?_⟩)
      by_cases e:u=i
      ·rw [e]; omega
      ·exact h3 u (by omega) hu'
   ·rw [if_neg (by simp [g1])]
    refine hs v ?_
    rcases hI with⟨rfl,h1⟩ |⟨w,hw,rfl,h1,h2,h3⟩
    ·refine .inl ⟨rfl,fun u hu hu'=>?_⟩
     by_cases e:u=i
     ·rw [e]; exact g1
     ·exact h1 u (by omega) hu'
    ·refine .inr ⟨w,by omega,rfl,h1,h2,fun u hu hu'=>?_⟩
     by_cases e:u=i
     ·rw [e]; omega
     ·exact h3 u (by omega) hu'
 ·intro m v hI
  show G (z0s φ k47 k115 (m+1) kI (k:Int) (k:Int) sup arcs dn v x left p be en D F S d1 d2)
  rw [z0s,if_neg (by simp)]
  rcases hI with⟨rfl,h1⟩ |⟨w,hw,rfl,h1,h2,h3⟩
  ·rw [if_pos (by simp)]; exact fin0 h1
  ·rw [if_neg (by simp)]; exact fin1 w hw h1 h2 h3
theorem zuz (k47:List Int->List Arc->List Int->List Int->List Int->List (List Int)->List (List Int)->List Int->List Int->Option (Flow×Int×Unit)) (h:z4z n) (hφ:5000<φ) (hR:Rnd n x left p) (sup:List Int) (be en:List (List Int)) (d1 d2:List Int) (hA:Adj n be en) (G:Option (Flow×Int×Unit)->Prop)
  (fin:∀ D F S o,D.length=n.supply.length->F.length=n.supply.length->S.length=n.supply.length->(nwOf n).Found (atN x) (atN left) (atN p) (fun v=>decide (atN D v<farC)) (atN D) (atN F) (fun v=>(gt S (v:Int)).arc) (fun v=>(gt S (v:Int)).room) o->G (z26 φ k47 sup n.arcs D F S x left p be en d1 d2)) :
  ∀(d m nn:Nat) (o:Nat->Nat) (dn:List Bool) (D F:List Int) (S:List zd),n.supply.length-nn=d->d<m->SrI n x left p nn o (fun u _=>gt dn (u:Int)=true) dn D F S->
  G (z3w φ k47 m (n.supply.length:Int) sup n.arcs dn x left p be en D F S d1 d2):=by
 have hk:=h.k
 have hm2:=h.m
 intro d
 induction d with
 | zero=>
  intro m nn o dn D F S hd hm hS
  obtain⟨m,rfl⟩:∃ m',m=m'+1:=⟨m-1,by omega⟩
  have hnn:=hS.srch.n_le
  have hnn:nn<=n.supply.length:=hnn
  rw [z3w]
  refine zm0 k47 _ n.supply.length hk sup n.arcs dn be en D F S d1 d2 _ hS.ld hS.lD G (fun h0=>?_) (fun v hv hdv h1 h2=>?_) φ (by omega)
  ·refine fin D F S o hS.lD hS.lF hS.lS (hS.srch.found h.nw (fun u i hu=>hu) fun v hv hv'=>h0 v hv hv')
  ·have:=hS.srch.n_lt (v:=v) hv hdv
   have:nn<n.supply.length:=this
   omega
 | succ d ih=>
  intro m nn o dn D F S hd hm hS
  obtain⟨m,rfl⟩:∃ m',m=m'+1:=⟨m-1,by omega⟩
  rw [z3w]
  refine zm0 k47 _ n.supply.length hk sup n.arcs dn be en D F S d1 d2 _ hS.ld hS.lD G (fun h0=>?_) (fun v hv hdv h1 h2=>?_) φ (by omega)
  ·exact fin D F S o hS.lD hS.lF hS.lS (hS.srch.found h.nw (fun u i hu=>hu) fun v hv hv'=>h0 v hv hv')
  ·have hlb:=hA.lb
   have ld:=hS.ld
   have hset :(fun u:Nat=>gt (zr dn (v:Int) true) (u:Int))=setQ (fun u:Nat=>gt dn (u:Int)) v:=by
    funext u
    unfold setQ
    rw [z0r _ _ _ _ (by omega) (by omega) (by omega)]
    by_cases e:u=v
    ·rw [if_pos e,if_pos (by omega)]
    ·rw [if_neg e,if_neg (by omega)]
   have hV:VsI n x left p nn (setN o v nn) v (fun u _=>gt dn (u:Int)=true) (zr dn (v:Int) true) D F S:=by
    refine { ld:=by rw [z08]; exact ld,lD:=hS.lD,lF:=hS.lF,lS:=hS.lS,srch:=?_,hv:=hv,dv:=?_,top:=fun u hu hd=>?_,lv:=⟨hS.srch.d0 v hv,hS.srch.lim v hv h1⟩,nk:=?_ }
    ·rw [hset]
     exact hS.srch.mark (by simp [BB]) hv hdv h1 fun w hw hw'=>h2 w hw hw'
    ·rw [z0r _ _ _ _ (by omega) (by omega) (by omega),if_pos rfl]
    ·rw [z0r _ _ _ _ (by omega) (by omega) (by omega)] at hd
     by_cases e:u=v
     ·rw [e]; omega
     ·rw [if_neg (by omega)] at hd
      exact hS.srch.le u v hu hv hd hdv
    ·exact hS.srch.n_lt (v:=v) hv hdv
   rw [z6 ⟨by omega,by omega⟩,z6 ⟨by omega,by omega⟩,z6 ⟨by omega,by omega⟩,z6 rfl]
   refine zv0 _ h hR sup be en d1 d2 hA _ _ rfl _ G (fun D1 F1 S1 hV1=>?_) hV φ (by have:=hA.bl v hv; omega)
   refine zyd _ h hR sup be en d1 d2 hA _ _ rfl _ G (fun D2 F2 S2 hV2=>?_) hV1 φ (by have:=hA.el v hv; omega)
   refine ih m (nn+1) (setN o v nn) (zr dn (v:Int) true) D2 F2 S2 (by omega) (by omega) ⟨hV2.ld,hV2.lD,hV2.lF,hV2.lS,hV2.srch.wide fun u i hu=>⟨hu,?_⟩⟩
   have hu':gt (zr dn (v:Int) true) (u:Int)=true:=hu
   by_cases e:u=v
   ·subst e
    by_cases gi:i<n.arcs.length
    ·by_cases g1 :(gt n.arcs (i:Int)).from_ =(u:Int)
     ·have:=hA.bc i gi
      rw [g1] at this
      exact .inl (.inl (.inr ⟨rfl,this⟩))
     ·by_cases g2 :(gt n.arcs (i:Int)).to =(u:Int)
      ·have:=hA.ec i gi
       rw [g2] at this
       exact .inl (.inr ⟨rfl,this⟩)
      ·refine .inr fun w c r q=>?_
       have ha:=h.arc i gi
       rcases q.way with⟨q1,_⟩ |⟨q1,_⟩
       ·have q1 :(gt n.arcs (i:Int)).from_.toNat=u:=q1; omega
       ·have q1 :(gt n.arcs (i:Int)).to.toNat=u:=q1; omega
    ·exact .inr fun w c r q=>gi q.lt
   ·rw [z0r _ _ _ _ (by omega) (by omega) (by omega),if_neg (by omega)] at hu'
    exact .inl (.inl (.inl hu'))
theorem zv1 (k47:List Int->List Arc->List Int->List Int->List Int->List (List Int)->List (List Int)->List Int->List Int->Option (Flow×Int×Unit)) (h:z4z n) (hφ:5000<φ) (hR:Rnd n x left p) (sup:List Int) (be en:List (List Int)) (d1 d2:List Int) (hA:Adj n be en) (G:Option (Flow×Int×Unit)->Prop)
  (fin:∀ D F S o,D.length=n.supply.length->F.length=n.supply.length->S.length=n.supply.length->(nwOf n).Found (atN x) (atN left) (atN p) (fun v=>decide (atN D v<farC)) (atN D) (atN F) (fun v=>(gt S (v:Int)).arc) (fun v=>(gt S (v:Int)).room) o->G (z26 φ k47 sup n.arcs D F S x left p be en d1 d2)) (e1 e2:List Int) (e3:List zd) :
  G (z32 φ k47 (left.length:Int) sup n.arcs x left p be en e1 e2 e3 d1 d2):=by
 have hk:=h.k
 have ll:=hR.ll
 unfold z32 zx
 rw [ll,z6 (mk_t _ _ (by omega) (by omega) (by omega)),z6 (mk_t _ _ (by omega) (by omega) (by omega)),z6 (mk_t _ _ (by omega) (by omega) (by omega))]
 rw [show ((n.supply.length:Int)).toNat=n.supply.length by omega]
 refine z0h (fun m i (st:List Int×List Int)=>z1d φ k47 m (n.supply.length:Int) (n.supply.length:Int) i sup n.arcs x left p be en st.1 st.2 (List.replicate n.supply.length (default:zd)) d1 d2) n.supply.length
  (fun i st=>st.1.length=n.supply.length/\st.2.length=n.supply.length/\∀ v:Nat,v<i->atN st.1 v =(if 0<atN left v then 0 else farC)/\atN st.2 v=-1) G ?_ ?_ φ (List.replicate n.supply.length (default:Int),List.replicate n.supply.length (default:Int)) ⟨by simp,by simp,fun v hv=>by omega⟩ (by omega)
 ·rintro m i ⟨D,F⟩ hi ⟨l1,l2,hI⟩ hs
  simp only at l1 l2 hI
  have hW:W ((i:Int)+1) =(i:Int)+1:=W_id (by omega) (by omega)
  have el:gt left (i:Int)=atN left i:=rfl
  show G (z1d φ k47 (m+1) (n.supply.length:Int) (n.supply.length:Int) (i:Int) sup n.arcs x left p be en D F _ d1 d2)
  rw [z1d,if_pos (by simp; omega),z6 ⟨by omega,by omega⟩,z6 ⟨by omega,by omega⟩,z6 ⟨by omega,by omega⟩,hW,el]
  by_cases g:0<atN left i
  ·rw [if_pos (by simpa using g),z6 ⟨by omega,by rw [z08]; omega⟩]
   refine hs (zr (zr D (i:Int) 1152921504606846976) (i:Int) 0,zr F (i:Int) (-1)) ⟨by simp only [z08]; exact l1,by simp only [z08]; exact l2,fun v hv=>?_⟩
   simp only
   rw [z8f _ (by rw [z08]; omega),z8f _ (by omega),z8f _ (by omega)]
   unfold setF
   by_cases e:v=i
   ·subst e; rw [if_pos rfl,if_pos rfl,if_pos g]; exact⟨rfl,rfl⟩
   ·rw [if_neg e,if_neg e,if_neg e]; exact hI v (by omega)
  ·rw [if_neg (by simpa using g)]
   refine hs (zr D (i:Int) 1152921504606846976,zr F (i:Int) (-1)) ⟨by simp only [z08]; exact l1,by simp only [z08]; exact l2,fun v hv=>?_⟩
   simp only
   rw [z8f _ (by omega),z8f _ (by omega)]
   unfold setF
   by_cases e:v=i
   ·subst e; rw [if_pos rfl,if_pos rfl,if_neg g]; exact⟨rfl,rfl⟩
   ·rw [if_neg e,if_neg e]; exact hI v (by omega)
 ·rintro m ⟨D,F⟩ ⟨l1,l2,hI⟩
  simp only at l1 l2 hI
  show G (z1d φ k47 (m+1) (n.supply.length:Int) (n.supply.length:Int) (n.supply.length:Int) sup n.arcs x left p be en D F _ d1 d2)
  rw [z1d,if_neg (by simp),z6 (mk_t _ _ (by omega) (by omega) (by omega)),show ((n.supply.length:Int)).toNat=n.supply.length by omega]
  have hdn:∀ u:Nat,gt (List.replicate n.supply.length (default:Bool)) (u:Int)=false:=fun u=>by
   unfold gt
   simp only [List.getD,w1m,w2r]
   split <;> rfl
  refine zuz k47 h hφ hR sup be en d1 d2 hA G fin n.supply.length φ 0 (fun _=>0) _ D F _ (by omega) (by omega) ⟨by simp,l1,l2,by simp,?_⟩
  have e1 :(fun v:Nat=>gt (List.replicate n.supply.length (default:Bool)) (v:Int))=fun _=>false:=by funext u; exact hdn u
  have e2 :(fun(u:Nat) (_:Nat)=>gt (List.replicate n.supply.length (default:Bool)) (u:Int)=true)=fun _ _=>False:=by
   funext u j; rw [hdn u]; simp
  rw [e1,e2]
  exact Nw.Srch.start (by simp [BB]) (fun v hv=>(hI v hv).1) (fun v hv=>(hI v hv).2)
end
end Px
end
section
namespace Px
open Go
theorem zrx (a b:Int):min2 a b=min a b:=by unfold min2; split <;> omega
theorem y7p (a b:Int):max2 a b=max a b:=by unfold max2; split <;> omega
section
variable {φ:Nat} {n:zj} {x left p:List Int}
variable (k47:List Int->List Arc->List Int->List Int->List Int->List (List Int)->List (List Int)->List Int->List Int->Option (Flow×Int×Unit))
theorem y8h (k:Nat) (hk:k<=256) (sup:List Int) (arcs:List Arc) (D F:List Int) (S:List zd) (be en:List (List Int)) (d1 d2:List Int) (lD:D.length=k) (ll:left.length=k) (hD0:∀ v:Nat,v<k->atN D v<farC->0<=atN D v) (G:Option (Flow×Int×Unit)->Prop)
  (fin0 :(∀ u:Nat,u<k->atN D u<farC->0<=atN left u)->G (z1z φ k47 false sup arcs x left p be en d1 d2))
  (fin1:∀(e:Nat) (z:Int),e<k->atN D e<farC->atN left e<0->0<=z->z<farC->(∀ u:Nat,u<k->atN D u<farC->atN D u<=z)->(z=0\/∃ u:Nat,u<k/\atN D u<farC/\atN D u=z)->
   G (z0v φ k47 φ (e:Int) z (k:Int) 0 sup arcs F S D x left p be en d1 d2))
  (m:Nat) (hm:k<m):G (z0i φ k47 m (-1) 0 (k:Int) 0 sup arcs D F S x left p be en d1 d2):=by
 refine z0h (fun m i (st:Int×Int)=>z0i φ k47 m st.1 st.2 (k:Int) i sup arcs D F S x left p be en d1 d2) k
  (fun i st=>((st.1=-1/\∀ u:Nat,u<i->atN D u<farC->0<=atN left u)\/∃ w:Nat,w<i/\st.1 =(w:Int)/\atN D w<farC/\atN left w<0)/\0<=st.2/\st.2<farC/\(∀ u:Nat,u<i->atN D u<farC->atN D u<=st.2)/\(st.2=0\/∃ u:Nat,u<i/\atN D u<farC/\atN D u=st.2)) G ?_ ?_ m (-1,0) ⟨.inl ⟨rfl,fun u hu=>by omega⟩,by simp,by simp [farC],fun u hu=>by omega,.inl rfl⟩ hm
 ·rintro m i ⟨e,z⟩ hi ⟨h1,h2,h3,h4,h5⟩ hs
  simp only at h1 h2 h3 h4 h5
  have hW:W ((i:Int)+1) =(i:Int)+1:=W_id (by omega) (by omega)
  have er:¬ e<0->(0:Int)<=e/\e <(D.length:Int):=fun hv=>by
   rcases h1 with⟨rfl,_⟩ |⟨w,hw,rfl,_⟩ <;> omega
  have eDi:gt D (i:Int)=atN D i:=rfl
  have eli:gt left (i:Int)=atN left i:=rfl
  show G (z0i φ k47 (m+1) e z (k:Int) (i:Int) sup arcs D F S x left p be en d1 d2)
  rw [z0i,if_pos (by simp; omega),z6 ⟨by omega,by omega⟩,hW,eDi,eli,y7p]
  by_cases g:atN D i<farC
  ·have hd0:=hD0 i hi g
   have hz1 :(∀ u:Nat,u<i+1->atN D u<farC->atN D u<=max z (atN D i)):=fun u hu hu'=>by
    by_cases q:u=i
    ·rw [q]; omega
    ·have:=h4 u (by omega) hu'; omega
   have hz2:max z (atN D i)=0\/∃ u:Nat,u<i+1/\atN D u<farC/\atN D u=max z (atN D i):=by
    by_cases q:z<=atN D i
    ·exact .inr ⟨i,by omega,g,by omega⟩
    ·rcases h5 with h5 |⟨u,u1,u2,u3⟩
     ·omega
     ·exact .inr ⟨u,by omega,u2,by omega⟩
   rw [if_pos (by simpa [farC] using g),z6 ⟨by omega,by omega⟩,z6 (fun q=>er (by simpa using q.2))]
   by_cases c :(decide (atN left i<0)&&(decide (e<0)||decide (atN D i<gt D e)))=true
   ·rw [if_pos c]
    simp only [w02,decide_eq_true_eq] at c
    exact hs ((i:Int),max z (atN D i)) ⟨.inr ⟨i,by omega,rfl,g,c.1⟩,by simp only; omega,by simp only; omega,hz1,hz2⟩
   ·rw [if_neg c]
    refine hs (e,max z (atN D i)) ⟨?_,by simp only; omega,by simp only; omega,hz1,hz2⟩
    simp only
    rcases h1 with⟨rfl,q1⟩ |⟨w,hw,rfl,q1,q2⟩
    ·refine .inl ⟨rfl,fun u hu hu'=>?_⟩
     by_cases q:u=i
     ·subst q
      simp only [w02,decide_eq_true_eq,w16] at c
      omega
     ·exact q1 u (by omega) hu'
    ·exact .inr ⟨w,by omega,rfl,q1,q2⟩
  ·rw [if_neg (by simpa [farC] using g)]
   refine hs (e,z) ⟨?_,h2,h3,fun u hu hu'=>?_,?_⟩
   ·simp only
    rcases h1 with⟨rfl,q1⟩ |⟨w,hw,rfl,q1,q2⟩
    ·refine .inl ⟨rfl,fun u hu hu'=>?_⟩
     by_cases q:u=i
     ·rw [q] at hu'; exact absurd hu' g
     ·exact q1 u (by omega) hu'
    ·exact .inr ⟨w,by omega,rfl,q1,q2⟩
   ·by_cases q:u=i
    ·rw [q] at hu'; exact absurd hu' g
    ·exact h4 u (by omega) hu'
   ·simp only
    rcases h5 with h5 |⟨u,u1,u2,u3⟩
    ·exact .inl h5
    ·exact .inr ⟨u,by omega,u2,u3⟩
 ·rintro m ⟨e,z⟩ ⟨h1,h2,h3,h4,h5⟩
  simp only at h1 h2 h3 h4 h5
  show G (z0i φ k47 (m+1) e z (k:Int) (k:Int) sup arcs D F S x left p be en d1 d2)
  rw [z0i,if_neg (by simp)]
  rcases h1 with⟨rfl,q1⟩ |⟨w,hw,rfl,q1,q2⟩
  ·rw [if_pos (by simp)]; exact fin0 q1
  ·rw [if_neg (by simp),lD]; exact fin1 w z hw q1 q2 h2 h3 h4 h5
theorem zvr (h:z4z n) (hR:Rnd n x left p) (sup:List Int) (D F:List Int) (S:List zd) (be en:List (List Int)) (d1 d2:List Int) (lD:D.length=n.supply.length) (e:Nat) (z:Int) (he:e<n.supply.length) (hD0:∀ v:Nat,v<n.supply.length->0<=atN D v/\min (atN D v) z<=26000000000000000) (hz0:0<=z) (G:Option (Flow×Int×Unit)->Prop)
  (fin:∀ q:List Int,q.length=n.supply.length->(∀ v:Nat,v<n.supply.length->atN q v=atN p v+min (atN D v) z)->G (z0l φ k47 φ (e:Int) (- atN left e) (e:Int) sup n.arcs F S x left q be en d1 d2))
  (m:Nat) (hm:n.supply.length<m):G (z0v φ k47 m (e:Int) z (n.supply.length:Int) 0 sup n.arcs F S D x left p be en d1 d2):=by
 have hk:=h.k
 have ll:=hR.ll
 refine z0h (fun m i (q:List Int)=>z0v φ k47 m (e:Int) z (n.supply.length:Int) i sup n.arcs F S D x left q be en d1 d2) n.supply.length
  (fun i q=>q.length=n.supply.length/\∀ v:Nat,v<n.supply.length->atN q v=atN p v+if v<i then min (atN D v) z else 0) G ?_ ?_ m p ⟨hR.lp,fun v hv=>by rw [if_neg (by omega)]; omega⟩ hm
 ·rintro m i q hi ⟨l1,hI⟩ hs
  have hW:W ((i:Int)+1) =(i:Int)+1:=W_id (by omega) (by omega)
  have eDi:gt D (i:Int)=atN D i:=rfl
  have eqi:gt q (i:Int)=atN p i:=by
   have:=hI i hi
   rw [if_neg (by omega)] at this
   show atN q i=_
   omega
  have hb:=hD0 i hi
  have hpb:=hR.pbd h hi
  show G (z0v φ k47 (m+1) (e:Int) z (n.supply.length:Int) (i:Int) sup n.arcs F S D x left q be en d1 d2)
  rw [z0v,if_pos (by simp; omega),z6 ⟨by omega,by omega⟩,z6 ⟨by omega,by omega⟩,z6 ⟨by omega,by omega⟩,hW,eDi,eqi,zrx,W_id (x:=atN p i+min (atN D i) z) (by omega) (by omega)]
  refine hs _ ⟨by rw [z08]; exact l1,fun v hv=>?_⟩
  rw [z8f _ (by omega)]
  unfold setF
  by_cases c:v=i
  ·subst c; rw [if_pos rfl,if_pos (by omega)]
  ·rw [if_neg c,hI v hv]
   by_cases c2:v<i
   ·rw [if_pos c2,if_pos (by omega)]
   ·rw [if_neg c2,if_neg (by omega)]
 ·rintro m q ⟨l1,hI⟩
  show G (z0v φ k47 (m+1) (e:Int) z (n.supply.length:Int) (n.supply.length:Int) sup n.arcs F S D x left q be en d1 d2)
  have hlb:=hR.lbd h he
  have el:gt left (e:Int)=atN left e:=rfl
  rw [z0v,if_neg (by simp),z6 ⟨by omega,by omega⟩,el,W_id (x:=0-atN left e) (by omega) (by omega),Int.zero_sub]
  exact fin q l1 fun v hv=>by rw [hI v hv,if_pos hv]
end
section
variable {φ:Nat} {n:zj} {x left p:List Int} {D F:List Int} {S:List zd} {o:Nat->Nat}
variable (k47:List Int->List Arc->List Int->List Int->List Int->List (List Int)->List (List Int)->List Int->List Int->Option (Flow×Int×Unit))
theorem zv8 (h:z4z n) (hF :(nwOf n).Found (atN x) (atN left) (atN p) (fun v=>decide (atN D v<farC)) (atN D) (atN F) (fun v=>(gt S (v:Int)).arc) (fun v=>(gt S (v:Int)).room) o) (lF:F.length=n.supply.length) (lS:S.length=n.supply.length) (ll:left.length=n.supply.length)
  (sup:List Int) (arcs:List Arc) (X:List Int) (q:List Int) (be en:List (List Int)) (d1 d2:List Int) (e:Int) (R:Option (Flow×Int×Unit)) :
  ∀(d m:Nat) (v:Nat) (amt:Int),o v<d->d<=m->v<n.supply.length->atN D v<farC->
   (∀ s:Nat,s =(amtP (atN F) (fun v=>(gt S (v:Int)).room) d v amt).2->s<n.supply.length->atN F s<0->z0l φ k47 1 e (amtP (atN F) (fun v=>(gt S (v:Int)).room) d v amt).1 (s:Int) sup arcs F S X left q be en d1 d2=R)->
   z0l φ k47 m e amt (v:Int) sup arcs F S X left q be en d1 d2=R:=by
 intro d
 induction d with
 | zero=>intro m v amt h0; omega
 | succ d ih=>
  intro m v amt ho hm hv hD hfin
  obtain⟨m,rfl⟩:∃ m',m=m'+1:=⟨m-1,by omega⟩
  have eF:gt F (v:Int)=atN F v:=rfl
  rcases hF.tr v hv (by simpa using hD) with⟨g1,g2⟩ |⟨u,c,ef,hu,ru,ho',_,hs,_⟩
  ·have hf:amtP (atN F) (fun v=>(gt S (v:Int)).room) (d+1) v amt =(amt,v):=by unfold amtP; rw [if_neg (by omega)]
   rw [hf] at hfin
   have:=hfin v rfl hv g1
   rw [<- this,z0l,z0l,eF]
   rw [if_neg (by simpa using g1),if_neg (by simpa using g1)]
  ·have hf:amtP (atN F) (fun v=>(gt S (v:Int)).room) (d+1) v amt=amtP (atN F) (fun v=>(gt S (v:Int)).room) d u (min amt (gt S (v:Int)).room):=by
    rw [amtP,if_pos (by omega),show (atN F v).toNat=u by omega]
   rw [hf] at hfin
   rw [z0l,z6 ⟨by omega,by omega⟩,eF,if_pos (by simp; omega),z6 ⟨by omega,by omega⟩,z6 ⟨by omega,by omega⟩,zrx,ef]
   exact ih m u _ (by omega) (by omega) hu (by simpa using ru) hfin
theorem y0w (h:z4z n) (hF :(nwOf n).Found (atN x) (atN left) (atN p) (fun v=>decide (atN D v<farC)) (atN D) (atN F) (fun v=>(gt S (v:Int)).arc) (fun v=>(gt S (v:Int)).room) o) (lF:F.length=n.supply.length) (lS:S.length=n.supply.length)
  (sup:List Int) (L:List Int) (q:List Int) (be en:List (List Int)) (d1 d2:List Int) (amt:Int) (ha:0<=amt/\amt<=1000000000) (G:Option (Flow×Int×Unit)->Prop) :
  ∀(d m:Nat) (v:Nat) (y:List Int),o v<d->d<=m->d<=300->v<n.supply.length->atN D v<farC->y.length=n.arcs.length->(∀ j,j<n.arcs.length->-(1000000000 *(600 -(d:Int)))<=atN y j/\atN y j<=1000000000 *(600 -(d:Int)))->
   (∀ y':List Int,y'.length=n.arcs.length->atN y'=augP (nwOf n) (atN F) (fun v=>(gt S (v:Int)).arc) amt d v (atN y)->G (z1z φ k47 true sup n.arcs y' L q be en d1 d2))->
   G (z25 φ k47 m amt (v:Int) sup n.arcs F S y L q be en d1 d2):=by
 intro d
 induction d with
 | zero=>intro m v y h0; omega
 | succ d ih=>
  intro m v y ho hm hd hv hD ly hyb hfin
  obtain⟨m,rfl⟩:∃ m',m=m'+1:=⟨m-1,by omega⟩
  have eF:gt F (v:Int)=atN F v:=rfl
  rcases hF.tr v hv (by simpa using hD) with⟨g1,g2⟩ |⟨u,c,ef,hu,ru,ho',ha0,hs,_⟩
  ·rw [z25,z6 ⟨by omega,by omega⟩,eF,if_neg (by simpa using g1)]
   exact hfin y ly (by unfold augP; rw [if_neg (by omega)])
  ·have hj:=hs.lt
   have hj :((gt S (v:Int)).arc).toNat<n.arcs.length:=hj
   obtain⟨j,ej⟩:=w1v ha0
   have ej :(gt S (v:Int)).arc =(j:Int):=ej
   rw [ej] at hj
   have hj:j<n.arcs.length:=by omega
   obtain⟨a1,a2,a3,a4,a5,_⟩:=h.arc j hj
   have hyj:=hyb j hj
   have eyj:gt y (j:Int)=atN y j:=rfl
   have haug:augP (nwOf n) (atN F) (fun v=>(gt S (v:Int)).arc) amt (d+1) v (atN y)=augP (nwOf n) (atN F) (fun v=>(gt S (v:Int)).arc) amt d u (setF (atN y) j (if(nwOf n).to j=v/\(nwOf n).fr j=u then atN y j+amt else atN y j-amt)):=by
    rw [augP,if_pos (by omega),show (atN F v).toNat=u by omega]
    show augP _ _ _ _ _ _ (setF (atN y) ((gt S (v:Int)).arc).toNat (if(nwOf n).to ((gt S (v:Int)).arc).toNat=v/\(nwOf n).fr ((gt S (v:Int)).arc).toNat=u then _ else _))=_
    rw [ej,show ((j:Int)).toNat=j by omega]
   have hto :(nwOf n).to j=v↔(gt n.arcs (j:Int)).to =(v:Int):=by show (gt n.arcs (j:Int)).to.toNat=v↔_; omega
   have hfr :(nwOf n).fr j=u↔(gt n.arcs (j:Int)).from_ =(u:Int):=by show (gt n.arcs (j:Int)).from_.toNat=u↔_; omega
   rw [z25,z6 ⟨by omega,by omega⟩,eF,if_pos (by simp; omega),z6 ⟨by omega,by omega⟩,ej,z6 ⟨by omega,by omega⟩,z6 (fun _=>⟨by omega,by omega⟩),z6 (fun _=>⟨by omega,by omega⟩),ef,eyj]
   have next:∀ w:Int,-(1000000000 *(600 -(d:Int)))<=w->w<=1000000000 *(600 -(d:Int))->(if(nwOf n).to j=v/\(nwOf n).fr j=u then atN y j+amt else atN y j-amt)=w->G (z25 φ k47 m amt (u:Int) sup n.arcs F S (zr y (j:Int) w) L q be en d1 d2):=fun w w1 w2 hw=>by
    refine ih m u (zr y (j:Int) w) (by omega) (by omega) (by omega) hu (by simpa using ru) (by rw [z08]; exact ly) (fun j' hj'=>?_) fun y' ly' hy'=>hfin y' ly' ?_
    ·rw [z8f _ (by omega)]
     unfold setF
     split
     ·exact⟨w1,w2⟩
     ·have:=hyb j' hj'
      omega
    ·rw [hy',haug,z8f _ (by omega),hw]
   by_cases g :(gt n.arcs (j:Int)).to =(v:Int)/\(gt n.arcs (j:Int)).from_ =(u:Int)
   ·rw [if_pos (by simp [g.1,g.2]),z6 ⟨by omega,by omega⟩,z6 ⟨by omega,by omega⟩]
    unfold z4u
    rw [z6 ⟨by omega,by omega⟩,eF,ef,W_id (x:=atN y j+amt) (by omega) (by omega)]
    exact next _ (by omega) (by omega) (if_pos ⟨hto.2 g.1,hfr.2 g.2⟩)
   ·rw [if_neg (by simp only [w02,beq_iff_eq]; exact g),z6 ⟨by omega,by omega⟩,z6 ⟨by omega,by omega⟩]
    unfold z4u
    rw [z6 ⟨by omega,by omega⟩,eF,ef,W_id (x:=atN y j-amt) (by omega) (by omega)]
    exact next _ (by omega) (by omega) (if_neg fun q=>g ⟨hto.1 q.1,hfr.1 q.2⟩)
end
end Px
end
section
namespace Px
open Go
theorem zm7 {n:Nat} {f:Nat->Int} (h:∀ i,i<n->f i=0):sumN n f=0:=(zt h).trans (z4d n)
def muL (k:Nat) (left:List Int):Int:=sumN k fun v=>max (atN left v) 0
structure zxl (n:zj) (f:Flow):Prop where
 lx:f.x.length=n.arcs.length
 lp:f.price.length=n.supply.length
 feas :(nwOf n).Feas (atN n.supply) (atN f.x)
 tight :(nwOf n).Tight (atN f.x) (atN f.price)
 pr:∀ v:Nat,v<n.supply.length->0<=atN f.price v/\atN f.price v<=66000000000000
section
variable {φ:Nat} {n:zj} {x left p:List Int}
theorem zo6 (h:z4z n):∀ i,i <(nwOf n).m->0<=(nwOf n).cost i/\(nwOf n).cost i<=1000000000:=fun i hi=>by
 have:=h.arc i hi
 exact⟨this.2.2.2.2.2.2.2.1,this.2.2.2.2.2.2.2.2⟩
theorem zmi (k47:List Int->List Arc->List Int->List Int->List Int->List (List Int)->List (List Int)->List Int->List Int->Option (Flow×Int×Unit)) (h:z4z n) (hφ:5000<φ) (hR:Rnd n x left p) {y:Nat->Int} (hy :(nwOf n).Feas (atN n.supply) y) (sup:List Int) (be en:List (List Int)) (d1 d2:List Int) (hA:Adj n be en) (G:Option (Flow×Int×Unit)->Prop)
  (fin0 :(∀ v:Nat,v<n.supply.length->atN left v=0)->G (z1z φ k47 false sup n.arcs x left p be en d1 d2))
  (fin1:∀ x' left' p',Rnd n x' left' p'->muL n.supply.length left'+1<=muL n.supply.length left->G (k47 sup n.arcs x' left' p' be en d1 d2)) (e1 e2:List Int) (e3:List zd) :
  G (z32 φ k47 (left.length:Int) sup n.arcs x left p be en e1 e2 e3 d1 d2):=by
 have hk:=h.k
 have ll:=hR.ll
 refine zv1 k47 h hφ hR sup be en d1 d2 hA G (fun D F S o lD lF lS hF=>?_) e1 e2 e3
 unfold z26 z0n
 rw [lD]
 have hd0:∀ v:Nat,v<n.supply.length->atN D v<farC->0<=atN D v:=fun v hv g=>hF.d0 v hv (by simpa using g)
 refine y8h k47 n.supply.length hk sup n.arcs D F S be en d1 d2 lD ll hd0 G (fun h0=>fin0 ?_) (fun e z he hDe hle z0 zf zm za=>?_) φ (by omega)
 ·refine Nw.cut h.nw hR.inv hy h.sum (fun v=>decide (atN D v<farC)) (fun v hv g=>(hF.src v hv g).1) (fun u w i c r hs g=>(hF.cl u w i c r hs g).1) fun v hv g=>h0 v hv (by simpa using g)
 ·-- the new prices
  have hq0:NewP (nwOf n).k (atN p) (fun v=>decide (atN D v<farC)) (atN D) z (fun v=>atN p v+bif decide (atN D v<farC) then atN D v else z):=by
   refine⟨z0,fun v hv g=>zm v hv (by simpa using g),?_,fun v hv=>rfl⟩
   rcases za with za |⟨u,u1,u2,u3⟩
   ·exact .inl za
   ·exact .inr ⟨u,u1,by simpa using u2,u3⟩
  have hlim:∀ v:Nat,v<n.supply.length->atN D v<farC->atN D v<=256000000000:=fun v hv g=>by
   have h1:=hF.le_o h.nw (zo6 h) (by omega) hR.pb hq0 _ v (w2t _) hv (by simpa using g)
   have h2:=hF.ord v hv (by simpa using g)
   have h2:o v<n.supply.length:=h2
   have h3:=hR.pb.p0 v hv
   rw [show decide (atN D v<farC)=true by simpa using g] at h1
   simp only [cond_true] at h1
   have h4 :(o v:Int)*1000000000<=256*1000000000:=w21 (by omega) (by omega)
   omega
  have hzl:z<=256000000000:=by
   rcases za with za |⟨u,u1,u2,u3⟩
   ·omega
   ·rw [<- u3]; exact hlim u u1 u2
  refine zvr k47 h hR sup D F S be en d1 d2 lD e z he (fun v hv=>⟨?_,by omega⟩) z0 G (fun q lq hqv=>?_) φ (by omega)
  ·by_cases g:atN D v<farC
   ·exact hd0 v hv g
   ·simp only [farC] at g; omega
  have hq:NewP (nwOf n).k (atN p) (fun v=>decide (atN D v<farC)) (atN D) z (atN q):=by
   refine⟨z0,hq0.zmax,hq0.zat,fun v hv=>?_⟩
   rw [hqv v hv]
   by_cases g:atN D v<farC
   ·rw [show decide (atN D v<farC)=true by simpa using g]
    have:=zm v hv g
    simp only [cond_true]; omega
   ·rw [show decide (atN D v<farC)=false by simpa using g]
    simp only [cond_false]
    simp only [farC] at g zf; omega
  have hRe :(fun v=>decide (atN D v<farC)) e=true:=by simpa using hDe
  have hoe:o e<n.supply.length:=hF.ord e he hRe
  generalize hA1:amtP (atN F) (fun v=>(gt S (v:Int)).room) (n.supply.length+1) e (- atN left e)=A at *
  have hrd:=hF.round (b:=atN n.supply) h.nw hR.inv hq (m:=n.supply.length+1) (e:=e) he hRe hle (by omega) (n:=min A.1 (atN left A.2)) (s:=A.2) (by rw [hA1]) (by rw [hA1])
  obtain⟨n1,s1,sR,sl,es,hInv,nl,ne⟩:=hrd
  have s1:A.2<n.supply.length:=s1
  have hlb:=hR.lbd h s1
  have hlbe:=hR.lbd h he
  -- what is sent
  rw [zv8 k47 h hF lF lS ll sup n.arcs x q be en d1 d2 (e:Int) (z0l φ k47 1 (e:Int) A.1 (A.2:Int) sup n.arcs F S x left q be en d1 d2) (n.supply.length+1) φ e (- atN left e) (by omega) (by omega) he hDe (fun s hs hsk hFs=>by rw [hA1] at hs ⊢; rw [hs])]
  have eFs:gt F (A.2:Int)=atN F A.2:=rfl
  have els:gt left (A.2:Int)=atN left A.2:=rfl
  have hFs:atN F A.2<0:=by
   have key:∀(d v:Nat) (amt:Int),o v<d->v<n.supply.length->atN D v<farC->atN F (amtP (atN F) (fun v=>(gt S (v:Int)).room) d v amt).2<0:=by
    intro d
    induction d with
    | zero=>intro v amt h0; omega
    | succ d ih=>
     intro v amt ho hv hD
     rcases hF.tr v hv (by simpa using hD) with⟨g1,g2⟩ |⟨u,c,ef,hu,ru,ho',_,hs,_⟩
     ·unfold amtP; rw [if_neg (by omega)]; exact g1
     ·unfold amtP; rw [if_pos (by omega),show (atN F v).toNat=u by omega]
      exact ih u _ (by omega) hu (by simpa using ru)
   have:=key (n.supply.length+1) e (- atN left e) (by omega) he hDe
   rw [hA1] at this; exact this
  have e2':gt (zr left (A.2:Int) (atN left A.2-min A.1 (atN left A.2))) (e:Int)=atN left e:=by
   rw [z0r _ _ _ _ (by omega) (by omega) (by omega),if_neg (by omega)]; rfl
  rw [z0l,z6 ⟨by omega,by omega⟩,eFs,if_neg (by simpa using hFs),z6 ⟨by omega,by omega⟩,z6 ⟨by omega,by omega⟩,z6 ⟨by omega,by omega⟩,els,zrx,W_id (x:=atN left A.2-min A.1 (atN left A.2)) (by omega) (by omega),z6 ⟨by omega,by rw [z08]; omega⟩,z6 ⟨by omega,by rw [z08]; omega⟩,e2',W_id (x:=atN left e+min A.1 (atN left A.2)) (by omega) (by omega)]
  have hsent:atN (zr (zr left (A.2:Int) (atN left A.2-min A.1 (atN left A.2))) (e:Int) (atN left e+min A.1 (atN left A.2)))=zqd (atN left) e A.2 (min A.1 (atN left A.2)):=by
   rw [z8f _ (by rw [z08]; omega),z8f _ (by omega)]
   funext v
   unfold setF zqd
   by_cases c1:v=e
   ·rw [if_pos c1,if_pos c1,if_neg (by omega),c1]; omega
   ·rw [if_neg c1,if_neg c1]
    by_cases c2:v=A.2
    ·rw [if_pos c2,if_pos c2,c2]; omega
    ·rw [if_neg c2,if_neg c2]; omega
  refine y0w k47 h hF lF lS sup _ q be en d1 d2 _ ⟨by omega,by omega⟩ G (n.supply.length+1) φ e x (by omega) (by omega) (by omega) he hDe hR.lx (fun j hj=>?_) fun y' ly' hy'=>?_
  ·have:=hR.xbd h hj
   omega
  ·unfold z1z
   rw [if_pos rfl]
   refine fin1 y' _ q ⟨ly',by rw [z08,z08]; exact ll,lq,?_,?_⟩ ?_
   ·rw [hy',hsent]; exact hInv
   ·have hpb:=hF.pb h.nw (zo6 h) (by omega) hR.pb hq
    rw [hsent]
    refine⟨hpb.p0,fun v hv g=>hpb.src v hv ?_,hpb.top⟩
    unfold zqd at g
    by_cases c1:v=e
    ·subst c1
     rw [if_pos rfl,if_neg (by omega)] at g; omega
    ·rw [if_neg c1] at g
     split at g <;> omega
   ·unfold muL
    rw [hsent]
    refine zgs (v:=A.2) s1 (fun v hv=>?_) ?_
    ·unfold zqd
     by_cases c1:v=e
     ·subst c1; rw [if_pos rfl,if_neg (by omega)]; omega
     ·rw [if_neg c1]
      split <;> omega
    ·unfold zqd
     rw [if_neg (by omega),if_pos rfl]; omega
theorem y05 {k47:List Int->List Arc->List Int->List Int->List Int->List (List Int)->List (List Int)->List Int->List Int->Option (Flow×Int×Unit)} (h:z4z n) (hφ:5000<φ) (hR:Rnd n x left p) (sup:List Int) (be en:List (List Int)) (d1 d2:List Int) (h0:∀ v:Nat,v<n.supply.length->atN left v=0) :
  ∃ f,z1z φ k47 false sup n.arcs x left p be en d1 d2=some (f,0,())/\zxl n f:=by
 have hk:=h.k
 have ll:=hR.ll
 refine⟨⟨x,p⟩,?_,hR.lx,hR.lp,⟨hR.inv.bnd,fun v hv=>by rw [<- hR.inv.exc v hv]; exact h0 v hv⟩,hR.inv.red,fun v hv=>hR.pbd h hv⟩
 unfold z1z
 rw [if_neg (by simp)]
 refine z0h (fun m i (_:Unit)=>z2r φ m (left.length:Int) i left sup n.arcs d1 d2 x p be en) left.length (fun _ _=>True) (fun r=>r=some (⟨x,p⟩,0,())) ?_ ?_ φ () trivial (by omega)
 ·intro m i _ hi _ hs
  have e:gt left (i:Int)=0:=h0 i (by omega)
  show z2r φ (m+1) (left.length:Int) (i:Int) left sup n.arcs d1 d2 x p be en=_
  rw [z2r,if_pos (by simp; omega),z6 ⟨by omega,by omega⟩,e,if_neg (by simp),W_id (by omega) (by omega)]
  exact hs () trivial
 ·intro m _ _
  show z2r φ (m+1) (left.length:Int) (left.length:Int) left sup n.arcs d1 d2 x p be en=_
  rw [z2r,if_neg (by simp)]; rfl
theorem y0g (h:z4z n) (hφ:5000<φ) {y:Nat->Int} (hy :(nwOf n).Feas (atN n.supply) y) (sup:List Int) (be en:List (List Int)) (d1 d2:List Int) (hA:Adj n be en) :
  ∀(d m:Nat) (x left p:List Int),muL n.supply.length left<=(d:Int)->d<m->Rnd n x left p->∃ f,z2p φ m sup n.arcs x left p be en d1 d2=some (f,0,())/\zxl n f:=by
 have hk:=h.k
 intro d
 induction d with
 | zero=>
  intro m x left p hmu hm hR
  obtain⟨m,rfl⟩:∃ m',m=m'+1:=⟨m-1,by omega⟩
  rw [z2p]
  refine zmi _ h hφ hR hy sup be en d1 d2 hA (fun r=>∃ f,r=some (f,0,())/\zxl n f) (fun h0=>?_) (fun x' left' p' hR' hmu'=>?_) [] [] []
  ·exact y05 h hφ hR sup be en d1 d2 h0
  ·have:0<=muL n.supply.length left':=z52 fun v hv=>by omega
   omega
 | succ d ih=>
  intro m x left p hmu hm hR
  obtain⟨m,rfl⟩:∃ m',m=m'+1:=⟨m-1,by omega⟩
  rw [z2p]
  refine zmi _ h hφ hR hy sup be en d1 d2 hA (fun r=>∃ f,r=some (f,0,())/\zxl n f) (fun h0=>?_) (fun x' left' p' hR' hmu'=>?_) [] [] []
  ·exact y05 h hφ hR sup be en d1 d2 h0
  ·exact ih m x' left' p' (by omega) (by omega) hR'
theorem zuk (m v:Nat):atN (List.replicate m (default:Int)) v=0:=by
 unfold atN gt
 simp only [List.getD,w1m,w2r]
 split <;> rfl
theorem y3c {n:zj} (hc:zsm n=0) (hφ:5000<φ) (hmu:muL n.supply.length n.supply <(φ:Int)) {y:Nat->Int} (hy :(nwOf n).Feas (atN n.supply) y):∃ f,z8w φ n=some (f,0,())/\zxl n f:=by
 have h:=zzd hc
 have hk:=h.k
 have hm:=h.m
 unfold z8w
 rw [zf7 φ n hφ,hc,w04,if_neg (by simp)]
 unfold z4s z7j
 rw [z6 (mk_t _ _ (by omega) (by omega) (by omega)),z6 (by simp [fits]; omega),z6 (mk_t _ _ (by omega) (by omega) (by omega)),z6 (mk_t _ _ (by omega) (by omega) (by omega)),z6 (mk_t _ _ (by omega) (by omega) (by omega))]
 rw [show ((n.supply.length:Int)).toNat=n.supply.length by omega,show ((n.arcs.length:Int)).toNat=n.arcs.length by omega,w39]
 obtain⟨be,en,hA,he⟩:=y6p φ h hφ n.supply (List.replicate n.arcs.length (default:Int)) n.supply (List.replicate n.supply.length (default:Int)) [] [] n.arcs
 have he':z16 φ φ n.arcs (n.arcs.length:Int) 0 n.supply n.arcs (List.replicate n.arcs.length (default:Int)) n.supply (List.replicate n.supply.length (default:Int)) (List.replicate n.supply.length (default:List Int)) (List.replicate n.supply.length (default:List Int)) [] []=_:=he
 rw [he']
 have hz:atN (List.replicate n.arcs.length (default:Int))=fun _=>0:=by funext v; exact zuk _ v
 have hz2:atN (List.replicate n.supply.length (default:Int))=fun _=>0:=by funext v; exact zuk _ v
 refine y0g h hφ hy n.supply be en [] [] hA (muL n.supply.length n.supply).toNat φ _ n.supply _ (by omega) (by omega) ⟨by simp,rfl,by simp,?_,?_⟩
 ·rw [hz,hz2]
  refine⟨fun i hi=>⟨w1p _,?_⟩,fun v hv=>?_,fun i hi=>⟨fun _=>?_,fun q=>by simp at q⟩,fun v hv g=>⟨g,w1p _⟩,fun v hv g=>⟨w1p _,g⟩⟩
  ·have:=h.arc i hi
   exact this.2.2.2.2.2.1
  ·unfold Nw.exc
   have e1 :(nwOf n).outS (fun _=>0) v=0:=zm7 fun j hj=>by split <;> rfl
   have e2 :(nwOf n).inS (fun _=>0) v=0:=zm7 fun j hj=>by split <;> rfl
   rw [e1,e2]; omega
  ·unfold Nw.rc
   have:=(zo6 h i hi).1
   simpa using this
 ·rw [hz2]
  refine⟨fun v hv=>w1p _,fun v hv g=>rfl,fun v hv=>?_⟩
  have h1:0<=((nwOf n).k:Int)*1000000000:=w2d (by omega) (by omega)
  have h2:0<=sumN (nwOf n).k fun w=>min (0:Int) (((nwOf n).k:Int)*1000000000):=z52 fun w hw=>by omega
  exact Int.add_nonneg h1 h2
end
end Px
end
section
namespace Px
open Go
def arcS (u:Int) (s:List zb) (i:Nat):Arc:=⟨(i:Int),u+1,(gt s (i:Int)).count,0⟩
def arcO (u a:Int) (o:List zk) (k:Nat):Arc:=⟨u,a +(k:Int),(gt o (k:Int)).count,(gt o (k:Int)).weight⟩
theorem zoy (φ:Nat) (u ord:Int) (s:List zb) (sup:List Int) (arcs:List Arc) (hs:s.length<=6) (ha:arcs.length<=1000) (hu:0<=u/\u<=1000) (m:Nat) (hm:s.length<m) :
  z1e φ m u ord s (s.length:Int) 0 sup arcs=z0w φ sup (arcs++(List.range s.length).map (arcS u s)++[⟨u,u+1,ord,0⟩]):=by
 have hu1:W (u+1)=u+1:=W_id (by omega) (by omega)
 refine z0h (fun m i acc=>z1e φ m u ord s (s.length:Int) i sup acc) s.length (fun i acc=>acc=arcs++(List.range i).map (arcS u s)) (fun o=>o=z0w φ sup (arcs++(List.range s.length).map (arcS u s)++[⟨u,u+1,ord,0⟩])) ?_ ?_ m arcs (by simp) hm
 ·intro m i acc hi hI hG
  have hW:W ((i:Int)+1) =(i:Int)+1:=W_id (by omega) (by omega)
  have hlen:acc.length=arcs.length+i:=by rw [hI]; simp
  show z1e φ (m+1) u ord s (s.length:Int) (i:Int) sup acc=_
  rw [z1e,if_pos (by simp; omega),z6 ⟨by omega,by omega⟩,z6 (by simp [fits,hlen]; omega),if_neg (by simp),hW,hu1]
  refine hG _ ?_
  rw [hI,w1j,w28,w0p]; rfl
 ·intro m acc hI
  have hlen:acc.length=arcs.length+s.length:=by rw [hI]; simp
  show z1e φ (m+1) u ord s (s.length:Int) (s.length:Int) sup acc=_
  rw [z1e,if_neg (by simp),z6 (by simp [fits,hlen]; omega),hu1,hI]
def sumC (o:List zk):Nat->Int
 | 0=>0
 | k+1=>sumC o k +(gt o (k:Int)).count
theorem zvx (φ:Nat) (u:Int) (s:List zb) (o:List zk) (sup:List Int) (arcs:List Arc) (hs:s.length<=6) (ho:o.length<=6) (hc:∀ k:Nat,k<o.length->0<=(gt o (k:Int)).count/\(gt o (k:Int)).count<=1000000) (ha:arcs.length<=500) (hu:0<=u/\u<=1000) (hφ:1000<φ) (m:Nat) (hm:o.length<m) :
  z0k φ m u 0 o (o.length:Int) 0 s sup arcs=z0w φ sup (arcs++(List.range o.length).map (arcO u (s.length:Int) o)++(List.range s.length).map (arcS u s)++[⟨u,u+1,sumC o o.length,0⟩]):=by
 refine z0h (fun m i (st:Int×List Arc)=>z0k φ m u st.1 o (o.length:Int) i s sup st.2) o.length (fun i st=>st.1=sumC o i/\0<=st.1/\st.1<=1000000 *(i:Int)/\st.2=arcs++(List.range i).map (arcO u (s.length:Int) o))
  (fun r=>r=z0w φ sup (arcs++(List.range o.length).map (arcO u (s.length:Int) o)++(List.range s.length).map (arcS u s)++[⟨u,u+1,sumC o o.length,0⟩])) ?_ ?_ m (0,arcs) ⟨rfl,by simp,by simp,by simp⟩ hm
 ·rintro m i ⟨c,acc⟩ hi ⟨h1,h2,h3,hI⟩ hG
  simp only at h1 h2 h3 hI
  have hW:W ((i:Int)+1) =(i:Int)+1:=W_id (by omega) (by omega)
  have hW2:W ((s.length:Int) +(i:Int)) =(s.length:Int) +(i:Int):=W_id (by omega) (by omega)
  have hci:=hc i hi
  have hW3:W (c +(gt o (i:Int)).count)=c +(gt o (i:Int)).count:=W_id (by omega) (by omega)
  have hlen:acc.length=arcs.length+i:=by rw [hI]; simp
  show z0k φ (m+1) u c o (o.length:Int) (i:Int) s sup acc=_
  rw [z0k,if_pos (by simp; omega),z6 ⟨by omega,by omega⟩,z6 (by simp [fits,hlen]; omega),if_neg (by simp),hW,hW2,hW3]
  refine hG (c +(gt o (i:Int)).count,_) ⟨by rw [h1]; rfl,by omega,by push_cast; omega,?_⟩
  simp only
  rw [hI,w1j,w28,w0p]; rfl
 ·rintro m ⟨c,acc⟩ ⟨h1,h2,h3,hI⟩
  simp only at h1 h2 h3 hI
  have hlen:acc.length=arcs.length+o.length:=by rw [hI]; simp
  show z0k φ (m+1) u c o (o.length:Int) (o.length:Int) s sup acc=_
  rw [z0k,if_neg (by simp),zoy φ u c s sup acc hs (by omega) hu φ (by omega),hI,h1]
end Px
end
section
namespace Px
open Go
def arcP (s:List zb) (o:List zk) (c:Nat->Nat->Int) (b:Nat->Nat->Bool) (i k:Nat):List Arc:=
 bif b i k then [⟨(i:Int),(s.length:Int) +(k:Int),min2 (gt s (i:Int)).count (gt o (k:Int)).count,c i k⟩] else []
def arcR (s:List zb) (o:List zk) (c:Nat->Nat->Int) (b:Nat->Nat->Bool) (i:Nat):List Arc:=(List.range o.length).flatMap (arcP s o c b i)
theorem ziu {s:List zb} {o:List zk} {c:Nat->Nat->Int} {b:Nat->Nat->Bool} (i:Nat):∀ n:Nat,((List.range n).flatMap (arcP s o c b i)).length<=n
 | 0=>by simp
 | n+1=>by
  rw [w1j,w1i,w0f]
  have:=ziu (s:=s) (o:=o) (c:=c) (b:=b) i n
  have h2 :([n].flatMap (arcP s o c b i)).length<=1:=by
   simp only [w0m,w4v,w0d,arcP]
   cases b i n <;> simp
  omega
theorem zfm {s:List zb} {o:List zk} {c:Nat->Nat->Int} {b:Nat->Nat->Bool} (ho:o.length<=6):∀ n:Nat,((List.range n).flatMap (arcR s o c b)).length<=6*n
 | 0=>by simp
 | n+1=>by
  rw [w1j,w1i,w0f]
  have:=zfm (s:=s) (o:=o) (c:=c) (b:=b) ho n
  have h2 :([n].flatMap (arcR s o c b)).length<=6:=by
   simp only [w0m,w4v,w0d,arcR]
   have:=ziu (s:=s) (o:=o) (c:=c) (b:=b) n o.length
   omega
  omega
theorem y86 (φ:Nat) (k42:Int->Int->List zb->Int->Int->List zb->List zk->Pool->List Int->List Arc->Option (zj×Int×Unit)) (u ord:Int) (p:Pool) (s:List zb) (o:List zk) (sup:List Int) (c:Nat->Nat->Int) (b:Nat->Nat->Bool) (i:Nat)
  (hsu:∀ k:Nat,k<o.length->z18 φ p (gt s (i:Int)) (gt o (k:Int))=some (c i k,b i k,())) (hs:s.length<=6) (ho:o.length<=6) (acc:List Arc) (ha:acc.length<=100) (m:Nat) (hm:o.length<m) :
  z0t φ k42 m u ord (i:Int) s (s.length:Int) (i:Int) o (o.length:Int) 0 s o p (gt s (i:Int)) sup acc=k42 u ord s (s.length:Int) (W ((i:Int)+1)) s o p sup (acc++arcR s o c b i):=by
 refine z0h (fun m k acc=>z0t φ k42 m u ord (i:Int) s (s.length:Int) (i:Int) o (o.length:Int) k s o p (gt s (i:Int)) sup acc) o.length (fun k a=>a=acc++(List.range k).flatMap (arcP s o c b i))
  (fun r=>r=k42 u ord s (s.length:Int) (W ((i:Int)+1)) s o p sup (acc++arcR s o c b i)) ?_ ?_ m acc (by simp) hm
 ·intro m k a hk hI hG
  have hW:W ((k:Int)+1) =(k:Int)+1:=W_id (by omega) (by omega)
  have hW2:W ((s.length:Int) +(k:Int)) =(s.length:Int) +(k:Int):=W_id (by omega) (by omega)
  have hlen:a.length<=110:=by
   rw [hI,w0f]
   have:=ziu (s:=s) (o:=o) (c:=c) (b:=b) i k
   omega
  show z0t φ k42 (m+1) u ord (i:Int) s (s.length:Int) (i:Int) o (o.length:Int) (k:Int) s o p (gt s (i:Int)) sup a=_
  rw [z0t,if_pos (by simp; omega),z6 ⟨by omega,by omega⟩,hsu k hk,w04,hW,hW2]
  have hstep:∀ a',a'=a++arcP s o c b i k->a'=acc++(List.range (k+1)).flatMap (arcP s o c b i):=fun a' e=>by
   rw [e,hI,w1j,w1i,w0p]; simp
  cases hb:b i k with
  | true=>
   rw [if_pos rfl,z6 (by simp [fits]; omega),if_neg (by simp)]
   exact hG _ (hstep _ (by unfold arcP; rw [hb]; rfl))
  | false=>
   rw [if_neg (by simp)]
   exact hG _ (hstep _ (by unfold arcP; rw [hb]; simp))
 ·intro m a hI
  show z0t φ k42 (m+1) u ord (i:Int) s (s.length:Int) (i:Int) o (o.length:Int) (o.length:Int) s o p (gt s (i:Int)) sup a=_
  rw [z0t,if_neg (by simp),hI]; rfl
theorem zzp (φ:Nat) (u ord:Int) (p:Pool) (s:List zb) (o:List zk) (sup:List Int) (c:Nat->Nat->Int) (b:Nat->Nat->Bool)
  (hsu:∀ i k:Nat,i<s.length->k<o.length->z18 φ p (gt s (i:Int)) (gt o (k:Int))=some (c i k,b i k,())) (hs:s.length<=6) (ho:o.length<=6) (hφ:1000<φ) (m:Nat) (hm:s.length<m) :
  z1b φ m u ord s (s.length:Int) 0 s o p sup []=z0k φ φ u ord o (o.length:Int) 0 s sup ((List.range s.length).flatMap (arcR s o c b)):=by
 refine z0h (fun m i acc=>z1b φ m u ord s (s.length:Int) i s o p sup acc) s.length (fun i a=>a =(List.range i).flatMap (arcR s o c b))
  (fun r=>r=z0k φ φ u ord o (o.length:Int) 0 s sup ((List.range s.length).flatMap (arcR s o c b))) ?_ ?_ m [] (by simp) hm
 ·intro m i a hi hI hG
  have hW:W ((i:Int)+1) =(i:Int)+1:=W_id (by omega) (by omega)
  have hlen:a.length<=100:=by
   rw [hI]
   have:=zfm (s:=s) (o:=o) (c:=c) (b:=b) ho i
   omega
  show z1b φ (m+1) u ord s (s.length:Int) (i:Int) s o p sup a=_
  rw [z1b,if_pos (by simp; omega),z6 ⟨by omega,by omega⟩,y86 φ _ u ord p s o sup c b i (fun k hk=>hsu i k hi hk) hs ho a hlen φ (by omega),hW]
  refine hG _ ?_
  rw [hI,w1j,w1i]; simp
 ·intro m a hI
  show z1b φ (m+1) u ord s (s.length:Int) (s.length:Int) s o p sup a=_
  rw [z1b,if_neg (by simp),hI]
end Px
end
section
namespace Px
open Go
theorem zag (φ:Nat) (a b c:Int):z0a φ a b c=some (bet a b c,()):=rfl
def okSu (p:Pool) (s:zb):Bool:=
 (((bet s.type_ 0 (W ((p.fleet.types.length:Int)-1))&&bet s.class_ (-1) 63)&&bet s.place 0 (W ((p.network.places.length:Int)-1)))&&bet s.at_ 0 1073741824)&&bet s.count 1 4096
def okOr (p:Pool) (o:zk):Bool:=
 (((((bet o.type_ 0 (W ((p.fleet.types.length:Int)-1))&&bet o.class_ 0 63)&&bet o.place 0 (W ((p.network.places.length:Int)-1)))&&bet o.from_ 0 o.to)&&decide (o.to<=1073741824))&&bet o.count 1 1000)&&bet o.weight 0 1000000000
theorem zbe (φ:Nat) (p:Pool) (s:zb):z1y φ p s=some (okSu p s,()):=by
 unfold z1y okSu
 simp only [zag,w04]
 cases h1:bet s.type_ 0 (W ((p.fleet.types.length:Int)-1)) <;> cases h2:bet s.class_ (-1) 63 <;> cases h3:bet s.place 0 (W ((p.network.places.length:Int)-1)) <;> cases h4:bet s.at_ 0 1073741824 <;> cases h5:bet s.count 1 4096 <;> simp [z0q]
theorem zcm (φ:Nat) (p:Pool) (o:zk):z2n φ p o=some (okOr p o,()):=by
 unfold z2n okOr
 simp only [zag,w04]
 cases h1:bet o.type_ 0 (W ((p.fleet.types.length:Int)-1)) <;> cases h2:bet o.class_ 0 63 <;> cases h3:bet o.place 0 (W ((p.network.places.length:Int)-1)) <;> cases h4:bet o.from_ 0 o.to <;> cases h6:decide (o.to<=1073741824) <;> cases h5:bet o.count 1 1000 <;> cases h7:bet o.weight 0 1000000000 <;> simp [z0q,h6]
end Px
end
section
namespace Px
open Go
def lsA (H:Arc->Int):List Arc->Int
 | []=>0
 | a::l=>H a+lsA H l
theorem zer (H:Arc->Int) (m:List Arc):∀ l:List Arc,lsA H (l++m)=lsA H l+lsA H m
 | []=>by simp [lsA]
 | a::l=>by simp only [w2l,lsA,zer H m l]; omega
theorem zwz (H:Arc->Int) (a:Arc):lsA H [a]=H a:=by simp [lsA]
theorem zkc (H:Arc->Int) (f:Nat->Arc):∀ n:Nat,lsA H ((List.range n).map f)=sumN n fun i=>H (f i)
 | 0=>rfl
 | n+1=>by rw [w1j,w28,zer,zkc H f n]; simp [sumN,lsA]
theorem zot (H:Arc->Int) (f:Nat->List Arc):∀ n:Nat,lsA H ((List.range n).flatMap f)=sumN n fun i=>lsA H (f i)
 | 0=>rfl
 | n+1=>by rw [w1j,w1i,zer,zot H f n]; simp [sumN]
theorem zu4 (H:Arc->Int) (l:List Arc):∀ i:Nat,i<=l.length->lsA H (l.take i)=sumN i fun j=>H (gt l (j:Int))
 | 0,_=>rfl
 | i+1,h=>by rw [z2o l i (by omega),zer,zu4 H l i (by omega),zwz]; rfl
theorem y5d (H:Arc->Int) (l:List Arc) :(sumN l.length fun j=>H (gt l (j:Int)))=lsA H l:=by
 have:=zu4 H l l.length (w18 _)
 rw [w1r] at this; exact this.symm
theorem z50 {n:Nat} {f:Nat->Int} (h:∀ i,i<n->f i=0):sumN n f=0:=(zt h).trans (z4d n)
def sumS (s:List zb):Nat->Int
 | 0=>0
 | k+1=>sumS s k +(gt s (k:Int)).count
theorem zod (s:List zb):∀ n:Nat,sumS s n=sumN n fun i=>(gt s (i:Int)).count
 | 0=>rfl
 | n+1=>by simp only [sumS,sumN,zod s n]
theorem zka (o:List zk):∀ n:Nat,sumC o n=sumN n fun i=>(gt o (i:Int)).count
 | 0=>rfl
 | n+1=>by simp only [sumC,sumN,zka o n]
def nodU (s:List zb) (o:List zk):Int:=(s.length:Int) +(o.length:Int)
def zmt (s:List zb) (o:List zk) (c:Nat->Nat->Int) (b:Nat->Nat->Bool):List Arc:=(List.range s.length).flatMap (arcR s o c b)
def z5z (s:List zb) (o:List zk) (c:Nat->Nat->Int) (b:Nat->Nat->Bool):List Arc:=
 zmt s o c b++(List.range o.length).map (arcO (nodU s o) (s.length:Int) o)++(List.range s.length).map (arcS (nodU s o) s)++[⟨nodU s o,nodU s o+1,sumC o o.length,0⟩]
def supN (s:List zb) (o:List zk):List Int:=s.map (·.count)++o.map (fun y=>- y.count)++[sumC o o.length,- sumS s s.length]
def netN (s:List zb) (o:List zk) (c:Nat->Nat->Int) (b:Nat->Nat->Bool):zj:=⟨supN s o,z5z s o c b⟩
def arcQ (s:List zb) (o:List zk) (c:Nat->Nat->Int) (i k:Nat):Arc:=⟨(i:Int),(s.length:Int) +(k:Int),min2 (gt s (i:Int)).count (gt o (k:Int)).count,c i k⟩
theorem zqs (H:Arc->Int) (s:List zb) (o:List zk) (c:Nat->Nat->Int) (b:Nat->Nat->Bool) :
  lsA H (z5z s o c b) =(sumN s.length fun i=>sumN o.length fun k=>if b i k=true then H (arcQ s o c i k) else 0) +(sumN o.length fun k=>H (arcO (nodU s o) (s.length:Int) o k)) +(sumN s.length fun i=>H (arcS (nodU s o) s i))+H ⟨nodU s o,nodU s o+1,sumC o o.length,0⟩:=by
 unfold z5z zmt
 rw [zer,zer,zer,zkc,zkc,zwz,zot]
 congr 3
 refine zt fun i _=>?_
 unfold arcR
 rw [zot]
 refine zt fun k _=>?_
 unfold arcP
 cases b i k <;> simp [lsA,arcQ]
theorem zac (s:List zb) (o:List zk) :(supN s o).length=s.length+o.length+2:=by simp [supN]; omega
theorem zyl {α β:Type} [Inhabited α] [Inhabited β] (f:α->β) (l:List α) {i:Int} (h0:0<=i) (h:i <(l.length:Int)):gt (l.map f) i=f (gt l i):=by
 obtain⟨n,rfl⟩:=w1v h0
 rw [z6g (by simpa using h),z6g (by omega)]; simp
theorem ztd {s:List zb} {o:List zk} {i:Nat} (h:i<s.length):atN (supN s o) i =(gt s (i:Int)).count:=by
 unfold atN supN
 rw [zeu _ _ _ (by omega) (by simp; omega),zeu _ _ _ (by omega) (by simp; omega),zyl _ _ (by omega) (by omega)]
theorem zud {s:List zb} {o:List zk} {k:Nat} (h:k<o.length):atN (supN s o) (s.length+k)=-(gt o (k:Int)).count:=by
 unfold atN supN
 rw [zeu _ _ _ (by omega) (by simp; omega),zar _ _ _ (by simp; omega),zyl _ _ (by simp; omega) (by simp; omega)]
 rw [show ((s.length+k:Nat):Int) -((s.map (·.count)).length:Nat) =(k:Int) by simp; omega]
theorem zta (s:List zb) (o:List zk):atN (supN s o) (s.length+o.length)=sumC o o.length:=by
 unfold atN supN
 rw [zar _ _ _ (by simp)]
 rw [show ((s.length+o.length:Nat):Int) -((s.map (·.count)++o.map (fun y=>- y.count)).length:Nat)=0 by simp]; rfl
theorem zu1 (s:List zb) (o:List zk):atN (supN s o) (s.length+o.length+1)=- sumS s s.length:=by
 unfold atN supN
 rw [zar _ _ _ (by simp; omega)]
 rw [show ((s.length+o.length+1:Nat):Int) -((s.map (·.count)++o.map (fun y=>- y.count)).length:Nat)=1 by simp; omega]; rfl
structure Poss (s:List zb) (o:List zk) (b:Nat->Nat->Bool) (X:Nat->Nat->Int):Prop where
 pos:∀ i k,i<s.length->k<o.length->0<=X i k
 no:∀ i k,i<s.length->k<o.length->b i k=false->X i k=0
 row:∀ i,i<s.length->(sumN o.length fun k=>X i k)<=(gt s (i:Int)).count
 col:∀ k,k<o.length->(sumN s.length fun i=>X i k)<=(gt o (k:Int)).count
def zlu (s:List zb) (o:List zk) (X:Nat->Nat->Int) (i:Nat):Int:=(gt s (i:Int)).count-sumN o.length fun k=>X i k
def zl5 (s:List zb) (o:List zk) (X:Nat->Nat->Int) (k:Nat):Int:=(gt o (k:Int)).count-sumN s.length fun i=>X i k
def zqa (s:List zb) (o:List zk) (X:Nat->Nat->Int):Int:=sumN s.length fun i=>sumN o.length fun k=>X i k
def flX (s:List zb) (o:List zk) (X:Nat->Nat->Int) (a:Arc):Int:=
 if a.to<nodU s o then(if a.from_ <(s.length:Int) then X a.from_.toNat (a.to -(s.length:Int)).toNat else zl5 s o X (a.to -(s.length:Int)).toNat)
 else if a.from_ <(s.length:Int) then zlu s o X a.from_.toNat else zqa s o X
section
variable {s:List zb} {o:List zk} {c:Nat->Nat->Int} {b:Nat->Nat->Bool} {X:Nat->Nat->Int}
theorem y6c {i k:Nat} (hi:i<s.length) (hk:k<o.length):flX s o X (arcQ s o c i k)=X i k:=by
 unfold flX arcQ nodU
 simp only
 rw [if_pos (by omega),if_pos (by omega)]
 congr 1 <;> omega
theorem y73 {k:Nat} (hk:k<o.length):flX s o X (arcO (nodU s o) (s.length:Int) o k)=zl5 s o X k:=by
 unfold flX arcO nodU
 simp only
 rw [if_pos (by omega),if_neg (by omega)]
 congr 1; omega
theorem y6i {i:Nat} (hi:i<s.length):flX s o X (arcS (nodU s o) s i)=zlu s o X i:=by
 unfold flX arcS
 simp only
 rw [if_neg (by omega),if_pos (by omega)]
 congr 1
theorem y6j:flX s o X ⟨nodU s o,nodU s o+1,sumC o o.length,0⟩=zqa s o X:=by
 unfold flX
 simp only
 rw [if_neg (by omega),if_neg (by unfold nodU; omega)]
theorem zma:zqa s o X=sumN o.length fun k=>sumN s.length fun i=>X i k:=zf6 _ _ _
theorem zt6 :(nodU s o).toNat=s.length+o.length:=by unfold nodU; omega
theorem y9h {b:Bool} {x:Int} (h:b=false->x=0) :(if b=true then x else 0)=x:=by cases b <;> simp_all
theorem Poss.out (h:Poss s o b X) (v:Nat) (hv:v<s.length+o.length+2) :
  (nwOf (netN s o c b)).outS (fun j=>flX s o X (gt (z5z s o c b) (j:Int))) v=if v<s.length then(gt s (v:Int)).count else if v=s.length+o.length then sumC o o.length else 0:=by
 show (sumN (z5z s o c b).length fun j=>if(gt (z5z s o c b) (j:Int)).from_.toNat=v then flX s o X (gt (z5z s o c b) (j:Int)) else 0)=_
 rw [y5d (fun a=>if a.from_.toNat=v then flX s o X a else 0),zqs]
 have e1 :(sumN s.length fun i=>sumN o.length fun k=>if b i k=true then(if(arcQ s o c i k).from_.toNat=v then flX s o X (arcQ s o c i k) else 0) else 0)=if v<s.length then(sumN o.length fun k=>X v k) else 0:=by
  rw [<- z8q (fun i=>sumN o.length fun k=>X i k) v]
  refine zt fun i hi=>?_
  show (sumN o.length fun k=>if b i k=true then(if((i:Int)).toNat=v then flX s o X (arcQ s o c i k) else 0) else 0)=_
  rw [show ((i:Int)).toNat=i by omega]
  by_cases e:i=v
  ·rw [if_pos e]
   refine zt fun k hk=>?_
   rw [if_pos e,y6c hi hk]
   exact y9h (h.no i k hi hk)
  ·rw [if_neg e]
   exact z50 fun k hk=>by rw [if_neg e]; split <;> rfl
 have e2 :(sumN o.length fun k=>if(arcO (nodU s o) (s.length:Int) o k).from_.toNat=v then flX s o X (arcO (nodU s o) (s.length:Int) o k) else 0)=if v=s.length+o.length then(sumN o.length fun k=>zl5 s o X k) else 0:=by
  have e:∀ k,(arcO (nodU s o) (s.length:Int) o k).from_.toNat=s.length+o.length:=fun k=>zt6
  by_cases g:v=s.length+o.length
  ·rw [if_pos g]
   exact zt fun k hk=>by rw [if_pos (by rw [e,g]),y73 hk]
  ·rw [if_neg g]
   exact z50 fun k hk=>by rw [if_neg (by rw [e]; exact fun q=>g q.symm)]
 have e3 :(sumN s.length fun i=>if(arcS (nodU s o) s i).from_.toNat=v then flX s o X (arcS (nodU s o) s i) else 0)=if v<s.length then zlu s o X v else 0:=by
  rw [<- z8q (fun i=>zlu s o X i) v]
  refine zt fun i hi=>?_
  show (if((i:Int)).toNat=v then flX s o X (arcS (nodU s o) s i) else 0)=_
  rw [show ((i:Int)).toNat=i by omega,y6i hi]
 have e4 :(if(Arc.mk (nodU s o) (nodU s o+1) (sumC o o.length) 0).from_.toNat=v then flX s o X ⟨nodU s o,nodU s o+1,sumC o o.length,0⟩ else 0)=if v=s.length+o.length then zqa s o X else 0:=by
  show (if(nodU s o).toNat=v then _ else 0)=_
  rw [zt6,y6j]
  by_cases g:v=s.length+o.length
  ·rw [if_pos g,if_pos g.symm]
  ·rw [if_neg g,if_neg (fun q=>g q.symm)]
 simp only [e1,e2,e3,e4]
 by_cases g1:v<s.length
 ·rw [if_pos g1,if_pos g1,if_pos g1,if_neg (by omega),if_neg (by omega)]
  unfold zlu; omega
 ·rw [if_neg g1,if_neg g1,if_neg g1]
  by_cases g2:v=s.length+o.length
  ·rw [if_pos g2,if_pos g2,if_pos g2]
   have :(sumN o.length fun k=>zl5 s o X k)=sumC o o.length-zqa s o X:=by
    unfold zl5
    rw [zab,zka,zma]
   omega
  ·rw [if_neg g2,if_neg g2,if_neg g2]; rfl
theorem Poss.inn (h:Poss s o b X) (v:Nat) (hv:v<s.length+o.length+2) :
  (nwOf (netN s o c b)).inS (fun j=>flX s o X (gt (z5z s o c b) (j:Int))) v=if v<s.length then 0 else if v<s.length+o.length then(gt o ((v:Int) -(s.length:Int))).count else if v=s.length+o.length then 0 else sumS s s.length:=by
 show (sumN (z5z s o c b).length fun j=>if(gt (z5z s o c b) (j:Int)).to.toNat=v then flX s o X (gt (z5z s o c b) (j:Int)) else 0)=_
 rw [y5d (fun a=>if a.to.toNat=v then flX s o X a else 0),zqs]
 have t1:∀ i k:Nat,(arcQ s o c i k).to.toNat=s.length+k:=fun i k=>by show ((s.length:Int) +(k:Int)).toNat=_; omega
 have t2:∀ k:Nat,(arcO (nodU s o) (s.length:Int) o k).to.toNat=s.length+k:=fun k=>by show ((s.length:Int) +(k:Int)).toNat=_; omega
 have t3:∀ i:Nat,(arcS (nodU s o) s i).to.toNat=s.length+o.length+1:=fun i=>by show (nodU s o+1).toNat=_; unfold nodU; omega
 have t4 :(Arc.mk (nodU s o) (nodU s o+1) (sumC o o.length) 0).to.toNat=s.length+o.length+1:=by show (nodU s o+1).toNat=_; unfold nodU; omega
 simp only [t1,t2,t3]
 rw [show (if(Arc.mk (nodU s o) (nodU s o+1) (sumC o o.length) 0).to.toNat=v then flX s o X ⟨nodU s o,nodU s o+1,sumC o o.length,0⟩ else 0)=if s.length+o.length+1=v then flX s o X ⟨nodU s o,nodU s o+1,sumC o o.length,0⟩ else 0 by rw [t4]]
 by_cases g1:v<s.length
 ·rw [if_pos g1,if_neg (by omega)]
  rw [z50 fun i hi=>z50 fun k hk=>by
   split
   ·exact if_neg (by omega)
   ·rfl,z50 fun k hk=>if_neg (by omega),z50 fun i hi=>if_neg (by omega)]; rfl
 ·rw [if_neg g1]
  by_cases g2:v<s.length+o.length
  ·obtain⟨k,rfl⟩:∃ k,v=s.length+k:=⟨v-s.length,by omega⟩
   have hk:k<o.length:=by omega
   rw [if_pos g2,if_neg (by omega)]
   have e1 :(sumN s.length fun i=>sumN o.length fun k'=>if b i k'=true then(if s.length+k'=s.length+k then flX s o X (arcQ s o c i k') else 0) else 0)=sumN s.length fun i=>X i k:=by
    refine zt fun i hi=>?_
    have h1:=z8q (fun k'=>X i k') k o.length
    rw [if_pos hk] at h1
    rw [<- h1]
    refine zt fun k' hk'=>?_
    by_cases e:k'=k
    ·subst e; rw [if_pos rfl,if_pos rfl,y6c hi hk']; exact y9h (h.no i k' hi hk')
    ·rw [if_neg e]
     split
     ·exact if_neg (by omega)
     ·rfl
   have e2 :(sumN o.length fun k'=>if s.length+k'=s.length+k then flX s o X (arcO (nodU s o) (s.length:Int) o k') else 0)=zl5 s o X k:=by
    have h1:=z8q (fun k'=>zl5 s o X k') k o.length
    rw [if_pos hk] at h1
    rw [<- h1]
    refine zt fun k' hk'=>?_
    by_cases e:k'=k
    ·subst e; rw [if_pos rfl,if_pos rfl,y73 hk']
    ·rw [if_neg e,if_neg (by omega)]
   rw [e1,e2,z50 fun i hi=>if_neg (by omega)]
   rw [show ((s.length+k:Nat):Int) -(s.length:Int) =(k:Int) by omega]
   unfold zl5; omega
  ·rw [if_neg g2]
   rw [z50 fun i hi=>z50 fun k hk=>by
   split
   ·exact if_neg (by omega)
   ·rfl,z50 fun k hk=>if_neg (by omega)]
   by_cases g3:v=s.length+o.length
   ·rw [if_pos g3,z50 fun i hi=>if_neg (by omega),if_neg (by omega)]; rfl
   ·rw [if_neg g3,if_pos (by omega),y6j]
    have :(sumN s.length fun i=>if s.length+o.length+1=v then flX s o X (arcS (nodU s o) s i) else 0)=sumS s s.length-zqa s o X:=by
     have :(sumN s.length fun i=>if s.length+o.length+1=v then flX s o X (arcS (nodU s o) s i) else 0)=sumN s.length fun i=>zlu s o X i:=zt fun i hi=>by rw [if_pos (by omega),y6i hi]
     rw [this]
     unfold zlu
     rw [zab,zod]; rfl
    omega
theorem zq8 {a:Arc} (h:a∈z5z s o c b) :(∃ i k,i<s.length/\k<o.length/\b i k=true/\a=arcQ s o c i k)\/(∃ k,k<o.length/\a=arcO (nodU s o) (s.length:Int) o k)\/(∃ i,i<s.length/\a=arcS (nodU s o) s i)\/a =⟨nodU s o,nodU s o+1,sumC o o.length,0⟩:=by
 unfold z5z at h
 rcases w0l.1 h with h | h
 ·rcases w0l.1 h with h | h
  ·rcases w0l.1 h with h | h
   ·left
    unfold zmt arcR at h
    obtain⟨i,hi,h⟩:=w2i.1 h
    obtain⟨k,hk,h⟩:=w2i.1 h
    refine⟨i,k,w13.1 hi,w13.1 hk,?_⟩
    unfold arcP at h
    cases hb:b i k with
    | true=>rw [hb] at h; exact⟨rfl,w0k.1 h⟩
    | false=>rw [hb] at h; simp at h
   ·obtain⟨k,hk,h⟩:=w0i.1 h
    exact .inr (.inl ⟨k,w13.1 hk,h.symm⟩)
  ·obtain⟨i,hi,h⟩:=w0i.1 h
   exact .inr (.inr (.inl ⟨i,w13.1 hi,h.symm⟩))
 ·exact .inr (.inr (.inr (w0k.1 h)))
theorem zqo {n i:Nat} {f:Nat->Int} (h:∀ j,j<n->0<=f j) (hi:i<n):f i<=sumN n f:=by
 have:=zgs (f:=fun _=>0) (g:=f) (d:=f i) hi h (by simp)
 rw [z4d] at this; omega
theorem Poss.feas (h:Poss s o b X) :(nwOf (netN s o c b)).Feas (atN (supN s o)) (fun j=>flX s o X (gt (z5z s o c b) (j:Int))) where
 bnd:=fun j hj=>by
  have hj':j <(z5z s o c b).length:=hj
  show 0<=flX s o X (gt (z5z s o c b) (j:Int))/\flX s o X (gt (z5z s o c b) (j:Int))<=(gt (z5z s o c b) (j:Int)).cap
  have hm:=zbc (l:=z5z s o c b) (i:=(j:Int)) (by omega) (by omega)
  rcases zq8 hm with⟨i,k,hi,hk,hb,e⟩ |⟨k,hk,e⟩ |⟨i,hi,e⟩ | e
  ·rw [e,y6c hi hk]
   have h1:=zqo (f:=fun k=>X i k) (fun k hk=>h.pos i k hi hk) hk
   have h2:=zqo (f:=fun i=>X i k) (fun i hi=>h.pos i k hi hk) hi
   have h3:=h.row i hi
   have h4:=h.col k hk
   refine⟨h.pos i k hi hk,?_⟩
   show X i k<=min2 (gt s (i:Int)).count (gt o (k:Int)).count
   unfold min2; split <;> omega
  ·rw [e,y73 hk]
   have h4:=h.col k hk
   have h5:=z52 (f:=fun i=>X i k) (n:=s.length) fun i hi=>h.pos i k hi hk
   show 0<=zl5 s o X k/\zl5 s o X k<=(gt o (k:Int)).count
   unfold zl5; omega
  ·rw [e,y6i hi]
   have h4:=h.row i hi
   have h5:=z52 (f:=fun k=>X i k) (n:=o.length) fun k hk=>h.pos i k hi hk
   show 0<=zlu s o X i/\zlu s o X i<=(gt s (i:Int)).count
   unfold zlu; omega
  ·rw [e,y6j]
   show 0<=zqa s o X/\zqa s o X<=sumC o o.length
   refine⟨z52 fun i hi=>z52 fun k hk=>h.pos i k hi hk,?_⟩
   rw [zma,zka]
   exact zf2 h.col
 exc:=fun v hv=>by
  have hv':v<s.length+o.length+2:=by rw [<- zac]; exact hv
  unfold Nw.exc
  rw [h.out v hv',h.inn v hv']
  by_cases g1:v<s.length
  ·rw [if_pos g1,if_pos g1,ztd g1]; omega
  ·rw [if_neg g1,if_neg g1]
   by_cases g2:v<s.length+o.length
   ·obtain⟨k,rfl⟩:∃ k,v=s.length+k:=⟨v-s.length,by omega⟩
    rw [if_pos g2,if_neg (by omega),zud (by omega)]
    rw [show ((s.length+k:Nat):Int) -(s.length:Int) =(k:Int) by omega]; omega
   ·rw [if_neg g2]
    by_cases g3:v=s.length+o.length
    ·rw [if_pos g3,if_pos g3,g3,zta]; omega
    ·rw [if_neg g3,if_neg g3,show v=s.length+o.length+1 by omega,zu1]; omega
end
end Px
end
