/- A part of the proof of emptiesProves_holds. Conditions: none. -/
import Derived.Test.YtcofccdjgfgeeaaKzaf
import Derived.Test.YtcofccdjgfgeeaaProg
import Derived.Ground.SlsfProg
import Derived.Ground.NamesProg
import Derived.KernelRfl
set_option linter.unusedVariables false
set_option linter.unusedSimpArgs false
section
namespace Go.Proofs
open Go.Shelf
def Try.lays189_ren:Go.Shelf.Ren:=⟨fun | 189=>69 | 125=>84 | 257=>83 | 128=>102 | 129=>91 | 294=>93 | 295=>94 | 296=>95 | 297=>96 | 298=>97 | 299=>98 | 216=>99 | 300=>100 | 301=>101 | 328=>111 | 329=>112 | 330=>113 | 331=>114 | 332=>115 | 215=>87 | 343=>118 | n=>n,fun | 28=>42 | 3=>3 | 46=>195 | 0=>0 | 51=>199 | 53=>97 | 4=>4 | 183=>209 | 182=>208 | 131=>55 | 5=>5 | 9=>9 | 218=>224 | 222=>228 | 228=>232 | 229=>233 | n=>n,fun | n=>n⟩
theorem Try.lays189:Go.Proofs.Lays.n189 Try.prog Try.lays189_ren:={
 mixed:=by kernel_rfl
 f125:=Try.func84.trans (congrArg some (by kernel_rfl))
 f128:=Try.func102.trans (congrArg some (by kernel_rfl))
 f129:=Try.func91.trans (congrArg some (by kernel_rfl))
 f189:=Try.func69.trans (congrArg some (by kernel_rfl))
 f215:=Try.func87.trans (congrArg some (by kernel_rfl))
 f216:=Try.func99.trans (congrArg some (by kernel_rfl))
 f257:=Try.func83.trans (congrArg some (by kernel_rfl))
 f294:=Try.func93.trans (congrArg some (by kernel_rfl))
 f295:=Try.func94.trans (congrArg some (by kernel_rfl))
 f296:=Try.func95.trans (congrArg some (by kernel_rfl))
 f297:=Try.func96.trans (congrArg some (by kernel_rfl))
 f298:=Try.func97.trans (congrArg some (by kernel_rfl))
 f299:=Try.func98.trans (congrArg some (by kernel_rfl))
 f300:=Try.func100.trans (congrArg some (by kernel_rfl))
 f301:=Try.func101.trans (congrArg some (by kernel_rfl))
 f328:=Try.func111.trans (congrArg some (by kernel_rfl))
 f329:=Try.func112.trans (congrArg some (by kernel_rfl))
 f330:=Try.func113.trans (congrArg some (by kernel_rfl))
 f331:=Try.func114.trans (congrArg some (by kernel_rfl))
 f332:=Try.func115.trans (congrArg some (by kernel_rfl))
 f343:=Try.func118.trans (congrArg some (by kernel_rfl))
 t0:=Try.underlying0
 a0:=Try.isAgg0
 z0:=Try.sizeOf0
 v0:=Try.zeroValue0
 t3:=Try.underlying3
 a3:=Try.isAgg3
 z3:=Try.sizeOf3
 v3:=Try.zeroValue3
 t4:=Try.underlying4
 a4:=Try.isAgg4
 z4:=Try.sizeOf4
 v4:=Try.zeroValue4
 t5:=Try.underlying5
 a5:=Try.isAgg5
 z5:=Try.sizeOf5
 v5:=Try.zeroValue5
 t9:=Try.underlying9
 a9:=Try.isAgg9
 z9:=Try.sizeOf9
 v9:=Try.zeroValue9
 t28:=Try.underlying42
 a28:=Try.isAgg42
 z28:=Try.sizeOf42
 v28:=Try.zeroValue42
 t46:=Try.underlying195
 a46:=Try.isAgg195
 z46:=Try.sizeOf195
 v46:=Try.zeroValue195
 t51:=Try.underlying199
 a51:=Try.isAgg199
 z51:=Try.sizeOf199
 v51:=Try.zeroValue199
 t53:=Try.underlying97
 a53:=Try.isAgg97
 z53:=Try.sizeOf97
 v53:=Try.zeroValue97
 t131:=Try.underlying55
 a131:=Try.isAgg55
 z131:=Try.sizeOf55
 v131:=Try.zeroValue55
 t182:=Try.underlying208
 a182:=Try.isAgg208
 z182:=Try.sizeOf208
 v182:=Try.zeroValue208
 t183:=Try.underlying209
 a183:=Try.isAgg209
 z183:=Try.sizeOf209
 v183:=Try.zeroValue209
 t218:=Try.underlying224
 a218:=Try.isAgg224
 z218:=Try.sizeOf224
 v218:=Try.zeroValue224
 t222:=Try.underlying228
 a222:=Try.isAgg228
 z222:=Try.sizeOf228
 v222:=Try.zeroValue228
 t228:=Try.underlying232
 a228:=Try.isAgg232
 z228:=Try.sizeOf232
 v228:=Try.zeroValue232
 t229:=Try.underlying233
 a229:=Try.isAgg233
 z229:=Try.sizeOf233
 v229:=Try.zeroValue233 }
end Go.Proofs
end
section
set_option maxHeartbeats 4000000
set_option maxRecDepth 100000
namespace Px
open Go Go.RowKit Go.Proofs
def zbk (φ:Nat):H TV (RTup TT [.val 26]):=.x
def zei (P:Program) (φ:Nat):Env TV:=⟨P,lk [],lk [],lk [],lk []⟩
theorem zrv (φ:Nat) (a) :(zb8 φ).F a=fnX TV (zei Try.prog φ) φ Try.f25 [] [.val 26] (zbk φ) a:=by kernel_rfl
theorem zrw (φ:Nat):fnO TV (zei Try.prog φ) φ Try.f25 [.val 26] (zbk φ):=by
 unfold fnO
 show obl _ _ _ _ _ _ _ _
 unfold zbk
 repeat' (first | exact trivial |(refine⟨?_,?_⟩) |(intro _) | kernel_rfl)
theorem zjb [Dr] (φ:Nat):z2j TV Try.prog 25 (zb8 φ):=
 z3q (N:=zei Try.prog φ) (z0a trivial trivial trivial trivial) (zbk φ) Try.func25 (by kernel_rfl) (zrv φ) (zrw φ)
def z6y (φ:Nat):H TV (RTup TT [.val 27]):=.x
def z9v (P:Program) (φ:Nat):Env TV:=⟨P,lk [],lk [],lk [],lk []⟩
theorem zmb (φ:Nat) (a) :(z9k φ).F a=fnX TV (z9v Try.prog φ) φ Try.f77 [1] [.val 27] (z6y φ) a:=by kernel_rfl
theorem zmh (φ:Nat):fnO TV (z9v Try.prog φ) φ Try.f77 [.val 27] (z6y φ):=by
 unfold fnO
 show obl _ _ _ _ _ _ _ _
 unfold z6y
 repeat' (first | exact trivial |(refine⟨?_,?_⟩) |(intro _) | kernel_rfl)
theorem zlm [Dr] (φ:Nat):z2j TV Try.prog 77 (z9k φ):=
 z3q (N:=z9v Try.prog φ) (z0a trivial trivial trivial trivial) (z6y φ) Try.func77 (by kernel_rfl) (zmb φ) (zmh φ)
def zt6:Msp TV:=⟨3,0,[],fun l _=>zpq l⟩
theorem y1y [Dr]:znj TV Try.prog 69 zt6:=fun l _ l' sv h=>zsf (ρ:=Try.lays189_ren) Try.lays189 h
def z6p (φ:Nat):H TV (RTup TT [.val 0]):=(.seq .x (.seq .x (.seq .x (.seq (.seq .x (.body (.loop ⟨[(84,[(1,.ptr 0 0),(3,.val 0),(20,.val 2),(21,.val 0),(22,.val 0)])],[.box 25 [.val 5]]⟩ (fun n z=>z34 φ n z.1 z.2.1 z.2.2.1 z.2.2.2.1 z.2.2.2.2.1) (fun zk7=>.x)))) (.seq (.seq .x (.body (.loop ⟨[(84,[(3,.val 0),(31,.val 4),(32,.val 0),(33,.val 0)])],[]⟩ (fun n z=>z1m φ n z.1 z.2.1 z.2.2.1 z.2.2.2.1) (fun zk13=>.x)))) .x)))))
def z9x (P:Program) (φ:Nat):Env TV:=⟨P,lk [(77,z9k φ)],lk [],lk [],lk []⟩
theorem zmr (φ:Nat) (a) :(z6w φ).F a=fnX TV (z9x Try.prog φ) φ Try.f56 [5] [.val 0] (z6p φ) a:=by kernel_rfl
theorem zm6 (φ:Nat):fnO TV (z9x Try.prog φ) φ Try.f56 [.val 0] (z6p φ):=by
 unfold fnO
 show obl _ _ _ _ _ _ _ _
 unfold z6p
 repeat' (first | exact trivial |(refine⟨?_,?_⟩) |(intro _) | kernel_rfl)
theorem zej [Dr] (φ:Nat):z2j TV Try.prog 56 (z6w φ):=
 z3q (N:=z9x Try.prog φ) (z0a ⟨zlm φ,trivial⟩ trivial trivial trivial) (z6p φ) Try.func56 (by kernel_rfl) (zmr φ) (zm6 φ)
def z78 (φ:Nat):H TV (RTup TT [.val 27]):=.x
def zab (P:Program) (φ:Nat):Env TV:=⟨P,lk [],lk [],lk [],lk []⟩
theorem zmu (φ:Nat) (a) :(z3w φ).F a=fnX TV (zab Try.prog φ) φ Try.f58 [0,0,0] [.val 27] (z78 φ) a:=by kernel_rfl
theorem zlt (φ:Nat):fnO TV (zab Try.prog φ) φ Try.f58 [.val 27] (z78 φ):=by
 unfold fnO
 show obl _ _ _ _ _ _ _ _
 unfold z78
 repeat' (first | exact trivial |(refine⟨?_,?_⟩) |(intro _) | kernel_rfl)
theorem z6h [Dr] (φ:Nat):z2j TV Try.prog 58 (z3w φ):=
 z3q (N:=zab Try.prog φ) (z0a trivial trivial trivial trivial) (z78 φ) Try.func58 (by kernel_rfl) (zmu φ) (zlt φ)
def z9a (φ:Nat):H TV (RTup TT [.val 0]):=(.seq .x (.seq .x (.seq .x (.seq .x (.seq (.seq .x (.body (.loop ⟨[(206,[(1,.ptr 0 0),(3,.ptr 1 0),(4,.func 78 [.ptr 1 0]),(41,.val 8),(42,.val 0),(43,.val 0)])],[.box 31 [.val 15],.box 45 [.val 0]]⟩ (fun n z=>z3m φ n z.1 z.2.1 z.2.2.1 z.2.2.2.1 z.2.2.2.2.1) (fun zk7=>(.seq .x (.seq .x (.seq (.body (.seq .x (.seq (.seq .x (.body (.loop ⟨[(206,[(1,.ptr 0 0),(3,.ptr 1 0),(4,.func 78 [.ptr 1 0]),(6,.ptr 2 0),(41,.val 8),(42,.val 0),(43,.val 0),(55,.own 3),(56,.val 0),(57,.val 0)])],[.box 31 [.val 15],.box 45 [.val 0],.box 141 [.val 7],.row 3 0]⟩ (fun n z=>z1y φ (fun a0 a1 a2 a3 a4=>zk7 (a0,a1,a2,a3,a4,())) n z.1 z.2.1 z.2.2.1 z.2.2.2.1 z.2.2.2.2.1 z.2.2.2.2.2.1 z.2.2.2.2.2.2.1 z.2.2.2.2.2.2.2.1 z.2.2.2.2.2.2.2.2.1) (fun zk17=>.x)))) .x))) .x))))))) (.seq (.seq .x (.body (.loop ⟨[(206,[(1,.ptr 0 0),(3,.ptr 1 0),(4,.func 78 [.ptr 1 0]),(83,.val 10),(84,.val 0),(85,.val 0)])],[.box 31 [.val 15],.box 45 [.val 0]]⟩ (fun n z=>z09 φ n z.1 z.2.1 z.2.2.1 z.2.2.2.1 z.2.2.2.2.1) (fun zk27=>.x)))) (.seq (.seq .x (.body (.loop ⟨[(206,[(1,.ptr 0 0),(3,.ptr 1 0),(4,.func 78 [.ptr 1 0]),(120,.val 12),(121,.val 0),(122,.val 0)])],[.box 31 [.val 15],.box 45 [.val 0]]⟩ (fun n z=>z0m φ n z.1 z.2.1 z.2.2.1 z.2.2.2.1 z.2.2.2.2.1) (fun zk40=>.x)))) (.seq .x (.seq (.seq .x (.body (.loop ⟨[(206,[(3,.ptr 0 0),(4,.func 78 [.ptr 0 0]),(13,.ptr 1 0),(158,.val 14),(159,.val 0),(160,.val 0)])],[.box 45 [.val 0],.box 184 [.val 28]]⟩ (fun n z=>zu φ n z.1 z.2.1 z.2.2.1 z.2.2.2.1 z.2.2.2.2.1) (fun zk49=>.x)))) .x)))))))))
def zd4 (P:Program) (φ:Nat):Env TV:=⟨P,lk [(58,z3w φ)],lk [],lk [],lk []⟩
theorem zp1 (φ:Nat) (a) :(z70 φ).F a=fnX TV (zd4 Try.prog φ) φ Try.f57 [15] [.val 0] (z9a φ) a:=by kernel_rfl
theorem zqh (φ:Nat):fnO TV (zd4 Try.prog φ) φ Try.f57 [.val 0] (z9a φ):=by
 unfold fnO
 show obl _ _ _ _ _ _ _ _
 unfold z9a
 repeat' (first | exact trivial |(refine⟨?_,?_⟩) |(intro _) | kernel_rfl)
theorem zcq [Dr] (φ:Nat):z2j TV Try.prog 57 (z70 φ):=
 z3q (N:=zd4 Try.prog φ) (z0a ⟨z6h φ,trivial⟩ trivial trivial trivial) (z9a φ) Try.func57 (by kernel_rfl) (zp1 φ) (zqh φ)
def z60 (φ:Nat):H TV (RTup TT [.val 0]):=(.seq .x (.seq (.seq .x (.body (.loop ⟨[(45,[(1,.ptr 0 0),(9,.val 21),(10,.val 0)])],[.box 109 [.val 23]]⟩ (fun n z=>z2l φ n z.1 z.2.1 z.2.2.1) (fun zk5=>.x)))) (.seq .x (.seq (.seq .x (.body (.loop ⟨[(45,[(5,.val 0),(30,.val 22),(31,.val 0),(32,.val 0)])],[]⟩ (fun n z=>z29 φ n z.1 z.2.1 z.2.2.1 z.2.2.2.1) (fun zk10=>.x)))) .x))))
def z8l (P:Program) (φ:Nat):Env TV:=⟨P,lk [],lk [],lk [],lk []⟩
theorem zjm (φ:Nat) (a) :(z8y φ).F a=fnX TV (z8l Try.prog φ) φ Try.f59 [23] [.val 0] (z60 φ) a:=by kernel_rfl
theorem zjq (φ:Nat):fnO TV (z8l Try.prog φ) φ Try.f59 [.val 0] (z60 φ):=by
 unfold fnO
 show obl _ _ _ _ _ _ _ _
 unfold z60
 repeat' (first | exact trivial |(refine⟨?_,?_⟩) |(intro _) | kernel_rfl)
theorem zk1 [Dr] (φ:Nat):z2j TV Try.prog 59 (z8y φ):=
 z3q (N:=z8l Try.prog φ) (z0a trivial trivial trivial trivial) (z60 φ) Try.func59 (by kernel_rfl) (zjm φ) (zjq φ)
def zbf (φ:Nat):H TV (RTup TT [.val 6,.val 6]):=.x
def zfa (P:Program) (φ:Nat):Env TV:=⟨P,lk [],lk [],lk [],lk []⟩
theorem zry (φ:Nat) (a) :(ze2 φ).F a=fnX TV (zfa Try.prog φ) φ Try.f108 [6,6] [.val 6,.val 6] (zbf φ) a:=by kernel_rfl
theorem zra (φ:Nat):fnO TV (zfa Try.prog φ) φ Try.f108 [.val 6,.val 6] (zbf φ):=by
 unfold fnO
 show obl _ _ _ _ _ _ _ _
 unfold zbf
 repeat' (first | exact trivial |(refine⟨?_,?_⟩) |(intro _) | kernel_rfl)
theorem zrj [Dr] (φ:Nat):z2j TV Try.prog 108 (ze2 φ):=
 z3q (N:=zfa Try.prog φ) (z0a trivial trivial trivial trivial) (zbf φ) Try.func108 (by kernel_rfl) (zry φ) (zra φ)
def z3d (φ:Nat):H TV (RTup TT [.val 0]):=(.seq .x (.seq (.ins 1 91 (.seq .x (.seq (.join ⟨[(25,[(0,.val 6),(2,.val 0)]),(6,[])],[]⟩ (fun z=>z1h φ z.1 z.2.1) (.seq .x .x)) (.seq (.join ⟨[(25,[(0,.val 6),(2,.val 0)]),(6,[])],[]⟩ (fun z=>z1i φ z.1 z.2.1) (.seq .x .x)) (.seq (.join ⟨[(25,[(0,.val 6),(2,.val 0)]),(6,[])],[]⟩ (fun z=>z14 φ z.1 z.2.1) (.seq .x .x)) .x)))) .x) .x))
def z4r (P:Program) (φ:Nat):Env TV:=⟨P,lk [],lk [],lk [],lk []⟩
theorem zeb (φ:Nat) (a) :(z4s φ).F a=fnX TV (z4r Try.prog φ) φ Try.f117 [6] [.val 0] (z3d φ) a:=by kernel_rfl
theorem ze9 (φ:Nat):fnO TV (z4r Try.prog φ) φ Try.f117 [.val 0] (z3d φ):=by
 unfold fnO
 show obl _ _ _ _ _ _ _ _
 unfold z3d
 repeat' (first | exact trivial |(refine⟨?_,?_⟩) |(intro _) | kernel_rfl)
theorem zea [Dr] (φ:Nat):z2j TV Try.prog 117 (z4s φ):=
 z3q (N:=z4r Try.prog φ) (z0a trivial trivial trivial trivial) (z3d φ) Try.func117 (by kernel_rfl) (zeb φ) (ze9 φ)
def zbi (φ:Nat):H TV (RTup TT [.val 6,.val 6]):=(.seq .x (.seq .x (.seq .x (.seq .x (.seq .x (.seq .x (.seq .x (.seq .x (.seq .x (.seq .x (.seq .x (.seq .x (.seq .x (.seq .x (.seq (.join ⟨[(135,[(2,.val 6),(8,.val 6),(9,.val 6),(10,.val 6),(11,.val 6),(13,.val 6),(14,.val 6),(15,.val 6)])],[]⟩ (fun z=>z5q φ z.1 z.2.1 z.2.2.1 z.2.2.2.1 z.2.2.2.2.1 z.2.2.2.2.2.1 z.2.2.2.2.2.2.1 z.2.2.2.2.2.2.2.1) (.body (.loop ⟨[(135,[(2,.val 6),(8,.val 6),(9,.val 6),(10,.val 6),(11,.val 6),(13,.val 6),(14,.val 6),(15,.val 6),(16,.val 6)])],[]⟩ (fun n z=>z5r φ n z.1 z.2.1 z.2.2.1 z.2.2.2.1 z.2.2.2.2.1 z.2.2.2.2.2.1 z.2.2.2.2.2.2.1 z.2.2.2.2.2.2.2.1 z.2.2.2.2.2.2.2.2.1) (fun zk40=>.x)))) (.seq .x (.seq .x (.seq .x (.seq (.join ⟨[(135,[(2,.val 6),(8,.val 6),(14,.val 6),(15,.val 6),(17,.val 6),(18,.val 6)])],[]⟩ (fun z=>z5n φ z.1 z.2.1 z.2.2.1 z.2.2.2.1 z.2.2.2.2.1 z.2.2.2.2.2.1) (.body (.loop ⟨[(135,[(2,.val 6),(8,.val 6),(9,.val 6),(10,.val 6),(14,.val 6),(15,.val 6),(16,.val 6),(17,.val 6),(18,.val 6)])],[]⟩ (fun n z=>z5u φ n z.1 z.2.1 z.2.2.1 z.2.2.2.1 z.2.2.2.2.1 z.2.2.2.2.2.1 z.2.2.2.2.2.2.1 z.2.2.2.2.2.2.2.1 z.2.2.2.2.2.2.2.2.1) (fun zk30=>.x)))) .x)))))))))))))))))))
def zex (P:Program) (φ:Nat):Env TV:=⟨P,lk [(117,z4s φ)],lk [],lk [],lk []⟩
theorem zrq (φ:Nat) (a) :(ze3 φ).F a=fnX TV (zex Try.prog φ) φ Try.f109 [6,6,6] [.val 6,.val 6] (zbi φ) a:=by kernel_rfl
theorem zto (φ:Nat):fnO TV (zex Try.prog φ) φ Try.f109 [.val 6,.val 6] (zbi φ):=by
 unfold fnO
 show obl _ _ _ _ _ _ _ _
 unfold zbi
 repeat' (first | exact trivial |(refine⟨?_,?_⟩) |(intro _) | kernel_rfl)
theorem zrt [Dr] (φ:Nat):z2j TV Try.prog 109 (ze3 φ):=
 z3q (N:=zex Try.prog φ) (z0a ⟨zea φ,trivial⟩ trivial trivial trivial) (zbi φ) Try.func109 (by kernel_rfl) (zrq φ) (zto φ)
def zfd (φ:Nat):H TV (RTup TT [.val 6]):=(.seq .x (.seq .x (.seq .x (.seq (.seq (.ins 1 91 (.seq .x (.seq (.join ⟨[(25,[(0,.val 6),(2,.val 0)]),(33,[(0,.val 6),(1,.val 6),(5,.func 107 [.ptr 0 0]),(6,.val 6)])],[.box 97 [.val 6]]⟩ (fun z=>zay φ z.1 z.2.1 z.2.2.1 z.2.2.2.1 z.2.2.2.2.1 z.2.2.2.2.2.1) (.seq .x .x)) (.seq (.join ⟨[(25,[(0,.val 6),(2,.val 0)]),(33,[(0,.val 6),(1,.val 6),(5,.func 107 [.ptr 0 0]),(6,.val 6)])],[.box 97 [.val 6]]⟩ (fun z=>z8h φ z.1 z.2.1 z.2.2.1 z.2.2.2.1 z.2.2.2.2.1 z.2.2.2.2.2.1) (.seq .x .x)) (.seq (.join ⟨[(25,[(0,.val 6),(2,.val 0)]),(33,[(0,.val 6),(1,.val 6),(5,.func 107 [.ptr 0 0]),(6,.val 6)])],[.box 97 [.val 6]]⟩ (fun z=>z8c φ z.1 z.2.1 z.2.2.1 z.2.2.2.1 z.2.2.2.2.1 z.2.2.2.2.2.1) (.seq .x .x)) .x)))) .x) (.body (.loop ⟨[(33,[(0,.val 6),(1,.val 6),(5,.func 107 [.ptr 0 0]),(6,.val 6),(10,.val 0),(11,.val 0)])],[.box 97 [.val 6]]⟩ (fun n z=>z0g φ n z.1 z.2.1 z.2.2.1 z.2.2.2.1 z.2.2.2.2.1 z.2.2.2.2.2.1) (fun zk30=>(.seq .x (.seq .x (.seq (.body (.seq .x (.seq .x (.seq (.ins 2 91 (.seq .x (.seq (.join ⟨[(25,[(0,.val 6),(2,.val 0)]),(33,[(0,.val 6),(1,.val 6),(5,.func 107 [.ptr 0 0]),(6,.val 6),(7,.val 0),(10,.val 0),(11,.val 0),(18,.val 6)])],[.box 97 [.val 6]]⟩ (fun z=>z3f φ (fun a0 a1 a2 a3 a4 a5=>zk30 (a0,a1,a2,a3,a4,a5,())) z.1 z.2.1 z.2.2.1 z.2.2.2.1 z.2.2.2.2.1 z.2.2.2.2.2.1 z.2.2.2.2.2.2.1 z.2.2.2.2.2.2.2.1 z.2.2.2.2.2.2.2.2.1 z.2.2.2.2.2.2.2.2.2.1) (.seq .x .x)) (.seq (.join ⟨[(25,[(0,.val 6),(2,.val 0)]),(33,[(0,.val 6),(1,.val 6),(5,.func 107 [.ptr 0 0]),(6,.val 6),(7,.val 0),(10,.val 0),(11,.val 0),(18,.val 6)])],[.box 97 [.val 6]]⟩ (fun z=>z8e φ (fun a0 a1 a2 a3 a4 a5=>zk30 (a0,a1,a2,a3,a4,a5,())) z.1 z.2.1 z.2.2.1 z.2.2.2.1 z.2.2.2.2.1 z.2.2.2.2.2.1 z.2.2.2.2.2.2.1 z.2.2.2.2.2.2.2.1 z.2.2.2.2.2.2.2.2.1 z.2.2.2.2.2.2.2.2.2.1) (.seq .x .x)) (.seq (.join ⟨[(25,[(0,.val 6),(2,.val 0)]),(33,[(0,.val 6),(1,.val 6),(5,.func 107 [.ptr 0 0]),(6,.val 6),(7,.val 0),(10,.val 0),(11,.val 0),(18,.val 6)])],[.box 97 [.val 6]]⟩ (fun z=>z8i φ (fun a0 a1 a2 a3 a4 a5=>zk30 (a0,a1,a2,a3,a4,a5,())) z.1 z.2.1 z.2.2.1 z.2.2.2.1 z.2.2.2.2.1 z.2.2.2.2.2.1 z.2.2.2.2.2.2.1 z.2.2.2.2.2.2.2.1 z.2.2.2.2.2.2.2.2.1 z.2.2.2.2.2.2.2.2.2.1) (.seq .x .x)) .x)))) .x) .x)))) .x))))))) .x))))
def zim (P:Program) (φ:Nat):Env TV:=⟨P,lk [(108,ze2 φ),(109,ze3 φ)],lk [],lk [],lk []⟩
theorem zyl (φ:Nat) (a) :(ziy φ).F a=fnX TV (zim Try.prog φ) φ Try.f79 [6,6] [.val 6] (zfd φ) a:=by kernel_rfl
theorem zys (φ:Nat):fnO TV (zim Try.prog φ) φ Try.f79 [.val 6] (zfd φ):=by
 unfold fnO
 show obl _ _ _ _ _ _ _ _
 unfold zfd
 repeat' (first | exact trivial |(refine⟨?_,?_⟩) |(intro _) | kernel_rfl)
theorem zyr [Dr] (φ:Nat):z2j TV Try.prog 79 (ziy φ):=
 z3q (N:=zim Try.prog φ) (z0a ⟨zrj φ,zrt φ,trivial⟩ trivial trivial trivial) (zfd φ) Try.func79 (by kernel_rfl) (zyl φ) (zys φ)
def zb6 (φ:Nat):H TV (RTup TT [.val 27]):=.x
def zf9 (P:Program) (φ:Nat):Env TV:=⟨P,lk [(79,ziy φ)],lk [],lk [],lk []⟩
theorem zrh (φ:Nat) (a) :(ze6 φ).F a=fnX TV (zf9 Try.prog φ) φ Try.f60 [6] [.val 27] (zb6 φ) a:=by kernel_rfl
theorem zs5 (φ:Nat):fnO TV (zf9 Try.prog φ) φ Try.f60 [.val 27] (zb6 φ):=by
 unfold fnO
 show obl _ _ _ _ _ _ _ _
 unfold zb6
 repeat' (first | exact trivial |(refine⟨?_,?_⟩) |(intro _) | kernel_rfl)
theorem zsi [Dr] (φ:Nat):z2j TV Try.prog 60 (ze6 φ):=
 z3q (N:=zf9 Try.prog φ) (z0a ⟨zyr φ,trivial⟩ trivial trivial trivial) (zb6 φ) Try.func60 (by kernel_rfl) (zrh φ) (zs5 φ)
def z5h (φ:Nat):H TV (RTup TT [.val 0]):=(.seq .x (.seq .x (.seq .x (.seq .x (.seq .x (.seq .x (.seq (.seq .x (.body (.loop ⟨[(193,[(1,.ptr 0 0),(5,.val 2),(6,.val 0),(7,.val 27),(57,.val 17),(58,.val 0),(59,.val 0)])],[.box 36 [.val 26]]⟩ (fun n z=>z1o φ n z.1 z.2.1 z.2.2.1 z.2.2.2.1 z.2.2.2.2.1 z.2.2.2.2.2.1 z.2.2.2.2.2.2.1) (fun zk11=>.x)))) (.seq (.seq .x (.body (.loop ⟨[(193,[(1,.ptr 0 0),(5,.val 2),(6,.val 0),(7,.val 27),(92,.val 19),(93,.val 0),(94,.val 0)])],[.box 36 [.val 26]]⟩ (fun n z=>z0r φ n z.1 z.2.1 z.2.2.1 z.2.2.2.1 z.2.2.2.2.1 z.2.2.2.2.2.1 z.2.2.2.2.2.2.1) (fun zk20=>.x)))) (.seq (.seq .x (.body (.loop ⟨[(193,[(1,.ptr 0 0),(5,.val 2),(6,.val 0),(7,.val 27),(120,.val 10),(121,.val 0),(122,.val 0)])],[.box 36 [.val 26]]⟩ (fun n z=>z0p φ n z.1 z.2.1 z.2.2.1 z.2.2.2.1 z.2.2.2.2.1 z.2.2.2.2.2.1 z.2.2.2.2.2.2.1) (fun zk29=>.x)))) (.seq (.seq .x (.body (.loop ⟨[(193,[(1,.ptr 0 0),(6,.val 0),(7,.val 27),(135,.val 2),(136,.val 0),(137,.val 0)])],[.box 36 [.val 26]]⟩ (fun n z=>z0t φ n z.1 z.2.1 z.2.2.1 z.2.2.2.1 z.2.2.2.2.1 z.2.2.2.2.2.1) (fun zk36=>.x)))) (.seq (.seq .x (.body (.loop ⟨[(193,[(1,.ptr 0 0),(6,.val 0),(7,.val 27),(157,.val 4),(158,.val 0),(159,.val 0)])],[.box 36 [.val 26]]⟩ (fun n z=>z0q φ n z.1 z.2.1 z.2.2.1 z.2.2.2.1 z.2.2.2.2.1 z.2.2.2.2.2.1) (fun zk43=>.x)))) (.seq (.seq .x (.body (.loop ⟨[(193,[(7,.val 27),(172,.val 25),(173,.val 0),(174,.val 0)])],[]⟩ (fun n z=>z0s φ n z.1 z.2.1 z.2.2.1 z.2.2.2.1) (fun zk48=>.x)))) .x))))))))))))
def z7x (P:Program) (φ:Nat):Env TV:=⟨P,lk [(56,z6w φ),(57,z70 φ),(58,z3w φ),(59,z8y φ),(60,ze6 φ)],lk [],lk [],lk []⟩
theorem zhq (φ:Nat) (a) :(z44 φ).F a=fnX TV (z7x Try.prog φ) φ Try.f36 [26] [.val 0] (z5h φ) a:=by kernel_rfl
theorem zih (φ:Nat):fnO TV (z7x Try.prog φ) φ Try.f36 [.val 0] (z5h φ):=by
 unfold fnO
 show obl _ _ _ _ _ _ _ _
 unfold z5h
 repeat' (first | exact trivial |(refine⟨?_,?_⟩) |(intro _) | kernel_rfl)
theorem z7r [Dr] (φ:Nat):z2j TV Try.prog 36 (z44 φ):=
 z3q (N:=z7x Try.prog φ) (z0a ⟨zej φ,zcq φ,z6h φ,zk1 φ,zsi φ,trivial⟩ trivial trivial trivial) (z5h φ) Try.func36 (by kernel_rfl) (zhq φ) (zih φ)
def z5i (φ:Nat):H TV (RTup TT [.val 27]):=.x
def z7p (P:Program) (φ:Nat):Env TV:=⟨P,lk [],lk [],lk [],lk []⟩
theorem zi8 (φ:Nat) (a) :(z5c φ).F a=fnX TV (z7p Try.prog φ) φ Try.f61 [0,0,0] [.val 27] (z5i φ) a:=by kernel_rfl
theorem zhp (φ:Nat):fnO TV (z7p Try.prog φ) φ Try.f61 [.val 27] (z5i φ):=by
 unfold fnO
 show obl _ _ _ _ _ _ _ _
 unfold z5i
 repeat' (first | exact trivial |(refine⟨?_,?_⟩) |(intro _) | kernel_rfl)
theorem zcf [Dr] (φ:Nat):z2j TV Try.prog 61 (z5c φ):=
 z3q (N:=z7p Try.prog φ) (z0a trivial trivial trivial trivial) (z5i φ) Try.func61 (by kernel_rfl) (zi8 φ) (zhp φ)
def z5v (φ:Nat):H TV (RTup TT [.val 27]):=.x
def z8k (P:Program) (φ:Nat):Env TV:=⟨P,lk [(61,z5c φ)],lk [],lk [],lk []⟩
theorem zk2 (φ:Nat) (a) :(z4d φ).F a=fnX TV (z8k Try.prog φ) φ Try.f37 [26,29] [.val 27] (z5v φ) a:=by kernel_rfl
theorem zjx (φ:Nat):fnO TV (z8k Try.prog φ) φ Try.f37 [.val 27] (z5v φ):=by
 unfold fnO
 show obl _ _ _ _ _ _ _ _
 unfold z5v
 repeat' (first | exact trivial |(refine⟨?_,?_⟩) |(intro _) | kernel_rfl)
theorem z8m [Dr] (φ:Nat):z2j TV Try.prog 37 (z4d φ):=
 z3q (N:=z8k Try.prog φ) (z0a ⟨zcf φ,trivial⟩ trivial trivial trivial) (z5v φ) Try.func37 (by kernel_rfl) (zk2 φ) (zjx φ)
def z7a (φ:Nat):H TV (RTup TT [.val 27]):=.x
def z9p (P:Program) (φ:Nat):Env TV:=⟨P,lk [(61,z5c φ)],lk [],lk [],lk []⟩
theorem zl6 (φ:Nat) (a) :(z56 φ).F a=fnX TV (z9p Try.prog φ) φ Try.f38 [26,30] [.val 27] (z7a φ) a:=by kernel_rfl
theorem zlo (φ:Nat):fnO TV (z9p Try.prog φ) φ Try.f38 [.val 27] (z7a φ):=by
 unfold fnO
 show obl _ _ _ _ _ _ _ _
 unfold z7a
 repeat' (first | exact trivial |(refine⟨?_,?_⟩) |(intro _) | kernel_rfl)
theorem z9j [Dr] (φ:Nat):z2j TV Try.prog 38 (z56 φ):=
 z3q (N:=z9p Try.prog φ) (z0a ⟨zcf φ,trivial⟩ trivial trivial trivial) (z7a φ) Try.func38 (by kernel_rfl) (zl6 φ) (zlo φ)
def z6k (φ:Nat):H TV (RTup TT [.val 34,.val 0]):=(.seq .x (.seq .x (.seq (.seq .x (.body (.loop ⟨[(77,[(2,.ptr 0 0),(4,.ptr 1 0),(19,.val 22),(20,.val 0),(21,.val 0)])],[.box 25 [.val 5],.box 131 [.own 2,.raw (.map none)],.row 42 22]⟩ (fun n z=>z35 φ n z.1 z.2.1 z.2.2.1 z.2.2.2.1 z.2.2.2.2.1) (fun zk9=>.x)))) (.seq .x (.seq .x (.seq (.seq .x (.body (.loop ⟨[(77,[(4,.ptr 0 0),(8,.func 68 [.ptr 0 0,.ptr 1 0]),(44,.val 4),(45,.val 0),(46,.val 0)])],[.box 131 [.own 2,.own 3],.box 25 [.val 5],.nst 42 3 22 none,.map 32 0 0]⟩ (fun n z=>z01 φ n z.1 z.2.1 z.2.2.1 z.2.2.2.1 z.2.2.2.2.1 z.2.2.2.2.2.1) (fun zk16=>(.seq .x (.seq .x (.seq (.body (.seq .x (.seq (.ins 6 68 (.seq .x (.seq .x (.seq (.join ⟨[(56,[(2,.val 0),(3,.ptr 0 0),(4,.ptr 1 0),(8,.ptr 2 0),(9,.val 0),(10,.val 27)]),(77,[(4,.ptr 0 0),(8,.func 68 [.ptr 0 0,.ptr 1 0]),(9,.val 0),(10,.ptr 3 0),(44,.val 4),(45,.val 0),(46,.val 0)])],[.box 131 [.own 4,.own 5],.box 25 [.val 5],.box 152 [.val 32],.box 139 [.val 3],.nst 42 3 22 none,.map 32 0 0]⟩ (fun z=>z41 φ (fun a0 a1 a2 a3 a4 a5=>zk16 (a0,a1,a2,a3,a4,a5,())) z.1 z.2.1 z.2.2.1 z.2.2.2.1 z.2.2.2.2.1 z.2.2.2.2.2.1 z.2.2.2.2.2.2.1 z.2.2.2.2.2.2.2.1 z.2.2.2.2.2.2.2.2.1 z.2.2.2.2.2.2.2.2.2.1 z.2.2.2.2.2.2.2.2.2.2.1 z.2.2.2.2.2.2.2.2.2.2.2.1) (.seq .x (.cond (.foc (3,some 0) (0,none) .x) .x))) .x))) .x) (.ins 6 68 (.seq .x (.seq .x (.seq (.join ⟨[(56,[(2,.val 0),(3,.ptr 0 0),(4,.ptr 1 0),(8,.ptr 2 0),(9,.val 0),(10,.val 27)]),(77,[(4,.ptr 0 0),(8,.func 68 [.ptr 0 0,.ptr 1 0]),(44,.val 4),(45,.val 0),(46,.val 0)])],[.box 131 [.own 3,.own 4],.box 25 [.val 5],.box 152 [.val 32],.nst 42 3 22 none,.map 32 0 0]⟩ (fun z=>z3t φ (fun a0 a1 a2 a3 a4 a5=>zk16 (a0,a1,a2,a3,a4,a5,())) z.1 z.2.1 z.2.2.1 z.2.2.2.1 z.2.2.2.2.1 z.2.2.2.2.2.1 z.2.2.2.2.2.2.1 z.2.2.2.2.2.2.2.1 z.2.2.2.2.2.2.2.2.1 z.2.2.2.2.2.2.2.2.2.1) (.seq .x (.cond (.foc (3,some 0) (0,none) .x) .x))) .x))) .x)))) .x))))))) (.seq (.seq .x (.body (.loop ⟨[(77,[(4,.ptr 0 0),(67,.own 1),(68,.val 0),(69,.val 0)])],[.box 131 [.own 1,.own 2],.nst 42 3 22 none,.map 32 0 0]⟩ (fun n z=>z1n φ n z.1 z.2.1 z.2.2.1 z.2.2.2.1) (fun zk56=>(.seq .x (.seq .x (.seq (.body (.seq (.foc (67,none) (69,none) .x) .x)) .x))))))) .x)))))))
def zad (P:Program) (φ:Nat):Env TV:=⟨P,lk [(56,z6w φ)],lk [(69,zt6)],lk [],lk []⟩
theorem zm7 (φ:Nat) (a) :(z9q φ).F a=fnX TV (zad Try.prog φ) φ Try.f44 [5,22] [.val 34,.val 0] (z6k φ) a:=by kernel_rfl
theorem zkw (φ:Nat):fnO TV (zad Try.prog φ) φ Try.f44 [.val 34,.val 0] (z6k φ):=by
 unfold fnO
 show obl _ _ _ _ _ _ _ _
 unfold z6k
 repeat' (first | exact trivial |(refine⟨?_,?_⟩) |(intro _) | kernel_rfl)
theorem zms [Dr] (φ:Nat):z2j TV Try.prog 44 (z9q φ):=
 z3q (N:=zad Try.prog φ) (z0a ⟨zej φ,trivial⟩ ⟨(y1y),trivial⟩ trivial trivial) (z6k φ) Try.func44 (by kernel_rfl) (zm7 φ) (zkw φ)
def z6g (φ:Nat):H TV (RTup TT [.val 22]):=(.seq .x (.seq .x (.seq .x (.seq (.seq .x (.body (.loop ⟨[(118,[(2,.val 0),(3,.ptr 0 0),(4,.ptr 1 0),(7,.own 2),(8,.own 3),(23,.val 0),(24,.val 0)])],[.box 25 [.val 5],.box 131 [.val 34],.row 3 0,.fix 4 27]⟩ (fun n z=>z2m φ n z.1 z.2.1 z.2.2.1 z.2.2.2.1 z.2.2.2.2.1 z.2.2.2.2.2.1 z.2.2.2.2.2.2.1) (fun zk11=>.x)))) (.seq .x (.body (.loop ⟨[(118,[(3,.ptr 0 0),(4,.ptr 1 0),(7,.own 2),(8,.own 3)])],[.box 25 [.val 5],.box 131 [.val 34],.row 3 0,.fix 4 27]⟩ (fun n z=>z02 φ n z.1 z.2.1 z.2.2.1 z.2.2.2.1) (fun zk16=>(.body (.seq .x (.seq (.seq .x (.body (.loop ⟨[(118,[(3,.ptr 0 0),(4,.ptr 1 0),(7,.own 2),(8,.own 3),(10,.val 0),(35,.val 0),(36,.val 0)])],[.box 25 [.val 5],.box 131 [.val 34],.row 3 0,.fix 4 27]⟩ (fun n z=>z1q φ (fun a0 a1 a2 a3=>zk16 (a0,a1,a2,a3,())) n z.1 z.2.1 z.2.2.1 z.2.2.2.1 z.2.2.2.2.1 z.2.2.2.2.2.1 z.2.2.2.2.2.2.1) (fun zk24=>.x)))) (.seq .x (.seq .x (.seq .x (.body (.loop ⟨[(118,[(3,.ptr 0 0),(4,.ptr 1 0),(7,.own 2),(8,.own 3),(10,.val 0),(78,.val 22),(79,.val 0),(80,.val 0)])],[.box 25 [.val 5],.box 131 [.val 34],.row 3 0,.fix 4 27]⟩ (fun n z=>z1r φ (fun a0 a1 a2 a3=>zk16 (a0,a1,a2,a3,())) n z.1 z.2.1 z.2.2.1 z.2.2.2.1 z.2.2.2.2.1 z.2.2.2.2.2.1 z.2.2.2.2.2.2.1 z.2.2.2.2.2.2.2.1) (fun zk33=>.x)))))))))))))))))
def zar (P:Program) (φ:Nat):Env TV:=⟨P,lk [],lk [],lk [],lk []⟩
theorem zli (φ:Nat) (a) :(zae φ).F a=fnX TV (zar Try.prog φ) φ Try.f45 [5,34,0] [.val 22] (z6g φ) a:=by kernel_rfl
theorem zmq (φ:Nat):fnO TV (zar Try.prog φ) φ Try.f45 [.val 22] (z6g φ):=by
 unfold fnO
 show obl _ _ _ _ _ _ _ _
 unfold z6g
 repeat' (first | exact trivial |(refine⟨?_,?_⟩) |(intro _) | kernel_rfl)
theorem zm9 [Dr] (φ:Nat):z2j TV Try.prog 45 (zae φ):=
 z3q (N:=zar Try.prog φ) (z0a trivial trivial trivial trivial) (z6g φ) Try.func45 (by kernel_rfl) (zli φ) (zmq φ)
def z5d (φ:Nat):H TV (RTup TT [.val 0,.val 0]):=.x
def z7k (P:Program) (φ:Nat):Env TV:=⟨P,lk [(44,z9q φ),(45,zae φ)],lk [],lk [],lk []⟩
theorem zi2 (φ:Nat) (a) :(z7v φ).F a=fnX TV (z7k Try.prog φ) φ Try.f21 [5,0,0] [.val 0,.val 0] (z5d φ) a:=by kernel_rfl
theorem zio (φ:Nat):fnO TV (z7k Try.prog φ) φ Try.f21 [.val 0,.val 0] (z5d φ):=by
 unfold fnO
 show obl _ _ _ _ _ _ _ _
 unfold z5d
 repeat' (first | exact trivial |(refine⟨?_,?_⟩) |(intro _) | kernel_rfl)
theorem zin [Dr] (φ:Nat):z2j TV Try.prog 21 (z7v φ):=
 z3q (N:=z7k Try.prog φ) (z0a ⟨zms φ,zm9 φ,trivial⟩ trivial trivial trivial) (z5d φ) Try.func21 (by kernel_rfl) (zi2 φ) (zio φ)
def z6s (φ:Nat):H TV (RTup TT [.val 27]):=.x
def zb2 (P:Program) (φ:Nat):Env TV:=⟨P,lk [],lk [],lk [],lk []⟩
theorem zm4 (φ:Nat) (a b) :(z9y φ).F a b=fnXc TV (zb2 Try.prog φ) φ Try.f82 [13] [.b (.val 0),.b (.val 0)] [.val 27] (z6s φ) a b:=by kernel_rfl
theorem zmo (φ:Nat):fnO TV (zb2 Try.prog φ) φ Try.f82 [.val 27] (z6s φ):=by
 unfold fnO
 show obl _ _ _ _ _ _ _ _
 unfold z6s
 repeat' (first | exact trivial |(refine⟨?_,?_⟩) |(intro _) | kernel_rfl)
theorem zmf [Dr] (φ:Nat):zy5 TV Try.prog 82 (z9y φ):=
 y8l (N:=zb2 Try.prog φ) (z0a trivial trivial trivial trivial) (z6s φ) Try.func82 (by kernel_rfl) (zm4 φ) (zmo φ)
def z9b (φ:Nat):H TV (RTup TT [.val 0,.val 0]):=(.seq .x (.seq .x (.seq .x (.seq (.ins 3 81 (.seq .x (.seq (.seq .x (.body (.loop ⟨[(19,[(0,.val 14),(1,.func 82 [.ptr 0 0,.ptr 1 0]),(7,.val 0),(8,.val 0)]),(35,[(3,.ptr 2 0)])],[.box 3 [.val 0],.box 3 [.val 0],.box 31 [.val 15]]⟩ (fun n z=>z43 φ n z.1 z.2.1 z.2.2.1 z.2.2.2.1 z.2.2.2.2.1 z.2.2.2.2.2.1) (fun zk13=>.x)))) .x)) .x) .x))))
def zco (P:Program) (φ:Nat):Env TV:=⟨P,lk [(57,z70 φ),(58,z3w φ)],lk [],lk [(82,z9y φ)],lk []⟩
theorem zqt (φ:Nat) (a) :(zcm φ).F a=fnX TV (zco Try.prog φ) φ Try.f64 [15,0,0] [.val 0,.val 0] (z9b φ) a:=by kernel_rfl
theorem zqv (φ:Nat):fnO TV (zco Try.prog φ) φ Try.f64 [.val 0,.val 0] (z9b φ):=by
 unfold fnO
 show obl _ _ _ _ _ _ _ _
 unfold z9b
 repeat' (first | exact trivial |(refine⟨?_,?_⟩) |(intro _) | kernel_rfl)
theorem zr0 [Dr] (φ:Nat):z2j TV Try.prog 64 (zcm φ):=
 z3q (N:=zco Try.prog φ) (z0a ⟨zcq φ,z6h φ,trivial⟩ trivial ⟨zmf φ,trivial⟩ trivial) (z9b φ) Try.func64 (by kernel_rfl) (zqt φ) (zqv φ)
def z98 (φ:Nat):H TV (RTup TT [.val 12,.val 0]):=(.seq .x (.seq .x (.seq .x (.seq .x (.seq (.seq .x (.body (.loop ⟨[(96,[(1,.val 0),(2,.ptr 0 0),(7,.ptr 1 0),(27,.val 0)])],[.box 31 [.val 15],.box 192 [.val 35]]⟩ (fun n z=>z4i φ n z.1 z.2.1 z.2.2.1 z.2.2.2.1) (fun zk9=>.x)))) (.seq .x (.seq (.seq .x (.body (.loop ⟨[(96,[(1,.val 0),(2,.ptr 0 0),(7,.ptr 1 0),(9,.val 27)])],[.box 31 [.val 15],.box 192 [.val 35]]⟩ (fun n z=>z1w φ n z.1 z.2.1 z.2.2.1 z.2.2.2.1) (fun zk14=>(.seq .x (.body (.seq .x (.seq .x (.body (.loop ⟨[(96,[(1,.val 0),(2,.ptr 0 0),(7,.ptr 1 0),(9,.val 27),(37,.val 12),(38,.val 0),(39,.val 0)])],[.box 31 [.val 15],.box 192 [.val 35]]⟩ (fun n z=>z23 φ (fun a0 a1 a2 a3=>zk14 (a0,a1,a2,a3,())) n z.1 z.2.1 z.2.2.1 z.2.2.2.1 z.2.2.2.2.1 z.2.2.2.2.2.1 z.2.2.2.2.2.2.1) (fun zk22=>.x))))))))))) (.seq .x (.seq (.seq .x (.body (.loop ⟨[(96,[(1,.val 0),(7,.ptr 0 0),(13,.own 1),(77,.val 0),(78,.val 0)])],[.box 192 [.val 35],.row 143 11]⟩ (fun n z=>z1x φ n z.1 z.2.1 z.2.2.1 z.2.2.2.1 z.2.2.2.2.1) (fun zk28=>.x)))) .x)))))))))
def zda (P:Program) (φ:Nat):Env TV:=⟨P,lk [(57,z70 φ),(58,z3w φ)],lk [],lk [],lk []⟩
theorem zps (φ:Nat) (a) :(zdc φ).F a=fnX TV (zda Try.prog φ) φ Try.f65 [15,0] [.val 12,.val 0] (z98 φ) a:=by kernel_rfl
theorem zqk (φ:Nat):fnO TV (zda Try.prog φ) φ Try.f65 [.val 12,.val 0] (z98 φ):=by
 unfold fnO
 show obl _ _ _ _ _ _ _ _
 unfold z98
 repeat' (first | exact trivial |(refine⟨?_,?_⟩) |(intro _) | kernel_rfl)
theorem zr1 [Dr] (φ:Nat):z2j TV Try.prog 65 (zdc φ):=
 z3q (N:=zda Try.prog φ) (z0a ⟨zcq φ,z6h φ,trivial⟩ trivial trivial trivial) (z98 φ) Try.func65 (by kernel_rfl) (zps φ) (zqk φ)
def z5f (φ:Nat):H TV (RTup TT [.val 27]):=.x
def z7j (P:Program) (φ:Nat):Env TV:=⟨P,lk [],lk [],lk [],lk []⟩
theorem ziu (φ:Nat) (a b) :(z7h φ).F a b=fnXc TV (z7j Try.prog φ) φ Try.f67 [11] [.b (.val 29)] [.val 27] (z5f φ) a b:=by kernel_rfl
theorem zhy (φ:Nat):fnO TV (z7j Try.prog φ) φ Try.f67 [.val 27] (z5f φ):=by
 unfold fnO
 show obl _ _ _ _ _ _ _ _
 unfold z5f
 repeat' (first | exact trivial |(refine⟨?_,?_⟩) |(intro _) | kernel_rfl)
theorem zie [Dr] (φ:Nat):zy5 TV Try.prog 67 (z7h φ):=
 y8l (N:=z7j Try.prog φ) (z0a trivial trivial trivial trivial) (z5f φ) Try.func67 (by kernel_rfl) (ziu φ) (zhy φ)
def z72 (φ:Nat):H TV (RTup TT [.val 0,.val 27]):=(.seq .x (.seq .x (.seq .x (.seq (.join ⟨[(97,[(3,.ptr 0 0),(4,.ptr 1 0),(5,.ptr 2 0),(8,.val 0)])],[.box 36 [.val 26],.box 49 [.val 29],.box 51 [.val 30]]⟩ (fun z=>z1b φ z.1 z.2.1 z.2.2.1 z.2.2.2.1) (.seq .x .x)) (.seq .x (.seq (.ins 2 66 (.seq .x (.seq (.seq .x (.body (.loop ⟨[(19,[(0,.val 12),(1,.func 67 [.ptr 0 0]),(7,.val 0),(8,.val 0)]),(97,[(4,.ptr 0 0),(5,.ptr 1 0),(8,.val 0),(12,.val 12)])],[.box 49 [.val 29],.box 51 [.val 30]]⟩ (fun n z=>z2n φ n z.1 z.2.1 z.2.2.1 z.2.2.2.1 z.2.2.2.2.1 z.2.2.2.2.2.1 z.2.2.2.2.2.2.1) (fun zk18=>.x)))) .x)) .x) .x))))))
def za2 (P:Program) (φ:Nat):Env TV:=⟨P,lk [(21,z7v φ),(64,zcm φ),(65,zdc φ)],lk [],lk [(67,z7h φ)],lk []⟩
theorem zl3 (φ:Nat) (a) :(z50 φ).F a=fnX TV (za2 Try.prog φ) φ Try.f43 [26,29,30] [.val 0,.val 27] (z72 φ) a:=by kernel_rfl
theorem zmm (φ:Nat):fnO TV (za2 Try.prog φ) φ Try.f43 [.val 0,.val 27] (z72 φ):=by
 unfold fnO
 show obl _ _ _ _ _ _ _ _
 unfold z72
 repeat' (first | exact trivial |(refine⟨?_,?_⟩) |(intro _) | kernel_rfl)
theorem zaf [Dr] (φ:Nat):z2j TV Try.prog 43 (z50 φ):=
 z3q (N:=za2 Try.prog φ) (z0a ⟨zin φ,zr0 φ,zr1 φ,trivial⟩ trivial ⟨zie φ,trivial⟩ trivial) (z72 φ) Try.func43 (by kernel_rfl) (zl3 φ) (zmm φ)
def z87 (φ:Nat):H TV (RTup TT [.val 0,.val 27,.val 0]):=.x
def zc6 (P:Program) (φ:Nat):Env TV:=⟨P,lk [(36,z44 φ),(37,z4d φ),(38,z56 φ),(43,z50 φ)],lk [],lk [],lk []⟩
theorem zns (φ:Nat) (a) :(z84 φ).F a=fnX TV (zc6 Try.prog φ) φ Try.f20 [26,29,30] [.val 0,.val 27,.val 0] (z87 φ) a:=by kernel_rfl
theorem znh (φ:Nat):fnO TV (zc6 Try.prog φ) φ Try.f20 [.val 0,.val 27,.val 0] (z87 φ):=by
 unfold fnO
 show obl _ _ _ _ _ _ _ _
 unfold z87
 repeat' (first | exact trivial |(refine⟨?_,?_⟩) |(intro _) | kernel_rfl)
theorem zfv [Dr] (φ:Nat):z2j TV Try.prog 20 (z84 φ):=
 z3q (N:=zc6 Try.prog φ) (z0a ⟨z7r φ,z8m φ,z9j φ,zaf φ,trivial⟩ trivial trivial trivial) (z87 φ) Try.func20 (by kernel_rfl) (zns φ) (znh φ)
def z96 (φ:Nat):H TV (RTup TT [.val 27]):=.x
def zcl (P:Program) (φ:Nat):Env TV:=⟨P,lk [(25,zb8 φ),(20,z84 φ)],lk [],lk [],lk []⟩
theorem zpt (φ:Nat) (a) :(zd8 φ).F a=fnX TV (zcl Try.prog φ) φ Try.f24 [0,0,0,0] [.val 27] (z96 φ) a:=by kernel_rfl
theorem zq7 (φ:Nat):fnO TV (zcl Try.prog φ) φ Try.f24 [.val 27] (z96 φ):=by
 unfold fnO
 show obl _ _ _ _ _ _ _ _
 unfold z96
 repeat' (first | exact trivial |(refine⟨?_,?_⟩) |(intro _) | kernel_rfl)
theorem zqa [Dr] (φ:Nat):z2j TV Try.prog 24 (zd8 φ):=
 z3q (N:=zcl Try.prog φ) (z0a ⟨zjb φ,zfv φ,trivial⟩ trivial trivial trivial) (z96 φ) Try.func24 (by kernel_rfl) (zpt φ) (zq7 φ)
def z97 (φ:Nat):H TV (RTup TT [.val 40,.val 0]):=(.seq .x (.seq .x (.seq .x (.seq (.seq .x (.body (.loop ⟨[(99,[(1,.val 36),(2,.val 37),(3,.ptr 0 0),(6,.ptr 1 0),(9,.val 0),(10,.val 0),(22,.val 36),(23,.val 0),(24,.val 0)])],[.box 36 [.val 26],.box 64 [.own 2,.own 3],.row 3 0,.row 77 38]⟩ (fun n z=>z20 φ n z.1 z.2.1 z.2.2.1 z.2.2.2.1 z.2.2.2.2.1 z.2.2.2.2.2.1 z.2.2.2.2.2.2.1 z.2.2.2.2.2.2.2.1 z.2.2.2.2.2.2.2.2.1 z.2.2.2.2.2.2.2.2.2.1) (fun zk15=>.x)))) (.seq (.seq .x (.body (.loop ⟨[(99,[(1,.val 36),(2,.val 37),(3,.ptr 0 0),(6,.ptr 1 0),(9,.val 0),(10,.val 0),(45,.val 37),(46,.val 0),(47,.val 0)])],[.box 36 [.val 26],.box 64 [.own 2,.own 3],.row 3 0,.row 77 38]⟩ (fun n z=>z18 φ n z.1 z.2.1 z.2.2.1 z.2.2.2.1 z.2.2.2.2.1 z.2.2.2.2.2.1 z.2.2.2.2.2.2.1 z.2.2.2.2.2.2.2.1 z.2.2.2.2.2.2.2.2.1 z.2.2.2.2.2.2.2.2.2.1) (fun zk27=>.x)))) (.seq .x (.seq .x (.seq (.join ⟨[(99,[(6,.ptr 0 0)])],[.box 64 [.own 1,.own 2],.row 3 0,.row 77 38]⟩ (fun z=>z0k φ z.1 z.2.1) (.seq .x (.body (.rf 17 0 62 (.seq .x (.seq (.seq .x (.body (.loop ⟨[(112,[(0,.own 0),(1,.ptr 1 0),(2,.ptr 2 0),(3,.ptr 3 0),(5,.val 0),(6,.val 0),(22,.val 36),(23,.val 0),(24,.val 0)]),(100,[(6,.ptr 4 0),(99,.own 0)])],[.emp,.box 37 [.val 36],.box 38 [.val 37],.box 36 [.val 26],.box 64 [.own 5,.own 6],.row 3 0,.row 77 38]⟩ (fun n z=>z12 φ n z.1 z.2.1 z.2.2.1 z.2.2.2.1 z.2.2.2.2.1 z.2.2.2.2.2.1 z.2.2.2.2.2.2.1 z.2.2.2.2.2.2.2.1 z.2.2.2.2.2.2.2.2.1 z.2.2.2.2.2.2.2.2.2.1) (fun zk42=>(.seq .x (.seq .x (.seq (.body (.seq .x (.seq .x (.body (.loop ⟨[(112,[(0,.own 0),(1,.ptr 1 0),(2,.ptr 2 0),(3,.ptr 3 0),(5,.val 0),(6,.val 0),(7,.val 0),(8,.ptr 4 0),(22,.val 36),(23,.val 0),(24,.val 0),(29,.val 37),(30,.val 0),(31,.val 0)]),(100,[(6,.ptr 5 0),(99,.own 0)])],[.emp,.box 37 [.val 36],.box 38 [.val 37],.box 36 [.val 26],.box 49 [.val 29],.box 64 [.own 6,.own 7],.row 3 0,.row 77 38]⟩ (fun n z=>z0l φ (fun a0 a1 a2 a3 a4 a5 a6 a7 a8 a9=>zk42 (a0,a1,a2,a3,a4,a5,a6,a7,a8,a9,())) n z.1 z.2.1 z.2.2.1 z.2.2.2.1 z.2.2.2.2.1 z.2.2.2.2.2.1 z.2.2.2.2.2.2.1 z.2.2.2.2.2.2.2.1 z.2.2.2.2.2.2.2.2.1 z.2.2.2.2.2.2.2.2.2.1 z.2.2.2.2.2.2.2.2.2.2.1 z.2.2.2.2.2.2.2.2.2.2.2.1 z.2.2.2.2.2.2.2.2.2.2.2.2.1 z.2.2.2.2.2.2.2.2.2.2.2.2.2.1 z.2.2.2.2.2.2.2.2.2.2.2.2.2.2.1) (fun zk58=>(.seq .x (.seq .x (.seq (.body (.seq .x (.seq .x (.seq (.yl 15 17 0 .x .x) .x)))) .x))))))))) .x))))))) (.seq (.seq .x (.body (.loop ⟨[(112,[(0,.own 0),(1,.ptr 1 0),(5,.val 0),(6,.val 0),(63,.val 37),(64,.val 0),(65,.val 0)]),(100,[(6,.ptr 2 0),(99,.own 0)])],[.emp,.box 37 [.val 36],.box 64 [.own 3,.own 4],.row 3 0,.row 77 38]⟩ (fun n z=>z0f φ n z.1 z.2.1 z.2.2.1 z.2.2.2.1 z.2.2.2.2.1 z.2.2.2.2.2.1 z.2.2.2.2.2.2.1 z.2.2.2.2.2.2.2.1) (fun zk68=>(.seq .x (.seq .x (.seq (.body (.seq .x (.seq .x (.seq (.yl 11 17 0 .x .x) .x)))) .x))))))) (.seq (.seq .x (.body (.loop ⟨[(112,[(0,.own 0),(5,.val 0),(6,.val 0),(88,.val 36),(89,.val 0),(90,.val 0)]),(100,[(6,.ptr 1 0),(99,.own 0)])],[.emp,.box 64 [.own 2,.own 3],.row 3 0,.row 77 38]⟩ (fun n z=>z16 φ n z.1 z.2.1 z.2.2.1 z.2.2.2.1 z.2.2.2.2.1 z.2.2.2.2.2.1 z.2.2.2.2.2.2.1) (fun zk76=>(.seq .x (.seq .x (.seq (.body (.seq .x (.seq (.yl 7 17 0 .x .x) .x))) .x))))))) (.yl 6 17 0 .x .x))))))))) .x))))))))
def zdm (P:Program) (φ:Nat):Env TV:=⟨P,lk [(36,z44 φ),(37,z4d φ),(38,z56 φ),(43,z50 φ)],lk [],lk [],lk []⟩
theorem zpx (φ:Nat) (a) :(zdj φ).F a=fnX TV (zdm Try.prog φ) φ Try.f17 [26,36,37] [.val 40,.val 0] (z97 φ) a:=by kernel_rfl
theorem zq5 (φ:Nat):fnO TV (zdm Try.prog φ) φ Try.f17 [.val 40,.val 0] (z97 φ):=by
 unfold fnO
 show obl _ _ _ _ _ _ _ _
 unfold z97
 repeat' (first | exact trivial |(refine⟨?_,?_⟩) |(intro _) | kernel_rfl)
theorem zqn [Dr] (φ:Nat):z2j TV Try.prog 17 (zdj φ):=
 z3q (N:=zdm Try.prog φ) (z0a ⟨z7r φ,z8m φ,z9j φ,zaf φ,trivial⟩ trivial trivial trivial) (z97 φ) Try.func17 (by kernel_rfl) (zpx φ) (zq5 φ)
def z83 (φ:Nat):H TV (RTup TT [.val 27]):=.x
def zbz (P:Program) (φ:Nat):Env TV:=⟨P,lk [],lk [],lk [],lk []⟩
theorem znn (φ:Nat) (a) :(z5s φ).F a=fnX TV (zbz Try.prog φ) φ Try.f42 [0,0,0] [.val 27] (z83 φ) a:=by kernel_rfl
theorem znd (φ:Nat):fnO TV (zbz Try.prog φ) φ Try.f42 [.val 27] (z83 φ):=by
 unfold fnO
 show obl _ _ _ _ _ _ _ _
 unfold z83
 repeat' (first | exact trivial |(refine⟨?_,?_⟩) |(intro _) | kernel_rfl)
theorem zbw [Dr] (φ:Nat):z2j TV Try.prog 42 (z5s φ):=
 z3q (N:=zbz Try.prog φ) (z0a trivial trivial trivial trivial) (z83 φ) Try.func42 (by kernel_rfl) (znn φ) (znd φ)
def zbc (φ:Nat):H TV (RTup TT [.val 0]):=(.seq .x (.seq .x (.seq .x (.seq (.seq .x (.body (.loop ⟨[(79,[(1,.ptr 0 0),(3,.val 0),(19,.val 22),(20,.val 0),(21,.val 0)])],[.box 64 [.val 40]]⟩ (fun n z=>z58 φ n z.1 z.2.1 z.2.2.1 z.2.2.2.1 z.2.2.2.2.1) (fun zk7=>.x)))) (.seq (.seq .x (.body (.loop ⟨[(79,[(1,.ptr 0 0),(3,.val 0),(33,.val 39),(34,.val 0),(35,.val 0)])],[.box 64 [.val 40]]⟩ (fun n z=>z2i φ n z.1 z.2.1 z.2.2.1 z.2.2.2.1 z.2.2.2.2.1) (fun zk14=>.x)))) .x)))))
def zew (P:Program) (φ:Nat):Env TV:=⟨P,lk [(42,z5s φ)],lk [],lk [],lk []⟩
theorem zsa (φ:Nat) (a) :(z8g φ).F a=fnX TV (zew Try.prog φ) φ Try.f19 [40] [.val 0] (zbc φ) a:=by kernel_rfl
theorem ztb (φ:Nat):fnO TV (zew Try.prog φ) φ Try.f19 [.val 0] (zbc φ):=by
 unfold fnO
 show obl _ _ _ _ _ _ _ _
 unfold zbc
 repeat' (first | exact trivial |(refine⟨?_,?_⟩) |(intro _) | kernel_rfl)
theorem zel [Dr] (φ:Nat):z2j TV Try.prog 19 (z8g φ):=
 z3q (N:=zew Try.prog φ) (z0a ⟨zbw φ,trivial⟩ trivial trivial trivial) (zbc φ) Try.func19 (by kernel_rfl) (zsa φ) (ztb φ)
end Px
end
section
set_option maxHeartbeats 4000000
set_option maxRecDepth 100000
namespace Px
open Go Go.RowKit Go.Proofs
theorem zh9 (φ:Nat) (k47 :((List Int)->(List Arc)->(List Int)->(List Int)->(List Int)->(List (List Int))->(List (List Int))->(List Int)->(List Int)->Option (Flow×Int×Unit))) (x224 :(List Int)) (x225 :(List Arc)) (x226 :(List Int)) (x227 :(List Int)) (x228 :(List zk)) (x229 :(List Int)) (x230 :(List Int)) (x231 :(List Int)) (x232 :(List (List Int))) (x233 :(List (List Int))) (x234 :(List Int)) (x235 :(List Int)):z75 (z6q φ k47 x224 x225 x226 x227 x228 x229 x230 x231 x232 x233 x234 x235) (z8o φ k47 x224 x225 x226 x227 x228 x229 x230 x231 x232 x233 x234 x235):=by
 unfold z6q
 unfold z8o
 repeat' (first | exact z75.one | exact z75.nil | refine z75.cons ?_ ?_ | refine z75.ck ?_ | exact z75.same (n:=2) rfl | exact z75.same (n:=3) rfl | exact z75.same (n:=4) rfl | exact z75.same (n:=6) rfl | refine z75.bind fun _=>?_)
theorem zgi (φ:Nat) (k47 :((List Int)->(List Arc)->(List Int)->(List Int)->(List Int)->(List (List Int))->(List (List Int))->(List Int)->(List Int)->Option (Flow×Int×Unit))) (x279:Int) (x280 :(List Int)) (x281 :(List Arc)) (x282 :(List Int)) (x283 :(List Int)) (x284 :(List Int)) (x285 :(List (List Int))) (x286 :(List (List Int))) (x287 :(List Int)) (x288 :(List Int)) (x289 :(List zk)) (x290 :(List Int)) (x291 :(List Int)):z75 (z77 φ k47 x279 x280 x281 x282 x283 x284 x285 x286 x287 x288 x289 x290 x291) (z8p φ k47 x279 x280 x281 x282 x283 x284 x285 x286 x287 x288 x289 x290 x291):=by
 refine⟨fun r h=>?_⟩
 unfold z77 at h
 unfold z8p
 repeat (with_reducible (replace h:=ckS h); obtain⟨_,h⟩:=h)
 change Good r _
 repeat' (with_reducible first | assumption | exact Good.nil | refine Good.one ?_ | refine Good.cons ?_ ?_ | refine Good.ck ?_ ?_)
theorem zgo (φ:Nat) (x293:Int) (x294:zj) (x295 :(List Int)) (x296 :(List Int)):z75 (z6r φ x293 x294 x295 x296) (z8w φ x293 x294 x295 x296):=by
 refine⟨fun r h=>?_⟩
 unfold z6r at h
 unfold z8w
 repeat (first | unfold za | unfold z07 | unfold zd | unfold z0v | unfold z5j | unfold z0y | unfold z03 | unfold z2o | unfold z7s | unfold zt | unfold z2k | unfold z19 | unfold z6j | unfold z0c)
 repeat (with_reducible (replace h:=ckS h); obtain⟨_,h⟩:=h)
 change Good r _
 repeat' (with_reducible first | assumption | exact Good.nil | refine Good.one ?_ | refine Good.cons ?_ ?_ | refine Good.ck ?_ ?_)
def zba (φ:Nat):H TV (RTup TT [.val 41,.val 0]):=(.seq .x (.seq .x (.seq (.ins 1 40 (.seq .x (.seq .x (.seq (.join ⟨[(73,[(1,.ptr 0 0),(4,.ptr 1 0)]),(27,[(2,.ptr 2 0)])],[.box 64 [.val 40],.box 126 [.val 22,.val 39,.own 3,.own 4,.own 5,.own 6,.own 7],.box 68 [.own 8,.own 9],.row 3 0,.row 3 0,.row 3 0,.nst 42 3 22 none,.nst 42 3 22 none,.row 3 0,.row 3 0]⟩ (fun z=>zbo φ z.1 z.2.1 z.2.2.1 z.2.2.2.1 z.2.2.2.2.1 z.2.2.2.2.2.1 z.2.2.2.2.2.2.1 z.2.2.2.2.2.2.2.1 z.2.2.2.2.2.2.2.2.1 z.2.2.2.2.2.2.2.2.2.1) (.alt ⟨[(73,[(1,.ptr 0 0),(3,.val 0)]),(27,[(2,.ptr 1 0)])],[.box 64 [.val 40],.box 68 [.own 2,.own 3],.row 3 0,.row 3 0]⟩ (fun z=>z6r φ z.1 z.2.1 z.2.2.1 z.2.2.2.1) (fun z=>z8w φ z.1 z.2.1 z.2.2.1 z.2.2.2.1))) (.seq (.seq .x (.body (.loop ⟨[(73,[(4,.ptr 0 0),(28,.val 39),(29,.val 0),(30,.val 0)]),(27,[(2,.ptr 1 0)])],[.box 126 [.val 22,.val 39,.own 2,.own 3,.own 4,.own 5,.own 6],.box 68 [.own 7,.own 8],.row 3 0,.row 3 0,.row 3 0,.nst 42 3 22 none,.nst 42 3 22 none,.row 3 0,.row 3 0]⟩ (fun n z=>zc9 φ n z.1 z.2.1 z.2.2.1 z.2.2.2.1 z.2.2.2.2.1 z.2.2.2.2.2.1 z.2.2.2.2.2.2.1 z.2.2.2.2.2.2.2.1 z.2.2.2.2.2.2.2.2.1 z.2.2.2.2.2.2.2.2.2.1 z.2.2.2.2.2.2.2.2.2.2.1 z.2.2.2.2.2.2.2.2.2.2.2.1) (fun zk26=>(.seq .x (.seq .x (.seq (.body (.seq .x (.seq (.foc (4,some 5) (6,some 0) .x) (.foc (4,some 6) (6,some 1) .x)))) .x))))))) .x)))) .x) (.seq (.seq (.join ⟨[(27,[(2,.ptr 0 0),(5,.ptr 1 0),(16,.val 27)])],[.box 68 [.own 2,.own 3],.box 126 [.val 22,.val 39,.own 4,.own 5,.own 6,.own 7,.own 8],.row 3 0,.row 3 0,.row 3 0,.row 3 0,.row 3 0,.nst 42 3 22 none,.nst 42 3 22 none]⟩ (fun z=>zc3 φ z.1 z.2.1 z.2.2.1 z.2.2.2.1 z.2.2.2.2.1 z.2.2.2.2.2.1 z.2.2.2.2.2.2.1 z.2.2.2.2.2.2.2.1 z.2.2.2.2.2.2.2.2.1 z.2.2.2.2.2.2.2.2.2.1) (.ins 1 41 (.seq .x (.seq (.body (.loop ⟨[(19,[(0,.ptr 0 0)]),(27,[(2,.ptr 1 0),(5,.ptr 0 0)])],[.box 126 [.val 22,.val 39,.own 2,.own 3,.own 4,.own 5,.own 6],.box 68 [.own 7,.own 8],.row 3 0,.row 3 0,.row 3 0,.nst 42 3 22 none,.nst 42 3 22 none,.row 3 0,.row 3 0]⟩ (fun n z=>zbx φ n z.1 z.2.1 z.2.2.1 z.2.2.2.1 z.2.2.2.2.1 z.2.2.2.2.2.1 z.2.2.2.2.2.2.1 z.2.2.2.2.2.2.2.1 z.2.2.2.2.2.2.2.2.1) (fun zk47=>(.seq (.seq (.join ⟨[(19,[(0,.ptr 0 0),(6,.val 27)]),(27,[(2,.ptr 1 0),(5,.ptr 0 0)])],[.box 126 [.val 22,.val 39,.own 2,.own 3,.own 4,.own 5,.own 6],.box 68 [.own 7,.own 8],.row 3 0,.row 3 0,.row 3 0,.nst 42 3 22 none,.nst 42 3 22 none,.row 3 0,.row 3 0]⟩ (fun z=>zc5 φ (fun a0 a1 a2 a3 a4 a5 a6 a7 a8=>zk47 (a0,a1,a2,a3,a4,a5,a6,a7,a8,())) z.1 z.2.1 z.2.2.1 z.2.2.2.1 z.2.2.2.2.1 z.2.2.2.2.2.1 z.2.2.2.2.2.2.1 z.2.2.2.2.2.2.2.1 z.2.2.2.2.2.2.2.2.1 z.2.2.2.2.2.2.2.2.2.1) (.ins 1 63 (.seq .x (.seq (.ins 1 80 (.seq .x (.body (.seq .x (.seq (.join ⟨[(121,[(0,.ptr 0 0),(2,.ptr 1 0),(3,.ptr 2 0),(4,.ptr 3 0),(5,.val 0)]),(193,[(0,.ptr 0 0)]),(19,[(0,.ptr 0 0)]),(27,[(2,.ptr 4 0),(5,.ptr 0 0)])],[.box 126 [.val 22,.val 39,.own 5,.own 6,.own 7,.own 8,.own 9],.box 42 [.own 10],.box 42 [.own 11],.box 185 [.own 12],.box 68 [.own 13,.own 14],.row 3 0,.row 3 0,.row 3 0,.nst 42 3 22 none,.nst 42 3 22 none,.row 3 0,.row 3 0,.row 189 43,.row 3 0,.row 3 0]⟩ (fun z=>zw φ (fun a0 a1 a2 a3 a4 a5 a6 a7 a8=>zk47 (a0,a1,a2,a3,a4,a5,a6,a7,a8,())) z.1 z.2.1 z.2.2.1 z.2.2.2.1 z.2.2.2.2.1 z.2.2.2.2.2.1 z.2.2.2.2.2.2.1 z.2.2.2.2.2.2.2.1 z.2.2.2.2.2.2.2.2.1 z.2.2.2.2.2.2.2.2.2.1 z.2.2.2.2.2.2.2.2.2.2.1 z.2.2.2.2.2.2.2.2.2.2.2.1 z.2.2.2.2.2.2.2.2.2.2.2.2.1) (.alt ⟨[(121,[(0,.ptr 0 0),(2,.ptr 1 0),(3,.ptr 2 0),(4,.ptr 3 0),(5,.val 0)]),(193,[(0,.ptr 0 0)]),(19,[(0,.ptr 0 0)]),(27,[(2,.ptr 4 0),(5,.ptr 0 0)])],[.box 126 [.val 22,.val 39,.own 5,.own 6,.own 7,.own 8,.own 9],.box 42 [.own 10],.box 42 [.own 11],.box 185 [.own 12],.box 68 [.own 13,.own 14],.row 3 0,.row 3 0,.row 3 0,.nst 42 3 22 none,.nst 42 3 22 none,.row 3 0,.row 3 0,.row 189 43,.row 3 0,.row 3 0]⟩ (fun z=>z77 φ (fun a0 a1 a2 a3 a4 a5 a6 a7 a8=>zk47 (a0,a1,a2,a3,a4,a5,a6,a7,a8,())) z.1 z.2.1 z.2.2.1 z.2.2.2.1 z.2.2.2.2.1 z.2.2.2.2.2.1 z.2.2.2.2.2.2.1 z.2.2.2.2.2.2.2.1 z.2.2.2.2.2.2.2.2.1 z.2.2.2.2.2.2.2.2.2.1 z.2.2.2.2.2.2.2.2.2.2.1 z.2.2.2.2.2.2.2.2.2.2.2.1 z.2.2.2.2.2.2.2.2.2.2.2.2.1) (fun z=>z8p φ (fun a0 a1 a2 a3 a4 a5 a6 a7 a8=>zk47 (a0,a1,a2,a3,a4,a5,a6,a7,a8,())) z.1 z.2.1 z.2.2.1 z.2.2.2.1 z.2.2.2.2.1 z.2.2.2.2.2.1 z.2.2.2.2.2.2.1 z.2.2.2.2.2.2.2.1 z.2.2.2.2.2.2.2.2.1 z.2.2.2.2.2.2.2.2.2.1 z.2.2.2.2.2.2.2.2.2.2.1 z.2.2.2.2.2.2.2.2.2.2.2.1 z.2.2.2.2.2.2.2.2.2.2.2.2.1))) (.seq (.seq .x (.body (.loop ⟨[(121,[(0,.ptr 0 0),(2,.ptr 1 0),(3,.ptr 2 0),(4,.ptr 3 0),(5,.val 0),(23,.val 0),(24,.val 0)]),(193,[(0,.ptr 0 0)]),(19,[(0,.ptr 0 0)]),(27,[(2,.ptr 4 0),(5,.ptr 0 0)])],[.box 126 [.val 22,.val 39,.own 5,.own 6,.own 7,.own 8,.own 9],.box 42 [.own 10],.box 42 [.own 11],.box 185 [.own 12],.box 68 [.own 13,.own 14],.row 3 0,.row 3 0,.row 3 0,.nst 42 3 22 none,.nst 42 3 22 none,.row 3 0,.row 3 0,.row 189 43,.row 3 0,.row 3 0]⟩ (fun n z=>z73 φ (fun a0 a1 a2 a3 a4 a5 a6 a7 a8=>zk47 (a0,a1,a2,a3,a4,a5,a6,a7,a8,())) n z.1 z.2.1 z.2.2.1 z.2.2.2.1 z.2.2.2.2.1 z.2.2.2.2.2.1 z.2.2.2.2.2.2.1 z.2.2.2.2.2.2.2.1 z.2.2.2.2.2.2.2.2.1 z.2.2.2.2.2.2.2.2.2.1 z.2.2.2.2.2.2.2.2.2.2.1 z.2.2.2.2.2.2.2.2.2.2.2.1 z.2.2.2.2.2.2.2.2.2.2.2.2.1 z.2.2.2.2.2.2.2.2.2.2.2.2.2.1 z.2.2.2.2.2.2.2.2.2.2.2.2.2.2.1) (fun zk100=>.x)))) (.seq .x (.seq .x (.seq (.body (.loop ⟨[(121,[(0,.ptr 0 0),(2,.ptr 1 0),(3,.ptr 2 0),(4,.ptr 3 0),(5,.val 0),(7,.own 4)]),(193,[(0,.ptr 0 0)]),(19,[(0,.ptr 0 0)]),(27,[(2,.ptr 5 0),(5,.ptr 0 0)])],[.box 126 [.val 22,.val 39,.own 6,.own 7,.own 8,.own 9,.own 10],.box 42 [.own 11],.box 42 [.own 12],.box 185 [.own 13],.fix 4 27,.box 68 [.own 14,.own 15],.row 3 0,.row 3 0,.row 3 0,.nst 42 3 22 none,.nst 42 3 22 none,.row 3 0,.row 3 0,.row 189 43,.row 3 0,.row 3 0]⟩ (fun n z=>z9o φ (fun a0 a1 a2 a3 a4 a5 a6 a7 a8=>zk47 (a0,a1,a2,a3,a4,a5,a6,a7,a8,())) n z.1 z.2.1 z.2.2.1 z.2.2.2.1 z.2.2.2.2.1 z.2.2.2.2.2.1 z.2.2.2.2.2.2.1 z.2.2.2.2.2.2.2.1 z.2.2.2.2.2.2.2.2.1 z.2.2.2.2.2.2.2.2.2.1 z.2.2.2.2.2.2.2.2.2.2.1 z.2.2.2.2.2.2.2.2.2.2.2.1 z.2.2.2.2.2.2.2.2.2.2.2.2.1 z.2.2.2.2.2.2.2.2.2.2.2.2.2.1) (fun zk115=>(.body (.seq .x (.seq (.seq .x (.body (.loop ⟨[(121,[(0,.ptr 0 0),(2,.ptr 1 0),(3,.ptr 2 0),(4,.ptr 3 0),(5,.val 0),(7,.own 4),(8,.ptr 5 0),(47,.val 0),(48,.val 0)]),(193,[(0,.ptr 0 0)]),(19,[(0,.ptr 0 0)]),(27,[(2,.ptr 6 0),(5,.ptr 0 0)])],[.box 126 [.val 22,.val 39,.own 7,.own 8,.own 9,.own 10,.own 11],.box 42 [.own 12],.box 42 [.own 13],.box 185 [.own 14],.fix 4 27,.box 3 [.val 0],.box 68 [.own 15,.own 16],.row 3 0,.row 3 0,.row 3 0,.nst 42 3 22 none,.nst 42 3 22 none,.row 3 0,.row 3 0,.row 189 43,.row 3 0,.row 3 0]⟩ (fun n z=>z6t φ (fun a0 a1 a2 a3 a4 a5 a6 a7 a8=>zk47 (a0,a1,a2,a3,a4,a5,a6,a7,a8,())) (fun a0 a1 a2 a3 a4 a5 a6 a7 a8 a9 a10 a11 a12 a13=>zk115 (a0,a1,a2,a3,a4,a5,a6,a7,a8,a9,a10,a11,a12,a13,())) n z.1 z.2.1 z.2.2.1 z.2.2.2.1 z.2.2.2.2.1 z.2.2.2.2.2.1 z.2.2.2.2.2.2.1 z.2.2.2.2.2.2.2.1 z.2.2.2.2.2.2.2.2.1 z.2.2.2.2.2.2.2.2.2.1 z.2.2.2.2.2.2.2.2.2.2.1 z.2.2.2.2.2.2.2.2.2.2.2.1 z.2.2.2.2.2.2.2.2.2.2.2.2.1 z.2.2.2.2.2.2.2.2.2.2.2.2.2.1 z.2.2.2.2.2.2.2.2.2.2.2.2.2.2.1 z.2.2.2.2.2.2.2.2.2.2.2.2.2.2.2.1 z.2.2.2.2.2.2.2.2.2.2.2.2.2.2.2.2.1) (fun zk133=>.x)))) (.seq .x (.seq .x (.seq .x (.body (.rf 80 0 110 (.seq (.seq (.foc (1,some 1005) (2,some 0) .x) (.body (.loop ⟨[(137,[(0,.own 0),(1,.ptr 1 0),(2,.ptr 2 0),(17,.own 3),(18,.val 0),(19,.val 0)]),(122,[(0,.ptr 4 0),(2,.ptr 5 0),(3,.ptr 6 0),(4,.ptr 7 0),(5,.val 0),(7,.own 8),(8,.ptr 9 0),(121,.own 0)]),(193,[(0,.ptr 4 0)]),(19,[(0,.ptr 4 0)]),(27,[(2,.ptr 10 0),(5,.ptr 4 0)])],[.emp,.box 122 [.ptr 4 0],.box 3 [.val 0],.row 3 0,.box 126 [.val 22,.val 39,.own 11,.own 12,.own 13,.own 14,.own 15],.box 42 [.own 16],.box 42 [.own 17],.box 185 [.own 18],.fix 4 27,.box 3 [.val 0],.box 68 [.own 19,.own 20],.row 3 0,.row 3 0,.row 3 0,.nst 42 3 22 (some 3),.nst 42 3 22 none,.row 3 0,.row 3 0,.row 189 43,.row 3 0,.row 3 0]⟩ (fun n z=>z52 φ (fun a0 a1 a2 a3 a4 a5 a6 a7 a8 a9 a10 a11 a12 a13=>zk115 (a0,a1,a2,a3,a4,a5,a6,a7,a8,a9,a10,a11,a12,a13,())) n z.1 z.2.1 z.2.2.1 z.2.2.2.1 z.2.2.2.2.1 z.2.2.2.2.2.1 z.2.2.2.2.2.2.1 z.2.2.2.2.2.2.2.1 z.2.2.2.2.2.2.2.2.1 z.2.2.2.2.2.2.2.2.2.1 z.2.2.2.2.2.2.2.2.2.2.1 z.2.2.2.2.2.2.2.2.2.2.2.1 z.2.2.2.2.2.2.2.2.2.2.2.2.1 z.2.2.2.2.2.2.2.2.2.2.2.2.2.1 z.2.2.2.2.2.2.2.2.2.2.2.2.2.2.1 z.2.2.2.2.2.2.2.2.2.2.2.2.2.2.2.1 z.2.2.2.2.2.2.2.2.2.2.2.2.2.2.2.2.1 z.2.2.2.2.2.2.2.2.2.2.2.2.2.2.2.2.2.1 z.2.2.2.2.2.2.2.2.2.2.2.2.2.2.2.2.2.2.1 z.2.2.2.2.2.2.2.2.2.2.2.2.2.2.2.2.2.2.2.1) (fun zk257=>(.seq .x (.seq .x (.seq (.body (.seq .x (.seq .x (.seq .x (.seq (.yl 28 80 0 .x .x) .x))))) .x))))))) (.seq (.foc (1,some 1006) (2,some 0) .x) (.body (.loop ⟨[(137,[(0,.own 0),(1,.ptr 1 0),(2,.ptr 2 0),(79,.own 3),(80,.val 0),(81,.val 0)]),(122,[(0,.ptr 4 0),(2,.ptr 5 0),(3,.ptr 6 0),(4,.ptr 7 0),(5,.val 0),(7,.own 8),(8,.ptr 9 0),(121,.own 0)]),(193,[(0,.ptr 4 0)]),(19,[(0,.ptr 4 0)]),(27,[(2,.ptr 10 0),(5,.ptr 4 0)])],[.emp,.box 122 [.ptr 4 0],.box 3 [.val 0],.row 3 0,.box 126 [.val 22,.val 39,.own 11,.own 12,.own 13,.own 14,.own 15],.box 42 [.own 16],.box 42 [.own 17],.box 185 [.own 18],.fix 4 27,.box 3 [.val 0],.box 68 [.own 19,.own 20],.row 3 0,.row 3 0,.row 3 0,.nst 42 3 22 none,.nst 42 3 22 (some 3),.row 3 0,.row 3 0,.row 189 43,.row 3 0,.row 3 0]⟩ (fun n z=>z57 φ (fun a0 a1 a2 a3 a4 a5 a6 a7 a8 a9 a10 a11 a12 a13=>zk115 (a0,a1,a2,a3,a4,a5,a6,a7,a8,a9,a10,a11,a12,a13,())) n z.1 z.2.1 z.2.2.1 z.2.2.2.1 z.2.2.2.2.1 z.2.2.2.2.2.1 z.2.2.2.2.2.2.1 z.2.2.2.2.2.2.2.1 z.2.2.2.2.2.2.2.2.1 z.2.2.2.2.2.2.2.2.2.1 z.2.2.2.2.2.2.2.2.2.2.1 z.2.2.2.2.2.2.2.2.2.2.2.1 z.2.2.2.2.2.2.2.2.2.2.2.2.1 z.2.2.2.2.2.2.2.2.2.2.2.2.2.1 z.2.2.2.2.2.2.2.2.2.2.2.2.2.2.1 z.2.2.2.2.2.2.2.2.2.2.2.2.2.2.2.1 z.2.2.2.2.2.2.2.2.2.2.2.2.2.2.2.2.1 z.2.2.2.2.2.2.2.2.2.2.2.2.2.2.2.2.2.1 z.2.2.2.2.2.2.2.2.2.2.2.2.2.2.2.2.2.2.1 z.2.2.2.2.2.2.2.2.2.2.2.2.2.2.2.2.2.2.2.1) (fun zk278=>(.seq .x (.seq .x (.seq (.body (.seq .x (.seq .x (.seq (.yl 40 80 0 .x .x) .x)))) .x))))))))))))))))))) (.seq (.join ⟨[(121,[(2,.ptr 0 0),(3,.ptr 1 0),(4,.ptr 2 0)]),(193,[(0,.ptr 3 0)]),(19,[(0,.ptr 3 0)]),(27,[(2,.ptr 4 0),(5,.ptr 3 0)])],[.box 42 [.own 5],.box 42 [.own 6],.box 185 [.own 7],.box 126 [.val 22,.val 39,.own 8,.own 9,.own 10,.own 11,.own 12],.box 68 [.own 13,.own 14],.row 3 0,.row 3 0,.row 189 43,.row 3 0,.row 3 0,.row 3 0,.nst 42 3 22 none,.nst 42 3 22 none,.row 3 0,.row 3 0]⟩ (fun z=>z0j φ (fun a0 a1 a2 a3 a4 a5 a6 a7 a8=>zk47 (a0,a1,a2,a3,a4,a5,a6,a7,a8,())) z.1 z.2.1 z.2.2.1 z.2.2.2.1 z.2.2.2.2.1 z.2.2.2.2.2.1 z.2.2.2.2.2.2.1 z.2.2.2.2.2.2.2.1 z.2.2.2.2.2.2.2.2.1 z.2.2.2.2.2.2.2.2.2.1 z.2.2.2.2.2.2.2.2.2.2.1 z.2.2.2.2.2.2.2.2.2.2.2.1) (.alt ⟨[(121,[(2,.ptr 0 0),(3,.ptr 1 0),(4,.ptr 2 0)]),(193,[(0,.ptr 3 0)]),(19,[(0,.ptr 3 0)]),(27,[(2,.ptr 4 0),(5,.ptr 3 0)])],[.box 42 [.own 5],.box 42 [.own 6],.box 185 [.own 7],.box 126 [.val 22,.val 39,.own 8,.own 9,.own 10,.own 11,.own 12],.box 68 [.own 13,.own 14],.row 3 0,.row 3 0,.row 189 43,.row 3 0,.row 3 0,.row 3 0,.nst 42 3 22 none,.nst 42 3 22 none,.row 3 0,.row 3 0]⟩ (fun z=>z6q φ (fun a0 a1 a2 a3 a4 a5 a6 a7 a8=>zk47 (a0,a1,a2,a3,a4,a5,a6,a7,a8,())) z.1 z.2.1 z.2.2.1 z.2.2.2.1 z.2.2.2.2.1 z.2.2.2.2.2.1 z.2.2.2.2.2.2.1 z.2.2.2.2.2.2.2.1 z.2.2.2.2.2.2.2.2.1 z.2.2.2.2.2.2.2.2.2.1 z.2.2.2.2.2.2.2.2.2.2.1 z.2.2.2.2.2.2.2.2.2.2.2.1) (fun z=>z8o φ (fun a0 a1 a2 a3 a4 a5 a6 a7 a8=>zk47 (a0,a1,a2,a3,a4,a5,a6,a7,a8,())) z.1 z.2.1 z.2.2.1 z.2.2.2.1 z.2.2.2.2.1 z.2.2.2.2.2.1 z.2.2.2.2.2.2.1 z.2.2.2.2.2.2.2.1 z.2.2.2.2.2.2.2.2.1 z.2.2.2.2.2.2.2.2.2.1 z.2.2.2.2.2.2.2.2.2.2.1 z.2.2.2.2.2.2.2.2.2.2.2.1))) .x))))))))) .x) (.seq .x (.seq (.seq .x (.body (.loop ⟨[(193,[(0,.ptr 0 0),(3,.own 1),(4,.own 2),(5,.own 3),(6,.val 0),(7,.val 0),(21,.own 1),(22,.val 0),(23,.val 0)]),(19,[(0,.ptr 0 0)]),(27,[(2,.ptr 4 0),(5,.ptr 0 0)])],[.box 126 [.val 22,.val 39,.own 5,.own 6,.own 7,.own 8,.own 9],.row 3 0,.row 3 0,.row 189 43,.box 68 [.own 10,.own 11],.row 3 0,.row 3 0,.row 3 0,.nst 42 3 22 none,.nst 42 3 22 none,.row 3 0,.row 3 0]⟩ (fun n z=>z54 φ (fun a0 a1 a2 a3 a4 a5 a6 a7 a8=>zk47 (a0,a1,a2,a3,a4,a5,a6,a7,a8,())) n z.1 z.2.1 z.2.2.1 z.2.2.2.1 z.2.2.2.2.1 z.2.2.2.2.2.1 z.2.2.2.2.2.2.1 z.2.2.2.2.2.2.2.1 z.2.2.2.2.2.2.2.2.1 z.2.2.2.2.2.2.2.2.2.1 z.2.2.2.2.2.2.2.2.2.2.1 z.2.2.2.2.2.2.2.2.2.2.2.1 z.2.2.2.2.2.2.2.2.2.2.2.2.1 z.2.2.2.2.2.2.2.2.2.2.2.2.2.1 z.2.2.2.2.2.2.2.2.2.2.2.2.2.2.1 z.2.2.2.2.2.2.2.2.2.2.2.2.2.2.2.1) (fun zk163=>.x)))) (.seq .x (.seq (.seq .x (.body (.loop ⟨[(193,[(0,.ptr 0 0),(4,.own 1),(5,.own 2),(6,.val 0),(7,.val 0),(57,.own 3),(58,.val 0),(59,.val 0)]),(19,[(0,.ptr 0 0)]),(27,[(2,.ptr 4 0),(5,.ptr 0 0)])],[.box 126 [.val 22,.val 39,.own 5,.own 6,.own 7,.own 8,.own 9],.row 3 0,.row 189 43,.row 3 0,.box 68 [.own 10,.own 11],.row 3 0,.row 3 0,.row 3 0,.nst 42 3 22 none,.nst 42 3 22 none,.row 3 0,.row 3 0]⟩ (fun n z=>zav φ (fun a0 a1 a2 a3 a4 a5 a6 a7 a8=>zk47 (a0,a1,a2,a3,a4,a5,a6,a7,a8,())) n z.1 z.2.1 z.2.2.1 z.2.2.2.1 z.2.2.2.2.1 z.2.2.2.2.2.1 z.2.2.2.2.2.2.1 z.2.2.2.2.2.2.2.1 z.2.2.2.2.2.2.2.2.1 z.2.2.2.2.2.2.2.2.2.1 z.2.2.2.2.2.2.2.2.2.2.1 z.2.2.2.2.2.2.2.2.2.2.2.1 z.2.2.2.2.2.2.2.2.2.2.2.2.1 z.2.2.2.2.2.2.2.2.2.2.2.2.2.1 z.2.2.2.2.2.2.2.2.2.2.2.2.2.2.1 z.2.2.2.2.2.2.2.2.2.2.2.2.2.2.2.1) (fun zk180=>.x)))) (.seq .x (.seq (.body (.loop ⟨[(193,[(0,.ptr 0 0),(4,.own 1),(5,.own 2),(6,.val 0),(12,.val 0),(13,.val 0)]),(19,[(0,.ptr 0 0)]),(27,[(2,.ptr 3 0),(5,.ptr 0 0)])],[.box 126 [.val 22,.val 39,.own 4,.own 5,.own 6,.own 7,.own 8],.row 3 0,.row 189 43,.box 68 [.own 9,.own 10],.row 3 0,.row 3 0,.row 3 0,.nst 42 3 22 none,.nst 42 3 22 none,.row 3 0,.row 3 0]⟩ (fun n z=>zau φ (fun a0 a1 a2 a3 a4 a5 a6 a7 a8=>zk47 (a0,a1,a2,a3,a4,a5,a6,a7,a8,())) n z.1 z.2.1 z.2.2.1 z.2.2.2.1 z.2.2.2.2.1 z.2.2.2.2.2.1 z.2.2.2.2.2.2.1 z.2.2.2.2.2.2.2.1 z.2.2.2.2.2.2.2.2.1 z.2.2.2.2.2.2.2.2.2.1 z.2.2.2.2.2.2.2.2.2.2.1 z.2.2.2.2.2.2.2.2.2.2.2.1 z.2.2.2.2.2.2.2.2.2.2.2.2.1 z.2.2.2.2.2.2.2.2.2.2.2.2.2.1) (fun zk195=>.x))) (.seq .x (.seq .x (.seq .x (.seq (.seq .x (.body (.loop ⟨[(193,[(0,.ptr 0 0),(4,.own 1),(5,.own 2),(12,.val 0),(13,.val 0)]),(19,[(0,.ptr 0 0)]),(27,[(2,.ptr 3 0),(5,.ptr 0 0)])],[.box 126 [.val 22,.val 39,.own 4,.own 5,.own 6,.own 7,.own 8],.row 3 0,.row 189 43,.box 68 [.own 9,.own 10],.row 3 0,.row 3 0,.row 3 0,.nst 42 3 22 none,.nst 42 3 22 none,.row 3 0,.row 3 0]⟩ (fun n z=>z6n φ (fun a0 a1 a2 a3 a4 a5 a6 a7 a8=>zk47 (a0,a1,a2,a3,a4,a5,a6,a7,a8,())) n z.1 z.2.1 z.2.2.1 z.2.2.2.1 z.2.2.2.2.1 z.2.2.2.2.2.1 z.2.2.2.2.2.2.1 z.2.2.2.2.2.2.2.1 z.2.2.2.2.2.2.2.2.1 z.2.2.2.2.2.2.2.2.2.1 z.2.2.2.2.2.2.2.2.2.2.1 z.2.2.2.2.2.2.2.2.2.2.2.1 z.2.2.2.2.2.2.2.2.2.2.2.2.1) (fun zk209=>(.seq .x (.seq (.join ⟨[(193,[(0,.ptr 0 0),(4,.own 1),(5,.own 2),(12,.val 0),(13,.val 0)]),(19,[(0,.ptr 0 0)]),(27,[(2,.ptr 3 0),(5,.ptr 0 0)])],[.box 126 [.val 22,.val 39,.own 4,.own 5,.own 6,.own 7,.own 8],.row 3 0,.row 189 43,.box 68 [.own 9,.own 10],.row 3 0,.row 3 0,.row 3 0,.nst 42 3 22 none,.nst 42 3 22 none,.row 3 0,.row 3 0]⟩ (fun z=>z9n φ (fun a0 a1 a2 a3 a4 a5 a6 a7 a8 a9 a10 a11 a12=>zk209 (a0,a1,a2,a3,a4,a5,a6,a7,a8,a9,a10,a11,a12,())) z.1 z.2.1 z.2.2.1 z.2.2.2.1 z.2.2.2.2.1 z.2.2.2.2.2.1 z.2.2.2.2.2.2.1 z.2.2.2.2.2.2.2.1 z.2.2.2.2.2.2.2.2.1 z.2.2.2.2.2.2.2.2.2.1 z.2.2.2.2.2.2.2.2.2.2.1 z.2.2.2.2.2.2.2.2.2.2.2.1 z.2.2.2.2.2.2.2.2.2.2.2.2.1) (.body .x)) .x)))))) .x)))))))))))) .x)) .x) .x)))) (.seq (.seq .x (.body (.loop ⟨[(19,[(10,.own 0),(11,.val 0),(12,.val 0)]),(27,[(2,.ptr 1 0),(5,.ptr 2 0)])],[.row 3 0,.box 68 [.own 3,.own 4],.box 126 [.val 22,.val 39,.own 5,.own 0,.own 6,.own 7,.own 8],.row 3 0,.row 3 0,.row 3 0,.row 3 0,.nst 42 3 22 none,.nst 42 3 22 none]⟩ (fun n z=>zc1 φ n z.1 z.2.1 z.2.2.1 z.2.2.2.1 z.2.2.2.2.1 z.2.2.2.2.2.1 z.2.2.2.2.2.2.1 z.2.2.2.2.2.2.2.1 z.2.2.2.2.2.2.2.2.1 z.2.2.2.2.2.2.2.2.2.1 z.2.2.2.2.2.2.2.2.2.2.1) (fun zk70=>.x)))) .x))) .x)) .x) .x))))
def zf5 (P:Program) (φ:Nat):Env TV:=⟨P,lk [(19,z8g φ)],lk [],lk [],lk []⟩
theorem ztd (φ:Nat) (a) :(zf0 φ).F a=fnX TV (zf5 Try.prog φ) φ Try.f18 [40] [.val 41,.val 0] (zba φ) a:=by kernel_rfl
theorem zsw (φ:Nat):fnO TV (zf5 Try.prog φ) φ Try.f18 [.val 41,.val 0] (zba φ):=by
 unfold fnO
 show obl _ _ _ _ _ _ _ _
 unfold zba
 repeat' (first | exact trivial |(refine⟨?_,?_⟩) |(intro _) |(as_aux_lemma=>kernel_rfl) | exact zh9 .. | exact zgi .. | exact zgo ..)
theorem ztc [Dr] (φ:Nat):z2j TV Try.prog 18 (zf0 φ):=
 z3q (N:=zf5 Try.prog φ) (z0a ⟨zel φ,trivial⟩ trivial trivial trivial) (zba φ) Try.func18 (by kernel_rfl) (ztd φ) (zsw φ)
end Px
end
section
set_option maxHeartbeats 4000000
set_option maxRecDepth 100000
namespace Px
open Go Go.RowKit Go.Proofs
def z6l (φ:Nat):H TV (RTup TT [.val 27]):=(.seq .x (.seq .x (.seq .x (.seq (.seq .x (.body (.loop ⟨[(72,[(3,.ptr 0 0),(5,.own 1),(22,.val 39),(23,.val 0),(24,.val 0)])],[.box 68 [.val 41],.row 3 0]⟩ (fun n z=>z2b φ n z.1 z.2.1 z.2.2.1 z.2.2.2.1 z.2.2.2.2.1) (fun zk8=>.x)))) (.seq (.seq .x (.body (.loop ⟨[(72,[(63,.own 0),(64,.val 0),(65,.val 0)])],[.row 3 0]⟩ (fun n z=>z0u φ n z.1 z.2.1 z.2.2.1) (fun zk13=>.x)))) .x)))))
def zb1 (P:Program) (φ:Nat):Env TV:=⟨P,lk [(42,z5s φ)],lk [],lk [],lk []⟩
theorem zm0 (φ:Nat) (a) :(z71 φ).F a=fnX TV (zb1 Try.prog φ) φ Try.f50 [40,41] [.val 27] (z6l φ) a:=by kernel_rfl
theorem zl4 (φ:Nat):fnO TV (zb1 Try.prog φ) φ Try.f50 [.val 27] (z6l φ):=by
 unfold fnO
 show obl _ _ _ _ _ _ _ _
 unfold z6l
 repeat' (first | exact trivial |(refine⟨?_,?_⟩) |(intro _) | kernel_rfl)
theorem zec [Dr] (φ:Nat):z2j TV Try.prog 50 (z71 φ):=
 z3q (N:=zb1 Try.prog φ) (z0a ⟨zbw φ,trivial⟩ trivial trivial trivial) (z6l φ) Try.func50 (by kernel_rfl) (zm0 φ) (zl4 φ)
def zdd (φ:Nat):H TV (RTup TT [.val 0,.val 0]):=(.seq .x (.seq .x (.seq .x (.seq .x (.seq (.seq .x (.body (.loop ⟨[(45,[(3,.ptr 0 0),(7,.val 0),(21,.val 39),(22,.val 0),(23,.val 0)])],[.box 68 [.val 41]]⟩ (fun n z=>z3a φ n z.1 z.2.1 z.2.2.1 z.2.2.2.1 z.2.2.2.2.1) (fun zk10=>.x)))) .x)))))
def zgd (P:Program) (φ:Nat):Env TV:=⟨P,lk [(19,z8g φ),(50,z71 φ)],lk [],lk [],lk []⟩
theorem zuy (φ:Nat) (a) :(zd9 φ).F a=fnX TV (zgd Try.prog φ) φ Try.f28 [40,41] [.val 0,.val 0] (zdd φ) a:=by kernel_rfl
theorem zuk (φ:Nat):fnO TV (zgd Try.prog φ) φ Try.f28 [.val 0,.val 0] (zdd φ):=by
 unfold fnO
 show obl _ _ _ _ _ _ _ _
 unfold zdd
 repeat' (first | exact trivial |(refine⟨?_,?_⟩) |(intro _) | kernel_rfl)
theorem zkv [Dr] (φ:Nat):z2j TV Try.prog 28 (zd9 φ):=
 z3q (N:=zgd Try.prog φ) (z0a ⟨zel φ,zec φ,trivial⟩ trivial trivial trivial) (zdd φ) Try.func28 (by kernel_rfl) (zuy φ) (zuk φ)
def z86 (φ:Nat):H TV (RTup TT [.row 90 53]):=.x
def zc7 (P:Program) (φ:Nat):Env TV:=⟨P,lk [],lk [],lk [],lk []⟩
theorem znk (φ:Nat) (a) :(zbv φ).F a=fnX TV (zc7 Try.prog φ) φ Try.f47 [54] [.row 90 53] (z86 φ) a:=by kernel_rfl
theorem znp (φ:Nat):fnO TV (zc7 Try.prog φ) φ Try.f47 [.row 90 53] (z86 φ):=by
 unfold fnO
 show obl _ _ _ _ _ _ _ _
 unfold z86
 repeat' (first | exact trivial |(refine⟨?_,?_⟩) |(intro _) | kernel_rfl)
theorem zne [Dr] (φ:Nat):z2j TV Try.prog 47 (zbv φ):=
 z3q (N:=zc7 Try.prog φ) (z0a trivial trivial trivial trivial) (z86 φ) Try.func47 (by kernel_rfl) (znk φ) (znp φ)
def z0n (φ:Nat):H TV (List (TT 53)):=(.seq .x (.body (.loop ⟨[(53,[(0,.own 0),(1,.val 0),(2,.val 0),(3,.cmp 53),(8,.val 0)]),(1,[(0,.own 0)])],[.row 90 53]⟩ (fun n z=>z1l φ n z.1 z.2.1 z.2.2.1 z.2.2.2.1 z.2.2.2.2.1) (fun zk10=>(.seq .x (.seq (.body (.seq .x (.body (.loop ⟨[(53,[(0,.own 0),(1,.val 0),(2,.val 0),(3,.cmp 53),(8,.val 0),(9,.val 0)]),(1,[(0,.own 0)])],[.row 90 53]⟩ (fun n z=>z1p φ (fun a0 a1 a2 a3 a4=>zk10 (a0,a1,a2,a3,a4,())) n z.1 z.2.1 z.2.2.1 z.2.2.2.1 z.2.2.2.2.1 z.2.2.2.2.2.1) (fun zk17=>.x))))) .x))))))
def z2c (P:Program) (φ:Nat):Env TV:=⟨P,lk [],lk [],lk [],lk []⟩
theorem z8n (φ:Nat) (l a) :(z2a φ).F l a=fnM TV (z2c Try.prog φ) φ Try.f85 90 53 [.val 0,.val 0,.cmp 53] (z0n φ) l a:=by kernel_rfl
theorem z8q (φ:Nat):fnMO TV (z2c Try.prog φ) φ Try.f85 90 53 (z0n φ):=by
 unfold fnMO
 show obl _ _ _ _ _ _ _ _
 unfold z0n
 repeat' (first | exact trivial |(refine⟨?_,?_⟩) |(intro _) | kernel_rfl)
theorem z90 [Dr] (φ:Nat):znj TV Try.prog 85 (z2a φ):=zot (N:=z2c Try.prog φ) (z0a trivial trivial trivial trivial) (z0n φ) Try.func85 (by kernel_rfl) (z8n φ) (z8q φ)
def z1t (φ:Nat):H TV (List (TT 53)):=(.seq .x (.body (.loop ⟨[(38,[(0,.own 0),(1,.val 0),(2,.val 0),(3,.val 0),(10,.val 0)]),(1,[(0,.own 0)])],[.row 90 53]⟩ (fun n z=>z2w φ n z.1 z.2.1 z.2.2.1 z.2.2.2.1 z.2.2.2.2.1) (fun zk11=>.x))))
def z3i (P:Program) (φ:Nat):Env TV:=⟨P,lk [],lk [],lk [],lk []⟩
theorem zc4 (φ:Nat) (l a) :(z3o φ).F l a=fnM TV (z3i Try.prog φ) φ Try.f116 90 53 [.val 0,.val 0,.val 0,.cmp 53] (z1t φ) l a:=by kernel_rfl
theorem zbu (φ:Nat):fnMO TV (z3i Try.prog φ) φ Try.f116 90 53 (z1t φ):=by
 unfold fnMO
 show obl _ _ _ _ _ _ _ _
 unfold z1t
 repeat' (first | exact trivial |(refine⟨?_,?_⟩) |(intro _) | kernel_rfl)
theorem zc2 [Dr] (φ:Nat):znj TV Try.prog 116 (z3o φ):=zot (N:=z3i Try.prog φ) (z0a trivial trivial trivial trivial) (z1t φ) Try.func116 (by kernel_rfl) (zc4 φ) (zbu φ)
def z2y (φ:Nat):H TV (List (TT 53)):=(.seq .x (.seq .x (.seq (.body (.loop ⟨[(58,[(0,.own 0),(2,.val 0),(4,.cmp 53),(10,.val 0),(11,.val 0)]),(1,[(0,.own 0)])],[.row 90 53]⟩ (fun n z=>z27 φ n z.1 z.2.1 z.2.2.1 z.2.2.2.1 z.2.2.2.2.1) (fun zk11=>.x))) .x)))
def z4k (P:Program) (φ:Nat):Env TV:=⟨P,lk [],lk [(116,z3o φ)],lk [],lk []⟩
theorem zdv (φ:Nat) (l a) :(z4l φ).F l a=fnM TV (z4k Try.prog φ) φ Try.f103 90 53 [.val 0,.val 0,.val 0,.cmp 53] (z2y φ) l a:=by kernel_rfl
theorem zdu (φ:Nat):fnMO TV (z4k Try.prog φ) φ Try.f103 90 53 (z2y φ):=by
 unfold fnMO
 show obl _ _ _ _ _ _ _ _
 unfold z2y
 repeat' (first | exact trivial |(refine⟨?_,?_⟩) |(intro _) | kernel_rfl)
theorem ze0 [Dr] (φ:Nat):znj TV Try.prog 103 (z4l φ):=zot (N:=z4k Try.prog φ) (z0a trivial ⟨(zc2 φ),trivial⟩ trivial trivial) (z2y φ) Try.func103 (by kernel_rfl) (zdv φ) (zdu φ)
def z25 (φ d:Nat):H TV (List (TT 53)):=(.seq (.seq .x (.cond (.seq .x (.seq .x (.seq (.body (.loop ⟨[(220,[(0,.own 0),(1,.val 0),(4,.cmp 53),(10,.val 0),(11,.val 0)]),(1,[(0,.own 0)])],[.row 90 53]⟩ (fun n z=>z1f φ n z.1 z.2.1 z.2.2.1 z.2.2.2.1 z.2.2.2.2.1) (fun zk11=>.x))) (.seq (.seq .x (.body (.loop ⟨[(220,[(0,.own 0),(10,.val 0),(13,.val 0)]),(1,[(0,.own 0)])],[.row 90 53]⟩ (fun n z=>z31 φ n z.1 z.2.1 z.2.2.1) (fun zk16=>.x)))) .x)))) .x)) (.seq (.seq .x (.cond (.seq .x (.seq .x (.seq (.body (.loop ⟨[(220,[(0,.own 0),(2,.val 0),(4,.cmp 53),(14,.val 0),(15,.val 0)]),(1,[(0,.own 0)])],[.row 90 53]⟩ (fun n z=>z1g φ n z.1 z.2.1 z.2.2.1 z.2.2.2.1 z.2.2.2.2.1) (fun zk22=>.x))) (.seq (.seq .x (.body (.loop ⟨[(220,[(0,.own 0),(14,.val 0),(17,.val 0)]),(1,[(0,.own 0)])],[.row 90 53]⟩ (fun n z=>z30 φ n z.1 z.2.1 z.2.2.1) (fun zk27=>.x)))) .x)))) .x)) (.seq .x (.seq .x (.seq .x (.seq (.join ⟨[(220,[(0,.own 0),(1,.val 0),(2,.val 0),(3,.val 0),(4,.cmp 53),(18,.val 0),(19,.val 0),(20,.val 0),(21,.val 0)]),(1,[(0,.own 0)])],[.row 90 53]⟩ (fun z=>z2z φ (zz φ d) z.1 z.2.1 z.2.2.1 z.2.2.2.1 z.2.2.2.2.1 z.2.2.2.2.2.1 z.2.2.2.2.2.2.1 z.2.2.2.2.2.2.2.1 z.2.2.2.2.2.2.2.2.1) (.seq .x .x)) (.seq .x (.seq (.body (.loop ⟨[(220,[(0,.own 0),(1,.val 0),(2,.val 0),(3,.val 0),(4,.cmp 53),(18,.val 0),(19,.val 0),(20,.val 0),(21,.val 0),(22,.val 0)]),(1,[(0,.own 0)])],[.row 90 53]⟩ (fun n z=>z1d φ (zz φ d) n z.1 z.2.1 z.2.2.1 z.2.2.2.1 z.2.2.2.2.1 z.2.2.2.2.2.1 z.2.2.2.2.2.2.1 z.2.2.2.2.2.2.2.1 z.2.2.2.2.2.2.2.2.1 z.2.2.2.2.2.2.2.2.2.1) (fun zk48=>.x))) (.seq .x (.seq (.join ⟨[(220,[(0,.own 0),(1,.val 0),(3,.val 0),(4,.cmp 53),(18,.val 0),(20,.val 0),(24,.val 0)]),(1,[(0,.own 0)])],[.row 90 53]⟩ (fun z=>z32 φ (zz φ d) z.1 z.2.1 z.2.2.1 z.2.2.2.1 z.2.2.2.2.1 z.2.2.2.2.2.1 z.2.2.2.2.2.2.1) (.seq .x .x)) (.seq (.join ⟨[(220,[(0,.own 0),(3,.val 0),(4,.cmp 53),(18,.val 0),(24,.val 0)]),(1,[(0,.own 0)])],[.row 90 53]⟩ (fun z=>z33 φ (zz φ d) z.1 z.2.1 z.2.2.1 z.2.2.2.1 z.2.2.2.2.1) (.seq .x .x)) .x)))))))))))
def z3y (P:Program) (φ d:Nat):Env TV:=⟨P,lk [],lk [(103,z4l φ),(86,z24 φ d)],lk [],lk []⟩
theorem zcj (φ d:Nat) (l a) :(z24 φ (d+1)).F l a=fnM TV (z3y Try.prog φ d) φ Try.f86 90 53 [.val 0,.val 0,.val 0,.cmp 53] (z25 φ d) l a:=by kernel_rfl
theorem zci (φ d:Nat):fnMO TV (z3y Try.prog φ d) φ Try.f86 90 53 (z25 φ d):=by
 unfold fnMO
 show obl _ _ _ _ _ _ _ _
 unfold z25
 repeat' (first | exact trivial |(refine⟨?_,?_⟩) |(intro _) | kernel_rfl)
theorem z6a [Dr] (φ:Nat):∀ d,znj TV Try.prog 86 (z24 φ d)
 | 0=>fun l a l2 sv h=>absurd (show (none:Option (List (TT 53)))=some l2 from h) (fun q=>by cases q)
 | d+1=>zot (N:=z3y Try.prog φ d) (z0a trivial ⟨(ze0 φ),(z6a φ d),trivial⟩ trivial trivial) (z25 φ d) Try.func86 (by kernel_rfl) (zcj φ d) (zci φ d)
def z2x (φ:Nat):H TV (List (TT 53)):=(.seq .x (.seq .x (.seq (.body (.loop ⟨[(63,[(0,.own 0),(1,.val 0),(2,.cmp 53),(6,.val 0),(7,.val 0),(8,.val 0)]),(1,[(0,.own 0)])],[.row 90 53]⟩ (fun n z=>z3v φ n z.1 z.2.1 z.2.2.1 z.2.2.2.1 z.2.2.2.2.1 z.2.2.2.2.2.1) (fun zk10=>.x))) (.seq .x (.body (.loop ⟨[(63,[(0,.own 0),(1,.val 0),(2,.cmp 53),(6,.val 0)]),(1,[(0,.own 0)])],[.row 90 53]⟩ (fun n z=>z3x φ n z.1 z.2.1 z.2.2.1 z.2.2.2.1) (fun zk17=>(.seq .x (.body (.seq .x (.seq (.body (.loop ⟨[(63,[(0,.own 0),(1,.val 0),(2,.cmp 53),(6,.val 0),(7,.val 0),(8,.val 0)]),(1,[(0,.own 0)])],[.row 90 53]⟩ (fun n z=>z40 φ (fun a0 a1 a2 a3=>zk17 (a0,a1,a2,a3,())) n z.1 z.2.1 z.2.2.1 z.2.2.2.1 z.2.2.2.2.1 z.2.2.2.2.2.1) (fun zk24=>.x))) .x)))))))))))
def z4j (P:Program) (φ:Nat):Env TV:=⟨P,lk [],lk [(85,z2a φ),(86,z24 φ φ)],lk [],lk []⟩
theorem zdw (φ:Nat) (l a) :(z4n φ).F l a=fnM TV (z4j Try.prog φ) φ Try.f70 90 53 [.val 0,.cmp 53] (z2x φ) l a:=by kernel_rfl
theorem zdz (φ:Nat):fnMO TV (z4j Try.prog φ) φ Try.f70 90 53 (z2x φ):=by
 unfold fnMO
 show obl _ _ _ _ _ _ _ _
 unfold z2x
 repeat' (first | exact trivial |(refine⟨?_,?_⟩) |(intro _) | kernel_rfl)
theorem zdx [Dr] (φ:Nat):znj TV Try.prog 70 (z4n φ):=zot (N:=z4j Try.prog φ) (z0a trivial ⟨(z90 φ),(z6a φ φ),trivial⟩ trivial trivial) (z2x φ) Try.func70 (by kernel_rfl) (zdw φ) (zdz φ)
def z2f (φ:Nat):H TV (List (TT 53)):=.x
def z47 (P:Program) (φ:Nat):Env TV:=⟨P,lk [],lk [(70,z4n φ)],lk [],lk []⟩
theorem zd2 (φ:Nat) (l a) :(z4b φ).F l a=fnM TV (z47 Try.prog φ) φ Try.f48 90 53 [.cmp 53] (z2f φ) l a:=by kernel_rfl
theorem zdb (φ:Nat):fnMO TV (z47 Try.prog φ) φ Try.f48 90 53 (z2f φ):=by
 unfold fnMO
 show obl _ _ _ _ _ _ _ _
 unfold z2f
 repeat' (first | exact trivial |(refine⟨?_,?_⟩) |(intro _) | kernel_rfl)
theorem zcp [Dr] (φ:Nat):znj TV Try.prog 48 (z4b φ):=zot (N:=z47 Try.prog φ) (z0a trivial ⟨(zdx φ),trivial⟩ trivial trivial) (z2f φ) Try.func48 (by kernel_rfl) (zd2 φ) (zdb φ)
def z95 (φ:Nat):H TV (RTup TT [.val 0]):=.x
def zct (P:Program) (φ:Nat):Env TV:=⟨P,lk [],lk [],lk [],lk []⟩
theorem zpf (φ:Nat) (a) :(zdn φ).F a=fnX TV (zct Try.prog φ) φ Try.f72 [0,0] [.val 0] (z95 φ) a:=by kernel_rfl
theorem zpk (φ:Nat):fnO TV (zct Try.prog φ) φ Try.f72 [.val 0] (z95 φ):=by
 unfold fnO
 show obl _ _ _ _ _ _ _ _
 unfold z95
 repeat' (first | exact trivial |(refine⟨?_,?_⟩) |(intro _) | kernel_rfl)
theorem zp7 [Dr] (φ:Nat):z2j TV Try.prog 72 (zdn φ):=
 z3q (N:=zct Try.prog φ) (z0a trivial trivial trivial trivial) (z95 φ) Try.func72 (by kernel_rfl) (zpf φ) (zpk φ)
def zke (φ:Nat):H TV (RTup TT [.val 0]):=(.seq .x (.seq .x (.seq (.seq .x (.body (.loop ⟨[(18,[(3,.val 0),(6,.val 22),(7,.val 0),(8,.val 0)])],[]⟩ (fun n z=>zn2 φ n z.1 z.2.1 z.2.2.1 z.2.2.2.1) (fun zk6=>.x)))) .x)))
def zq3 (P:Program) (φ:Nat):Env TV:=⟨P,lk [],lk [],lk [],lk []⟩
theorem y60 (φ:Nat) (a) :(zph φ).F a=fnX TV (zq3 Try.prog φ) φ Try.f71 [22] [.val 0] (zke φ) a:=by kernel_rfl
theorem y73 (φ:Nat):fnO TV (zq3 Try.prog φ) φ Try.f71 [.val 0] (zke φ):=by
 unfold fnO
 show obl _ _ _ _ _ _ _ _
 unfold zke
 repeat' (first | exact trivial |(refine⟨?_,?_⟩) |(intro _) | kernel_rfl)
theorem y5m [Dr] (φ:Nat):z2j TV Try.prog 71 (zph φ):=
 z3q (N:=zq3 Try.prog φ) (z0a trivial trivial trivial trivial) (zke φ) Try.func71 (by kernel_rfl) (y60 φ) (y73 φ)
def z5w (φ:Nat):H TV (RTup TT [.val 0]):=.x
def z8s (P:Program) (φ:Nat):Env TV:=⟨P,lk [(72,zdn φ),(71,zph φ)],lk [],lk [],lk []⟩
theorem zka (φ:Nat) (a) :(z8u φ).F a=fnX TV (z8s Try.prog φ) φ Try.f49 [53,53] [.val 0] (z5w φ) a:=by kernel_rfl
theorem zkb (φ:Nat):fnO TV (z8s Try.prog φ) φ Try.f49 [.val 0] (z5w φ):=by
 unfold fnO
 show obl _ _ _ _ _ _ _ _
 unfold z5w
 repeat' (first | exact trivial |(refine⟨?_,?_⟩) |(intro _) | kernel_rfl)
theorem zjt [Dr] (φ:Nat):z2j TV Try.prog 49 (z8u φ):=
 z3q (N:=z8s Try.prog φ) (z0a ⟨zp7 φ,y5m φ,trivial⟩ trivial trivial trivial) (z5w φ) Try.func49 (by kernel_rfl) (zka φ) (zkb φ)
def z61 (φ:Nat):H TV (RTup TT [.val 37]):=(.seq .x (.seq .x (.seq .x (.seq (.seq .x (.body (.loop ⟨[(49,[(1,.val 0),(4,.own 0),(12,.own 1),(13,.val 0),(14,.val 0)])],[.row 51 30,.row 90 53]⟩ (fun n z=>z4q φ n z.1 z.2.1 z.2.2.1 z.2.2.2.1 z.2.2.2.2.1) (fun zk10=>.x)))) .x))))
def z8x (P:Program) (φ:Nat):Env TV:=⟨P,lk [(47,zbv φ),(49,z8u φ)],lk [(48,z4b φ)],lk [],lk []⟩
theorem zjy (φ:Nat) (a) :(z8z φ).F a=fnX TV (z8x Try.prog φ) φ Try.f26 [54,0] [.val 37] (z61 φ) a:=by kernel_rfl
theorem zjv (φ:Nat):fnO TV (z8x Try.prog φ) φ Try.f26 [.val 37] (z61 φ):=by
 unfold fnO
 show obl _ _ _ _ _ _ _ _
 unfold z61
 repeat' (first | exact trivial |(refine⟨?_,?_⟩) |(intro _) | kernel_rfl)
theorem zjz [Dr] (φ:Nat):z2j TV Try.prog 26 (z8z φ):=
 z3q (N:=z8x Try.prog φ) (z0a ⟨zne φ,zjt φ,trivial⟩ ⟨(zcp φ),trivial⟩ trivial trivial) (z61 φ) Try.func26 (by kernel_rfl) (zjy φ) (zjv φ)
def zbe (φ:Nat):H TV (RTup TT [.val 27]):=(.seq .x (.seq .x (.seq .x (.seq .x (.seq (.join ⟨[(161,[(1,.own 0),(2,.own 1),(3,.ptr 2 0),(4,.val 0)])],[.row 49 29,.row 51 30,.box 44 [.own 3,.val 0,.val 22],.row 60 45]⟩ (fun z=>z89 φ z.1 z.2.1 z.2.2.1 z.2.2.2.1 z.2.2.2.2.1 z.2.2.2.2.2.1) (.ins 3 11 (.seq .x (.seq (.join ⟨[(93,[(1,.own 0),(2,.own 1),(6,.ptr 2 0),(7,.val 0),(8,.ptr 3 0)]),(161,[(1,.own 0),(2,.own 1)])],[.row 49 29,.row 51 30,.box 44 [.own 4,.val 0,.own 5],.box 64 [.own 6,.own 7],.row 60 45,.row 3 0,.row 3 0,.row 77 38]⟩ (fun z=>z2u φ z.1 z.2.1 z.2.2.1 z.2.2.2.1 z.2.2.2.2.1 z.2.2.2.2.2.1 z.2.2.2.2.2.2.1 z.2.2.2.2.2.2.2.1) (.ins 3 17 (.seq .x (.seq .x (.seq .x (.seq (.seq .x (.body (.loop ⟨[(99,[(1,.own 0),(2,.own 1),(3,.ptr 2 0),(6,.ptr 3 0),(9,.val 0),(10,.val 0),(22,.own 0),(23,.val 0),(24,.val 0)]),(93,[(1,.own 0),(2,.own 1),(6,.ptr 4 0)]),(161,[(1,.own 0),(2,.own 1)])],[.row 49 29,.row 51 30,.box 36 [.val 26],.box 64 [.own 5,.own 6],.box 44 [.own 7,.val 0,.own 8],.row 3 0,.row 77 38,.row 60 45,.row 3 0]⟩ (fun n z=>zan φ n z.1 z.2.1 z.2.2.1 z.2.2.2.1 z.2.2.2.2.1 z.2.2.2.2.2.1 z.2.2.2.2.2.2.1 z.2.2.2.2.2.2.2.1 z.2.2.2.2.2.2.2.2.1 z.2.2.2.2.2.2.2.2.2.1 z.2.2.2.2.2.2.2.2.2.2.1 z.2.2.2.2.2.2.2.2.2.2.2.1) (fun zk513=>.x)))) (.seq (.seq .x (.body (.loop ⟨[(99,[(1,.own 0),(2,.own 1),(3,.ptr 2 0),(6,.ptr 3 0),(9,.val 0),(10,.val 0),(45,.own 1),(46,.val 0),(47,.val 0)]),(93,[(1,.own 0),(2,.own 1),(6,.ptr 4 0)]),(161,[(1,.own 0),(2,.own 1)])],[.row 49 29,.row 51 30,.box 36 [.val 26],.box 64 [.own 5,.own 6],.box 44 [.own 7,.val 0,.own 8],.row 3 0,.row 77 38,.row 60 45,.row 3 0]⟩ (fun n z=>z9t φ n z.1 z.2.1 z.2.2.1 z.2.2.2.1 z.2.2.2.2.1 z.2.2.2.2.2.1 z.2.2.2.2.2.2.1 z.2.2.2.2.2.2.2.1 z.2.2.2.2.2.2.2.2.1 z.2.2.2.2.2.2.2.2.2.1 z.2.2.2.2.2.2.2.2.2.2.1 z.2.2.2.2.2.2.2.2.2.2.2.1) (fun zk527=>.x)))) (.seq .x (.seq .x (.seq (.join ⟨[(99,[(6,.ptr 0 0)]),(93,[(1,.own 1),(2,.own 2),(6,.ptr 3 0)]),(161,[(1,.own 1),(2,.own 2)])],[.box 64 [.own 4,.own 5],.row 49 29,.row 51 30,.box 44 [.own 6,.val 0,.own 7],.row 3 0,.row 77 38,.row 60 45,.row 3 0]⟩ (fun z=>z55 φ z.1 z.2.1 z.2.2.1 z.2.2.2.1 z.2.2.2.2.1 z.2.2.2.2.2.1 z.2.2.2.2.2.2.1) (.seq .x (.body (.rf 17 0 62 (.seq .x (.seq (.seq .x (.body (.loop ⟨[(112,[(0,.own 0),(1,.ptr 1 0),(2,.ptr 2 0),(3,.ptr 3 0),(5,.val 0),(6,.val 0),(22,.own 4),(23,.val 0),(24,.val 0)]),(100,[(6,.ptr 5 0),(99,.own 0)]),(93,[(1,.own 4),(2,.own 6),(6,.ptr 7 0)]),(161,[(1,.own 4),(2,.own 6)])],[.emp,.box 37 [.own 4],.box 38 [.own 6],.box 36 [.val 26],.row 49 29,.box 64 [.own 8,.own 9],.row 51 30,.box 44 [.own 10,.val 0,.own 11],.row 3 0,.row 77 38,.row 60 45,.row 3 0]⟩ (fun n z=>zai φ n z.1 z.2.1 z.2.2.1 z.2.2.2.1 z.2.2.2.2.1 z.2.2.2.2.2.1 z.2.2.2.2.2.2.1 z.2.2.2.2.2.2.2.1 z.2.2.2.2.2.2.2.2.1 z.2.2.2.2.2.2.2.2.2.1 z.2.2.2.2.2.2.2.2.2.2.1 z.2.2.2.2.2.2.2.2.2.2.2.1) (fun zk549=>(.seq .x (.seq .x (.seq (.body (.seq .x (.seq .x (.body (.loop ⟨[(112,[(0,.own 0),(1,.ptr 1 0),(2,.ptr 2 0),(3,.ptr 3 0),(5,.val 0),(6,.val 0),(7,.val 0),(8,.ptr 4 0),(22,.own 5),(23,.val 0),(24,.val 0),(29,.own 6),(30,.val 0),(31,.val 0)]),(100,[(6,.ptr 7 0),(99,.own 0)]),(93,[(1,.own 5),(2,.own 6),(6,.ptr 8 0)]),(161,[(1,.own 5),(2,.own 6)])],[.emp,.box 37 [.own 5],.box 38 [.own 6],.box 36 [.val 26],.box 49 [.val 29],.row 49 29,.row 51 30,.box 64 [.own 9,.own 10],.box 44 [.own 11,.val 0,.own 12],.row 3 0,.row 77 38,.row 60 45,.row 3 0]⟩ (fun n z=>z6u φ (fun a0 a1 a2 a3 a4 a5 a6 a7 a8 a9 a10 a11=>zk549 (a0,a1,a2,a3,a4,a5,a6,a7,a8,a9,a10,a11,())) n z.1 z.2.1 z.2.2.1 z.2.2.2.1 z.2.2.2.2.1 z.2.2.2.2.2.1 z.2.2.2.2.2.2.1 z.2.2.2.2.2.2.2.1 z.2.2.2.2.2.2.2.2.1 z.2.2.2.2.2.2.2.2.2.1 z.2.2.2.2.2.2.2.2.2.2.1 z.2.2.2.2.2.2.2.2.2.2.2.1 z.2.2.2.2.2.2.2.2.2.2.2.2.1 z.2.2.2.2.2.2.2.2.2.2.2.2.2.1 z.2.2.2.2.2.2.2.2.2.2.2.2.2.2.1 z.2.2.2.2.2.2.2.2.2.2.2.2.2.2.2.1) (fun zk566=>(.seq .x (.seq .x (.seq (.body (.seq .x (.seq .x (.seq (.yl 15 17 0 .x .x) .x)))) .x))))))))) .x))))))) (.seq (.seq .x (.body (.loop ⟨[(112,[(0,.own 0),(1,.ptr 1 0),(5,.val 0),(6,.val 0),(63,.own 2),(64,.val 0),(65,.val 0)]),(100,[(6,.ptr 3 0),(99,.own 0)]),(93,[(1,.own 4),(2,.own 2),(6,.ptr 5 0)]),(161,[(1,.own 4),(2,.own 2)])],[.emp,.box 37 [.own 4],.row 51 30,.box 64 [.own 6,.own 7],.row 49 29,.box 44 [.own 8,.val 0,.own 9],.row 3 0,.row 77 38,.row 60 45,.row 3 0]⟩ (fun n z=>zak φ n z.1 z.2.1 z.2.2.1 z.2.2.2.1 z.2.2.2.2.1 z.2.2.2.2.2.1 z.2.2.2.2.2.2.1 z.2.2.2.2.2.2.2.1 z.2.2.2.2.2.2.2.2.1 z.2.2.2.2.2.2.2.2.2.1 z.2.2.2.2.2.2.2.2.2.2.1) (fun zk579=>(.seq .x (.seq .x (.seq (.body (.seq .x (.seq .x (.seq (.yl 11 17 0 .x .x) .x)))) .x))))))) (.seq (.seq .x (.body (.loop ⟨[(112,[(0,.own 0),(5,.val 0),(6,.val 0),(88,.own 1),(89,.val 0),(90,.val 0)]),(100,[(6,.ptr 2 0),(99,.own 0)]),(93,[(1,.own 1),(2,.own 3),(6,.ptr 4 0)]),(161,[(1,.own 1),(2,.own 3)])],[.emp,.row 49 29,.box 64 [.own 5,.own 6],.row 51 30,.box 44 [.own 7,.val 0,.own 8],.row 3 0,.row 77 38,.row 60 45,.row 3 0]⟩ (fun n z=>za7 φ n z.1 z.2.1 z.2.2.1 z.2.2.2.1 z.2.2.2.2.1 z.2.2.2.2.2.1 z.2.2.2.2.2.2.1 z.2.2.2.2.2.2.2.1 z.2.2.2.2.2.2.2.2.1 z.2.2.2.2.2.2.2.2.2.1 z.2.2.2.2.2.2.2.2.2.2.1) (fun zk591=>(.seq .x (.seq .x (.seq (.body (.seq .x (.seq (.yl 7 17 0 .x .x) .x))) .x))))))) (.yl 6 17 0 .x .x))))))))) .x)))))))) .x)) (.seq .x (.seq .x (.seq .x (.seq .x (.seq .x (.seq (.seq .x (.body (.loop ⟨[(93,[(1,.own 0),(2,.own 1),(6,.ptr 2 0),(9,.ptr 3 0),(43,.val 39),(44,.val 0),(45,.val 0)]),(161,[(1,.own 0),(2,.own 1)])],[.row 49 29,.row 51 30,.box 44 [.own 4,.val 0,.val 22],.box 68 [.val 41],.row 60 45]⟩ (fun n z=>z6x φ n z.1 z.2.1 z.2.2.1 z.2.2.2.1 z.2.2.2.2.1 z.2.2.2.2.2.1 z.2.2.2.2.2.2.1 z.2.2.2.2.2.2.2.1 z.2.2.2.2.2.2.2.2.1) (fun zk499=>.x)))) .x)))))))) .x)) (.seq .x (.seq (.join ⟨[(161,[(1,.own 0),(2,.own 1),(3,.ptr 2 0),(4,.val 0),(5,.ptr 3 0),(6,.val 0)])],[.row 49 29,.row 51 30,.box 44 [.own 4,.val 0,.val 22],.box 44 [.own 5,.val 0,.val 22],.row 60 45,.row 60 45]⟩ (fun z=>z81 φ z.1 z.2.1 z.2.2.1 z.2.2.2.1 z.2.2.2.2.1 z.2.2.2.2.2.1 z.2.2.2.2.2.2.1 z.2.2.2.2.2.2.2.1 z.2.2.2.2.2.2.2.2.1 z.2.2.2.2.2.2.2.2.2.1) (.ins 3 11 (.seq .x (.seq (.join ⟨[(93,[(1,.own 0),(2,.own 1),(6,.ptr 2 0),(7,.val 0),(8,.ptr 3 0)]),(161,[(1,.own 0),(2,.own 1),(3,.ptr 4 0),(4,.val 0)])],[.row 49 29,.row 51 30,.box 44 [.own 5,.val 0,.own 6],.box 64 [.own 7,.own 8],.box 44 [.own 9,.val 0,.val 22],.row 60 45,.row 3 0,.row 3 0,.row 77 38,.row 60 45]⟩ (fun z=>z2v φ z.1 z.2.1 z.2.2.1 z.2.2.2.1 z.2.2.2.2.1 z.2.2.2.2.2.1 z.2.2.2.2.2.2.1 z.2.2.2.2.2.2.2.1 z.2.2.2.2.2.2.2.2.1 z.2.2.2.2.2.2.2.2.2.1 z.2.2.2.2.2.2.2.2.2.2.1 z.2.2.2.2.2.2.2.2.2.2.2.1) (.ins 3 17 (.seq .x (.seq .x (.seq .x (.seq (.seq .x (.body (.loop ⟨[(99,[(1,.own 0),(2,.own 1),(3,.ptr 2 0),(6,.ptr 3 0),(9,.val 0),(10,.val 0),(22,.own 0),(23,.val 0),(24,.val 0)]),(93,[(1,.own 0),(2,.own 1),(6,.ptr 4 0)]),(161,[(1,.own 0),(2,.own 1),(3,.ptr 5 0),(4,.val 0)])],[.row 49 29,.row 51 30,.box 36 [.val 26],.box 64 [.own 6,.own 7],.box 44 [.own 8,.val 0,.own 9],.box 44 [.own 10,.val 0,.val 22],.row 3 0,.row 77 38,.row 60 45,.row 3 0,.row 60 45]⟩ (fun n z=>zag φ n z.1 z.2.1 z.2.2.1 z.2.2.2.1 z.2.2.2.2.1 z.2.2.2.2.2.1 z.2.2.2.2.2.2.1 z.2.2.2.2.2.2.2.1 z.2.2.2.2.2.2.2.2.1 z.2.2.2.2.2.2.2.2.2.1 z.2.2.2.2.2.2.2.2.2.2.1 z.2.2.2.2.2.2.2.2.2.2.2.1 z.2.2.2.2.2.2.2.2.2.2.2.2.1 z.2.2.2.2.2.2.2.2.2.2.2.2.2.1 z.2.2.2.2.2.2.2.2.2.2.2.2.2.2.1 z.2.2.2.2.2.2.2.2.2.2.2.2.2.2.2.1) (fun zk375=>.x)))) (.seq (.seq .x (.body (.loop ⟨[(99,[(1,.own 0),(2,.own 1),(3,.ptr 2 0),(6,.ptr 3 0),(9,.val 0),(10,.val 0),(45,.own 1),(46,.val 0),(47,.val 0)]),(93,[(1,.own 0),(2,.own 1),(6,.ptr 4 0)]),(161,[(1,.own 0),(2,.own 1),(3,.ptr 5 0),(4,.val 0)])],[.row 49 29,.row 51 30,.box 36 [.val 26],.box 64 [.own 6,.own 7],.box 44 [.own 8,.val 0,.own 9],.box 44 [.own 10,.val 0,.val 22],.row 3 0,.row 77 38,.row 60 45,.row 3 0,.row 60 45]⟩ (fun n z=>z9l φ n z.1 z.2.1 z.2.2.1 z.2.2.2.1 z.2.2.2.2.1 z.2.2.2.2.2.1 z.2.2.2.2.2.2.1 z.2.2.2.2.2.2.2.1 z.2.2.2.2.2.2.2.2.1 z.2.2.2.2.2.2.2.2.2.1 z.2.2.2.2.2.2.2.2.2.2.1 z.2.2.2.2.2.2.2.2.2.2.2.1 z.2.2.2.2.2.2.2.2.2.2.2.2.1 z.2.2.2.2.2.2.2.2.2.2.2.2.2.1 z.2.2.2.2.2.2.2.2.2.2.2.2.2.2.1 z.2.2.2.2.2.2.2.2.2.2.2.2.2.2.2.1) (fun zk393=>.x)))) (.seq .x (.seq .x (.seq (.join ⟨[(99,[(6,.ptr 0 0)]),(93,[(1,.own 1),(2,.own 2),(6,.ptr 3 0)]),(161,[(1,.own 1),(2,.own 2),(3,.ptr 4 0),(4,.val 0)])],[.box 64 [.own 5,.own 6],.row 49 29,.row 51 30,.box 44 [.own 7,.val 0,.own 8],.box 44 [.own 9,.val 0,.val 22],.row 3 0,.row 77 38,.row 60 45,.row 3 0,.row 60 45]⟩ (fun z=>z4x φ z.1 z.2.1 z.2.2.1 z.2.2.2.1 z.2.2.2.2.1 z.2.2.2.2.2.1 z.2.2.2.2.2.2.1 z.2.2.2.2.2.2.2.1 z.2.2.2.2.2.2.2.2.1 z.2.2.2.2.2.2.2.2.2.1 z.2.2.2.2.2.2.2.2.2.2.1) (.seq .x (.body (.rf 17 0 62 (.seq .x (.seq (.seq .x (.body (.loop ⟨[(112,[(0,.own 0),(1,.ptr 1 0),(2,.ptr 2 0),(3,.ptr 3 0),(5,.val 0),(6,.val 0),(22,.own 4),(23,.val 0),(24,.val 0)]),(100,[(6,.ptr 5 0),(99,.own 0)]),(93,[(1,.own 4),(2,.own 6),(6,.ptr 7 0)]),(161,[(1,.own 4),(2,.own 6),(3,.ptr 8 0),(4,.val 0)])],[.emp,.box 37 [.own 4],.box 38 [.own 6],.box 36 [.val 26],.row 49 29,.box 64 [.own 9,.own 10],.row 51 30,.box 44 [.own 11,.val 0,.own 12],.box 44 [.own 13,.val 0,.val 22],.row 3 0,.row 77 38,.row 60 45,.row 3 0,.row 60 45]⟩ (fun n z=>zam φ n z.1 z.2.1 z.2.2.1 z.2.2.2.1 z.2.2.2.2.1 z.2.2.2.2.2.1 z.2.2.2.2.2.2.1 z.2.2.2.2.2.2.2.1 z.2.2.2.2.2.2.2.2.1 z.2.2.2.2.2.2.2.2.2.1 z.2.2.2.2.2.2.2.2.2.2.1 z.2.2.2.2.2.2.2.2.2.2.2.1 z.2.2.2.2.2.2.2.2.2.2.2.2.1 z.2.2.2.2.2.2.2.2.2.2.2.2.2.1 z.2.2.2.2.2.2.2.2.2.2.2.2.2.2.1 z.2.2.2.2.2.2.2.2.2.2.2.2.2.2.2.1) (fun zk423=>(.seq .x (.seq .x (.seq (.body (.seq .x (.seq .x (.body (.loop ⟨[(112,[(0,.own 0),(1,.ptr 1 0),(2,.ptr 2 0),(3,.ptr 3 0),(5,.val 0),(6,.val 0),(7,.val 0),(8,.ptr 4 0),(22,.own 5),(23,.val 0),(24,.val 0),(29,.own 6),(30,.val 0),(31,.val 0)]),(100,[(6,.ptr 7 0),(99,.own 0)]),(93,[(1,.own 5),(2,.own 6),(6,.ptr 8 0)]),(161,[(1,.own 5),(2,.own 6),(3,.ptr 9 0),(4,.val 0)])],[.emp,.box 37 [.own 5],.box 38 [.own 6],.box 36 [.val 26],.box 49 [.val 29],.row 49 29,.row 51 30,.box 64 [.own 10,.own 11],.box 44 [.own 12,.val 0,.own 13],.box 44 [.own 14,.val 0,.val 22],.row 3 0,.row 77 38,.row 60 45,.row 3 0,.row 60 45]⟩ (fun n z=>z7d φ (fun a0 a1 a2 a3 a4 a5 a6 a7 a8 a9 a10 a11 a12 a13 a14 a15=>zk423 (a0,a1,a2,a3,a4,a5,a6,a7,a8,a9,a10,a11,a12,a13,a14,a15,())) n z.1 z.2.1 z.2.2.1 z.2.2.2.1 z.2.2.2.2.1 z.2.2.2.2.2.1 z.2.2.2.2.2.2.1 z.2.2.2.2.2.2.2.1 z.2.2.2.2.2.2.2.2.1 z.2.2.2.2.2.2.2.2.2.1 z.2.2.2.2.2.2.2.2.2.2.1 z.2.2.2.2.2.2.2.2.2.2.2.1 z.2.2.2.2.2.2.2.2.2.2.2.2.1 z.2.2.2.2.2.2.2.2.2.2.2.2.2.1 z.2.2.2.2.2.2.2.2.2.2.2.2.2.2.1 z.2.2.2.2.2.2.2.2.2.2.2.2.2.2.2.1 z.2.2.2.2.2.2.2.2.2.2.2.2.2.2.2.2.1 z.2.2.2.2.2.2.2.2.2.2.2.2.2.2.2.2.2.1 z.2.2.2.2.2.2.2.2.2.2.2.2.2.2.2.2.2.2.1 z.2.2.2.2.2.2.2.2.2.2.2.2.2.2.2.2.2.2.2.1) (fun zk444=>(.seq .x (.seq .x (.seq (.body (.seq .x (.seq .x (.seq (.yl 15 17 0 .x .x) .x)))) .x))))))))) .x))))))) (.seq (.seq .x (.body (.loop ⟨[(112,[(0,.own 0),(1,.ptr 1 0),(5,.val 0),(6,.val 0),(63,.own 2),(64,.val 0),(65,.val 0)]),(100,[(6,.ptr 3 0),(99,.own 0)]),(93,[(1,.own 4),(2,.own 2),(6,.ptr 5 0)]),(161,[(1,.own 4),(2,.own 2),(3,.ptr 6 0),(4,.val 0)])],[.emp,.box 37 [.own 4],.row 51 30,.box 64 [.own 7,.own 8],.row 49 29,.box 44 [.own 9,.val 0,.own 10],.box 44 [.own 11,.val 0,.val 22],.row 3 0,.row 77 38,.row 60 45,.row 3 0,.row 60 45]⟩ (fun n z=>z9u φ n z.1 z.2.1 z.2.2.1 z.2.2.2.1 z.2.2.2.2.1 z.2.2.2.2.2.1 z.2.2.2.2.2.2.1 z.2.2.2.2.2.2.2.1 z.2.2.2.2.2.2.2.2.1 z.2.2.2.2.2.2.2.2.2.1 z.2.2.2.2.2.2.2.2.2.2.1 z.2.2.2.2.2.2.2.2.2.2.2.1 z.2.2.2.2.2.2.2.2.2.2.2.2.1 z.2.2.2.2.2.2.2.2.2.2.2.2.2.1 z.2.2.2.2.2.2.2.2.2.2.2.2.2.2.1) (fun zk461=>(.seq .x (.seq .x (.seq (.body (.seq .x (.seq .x (.seq (.yl 11 17 0 .x .x) .x)))) .x))))))) (.seq (.seq .x (.body (.loop ⟨[(112,[(0,.own 0),(5,.val 0),(6,.val 0),(88,.own 1),(89,.val 0),(90,.val 0)]),(100,[(6,.ptr 2 0),(99,.own 0)]),(93,[(1,.own 1),(2,.own 3),(6,.ptr 4 0)]),(161,[(1,.own 1),(2,.own 3),(3,.ptr 5 0),(4,.val 0)])],[.emp,.row 49 29,.box 64 [.own 6,.own 7],.row 51 30,.box 44 [.own 8,.val 0,.own 9],.box 44 [.own 10,.val 0,.val 22],.row 3 0,.row 77 38,.row 60 45,.row 3 0,.row 60 45]⟩ (fun n z=>zb3 φ n z.1 z.2.1 z.2.2.1 z.2.2.2.1 z.2.2.2.2.1 z.2.2.2.2.2.1 z.2.2.2.2.2.2.1 z.2.2.2.2.2.2.2.1 z.2.2.2.2.2.2.2.2.1 z.2.2.2.2.2.2.2.2.2.1 z.2.2.2.2.2.2.2.2.2.2.1 z.2.2.2.2.2.2.2.2.2.2.2.1 z.2.2.2.2.2.2.2.2.2.2.2.2.1 z.2.2.2.2.2.2.2.2.2.2.2.2.2.1 z.2.2.2.2.2.2.2.2.2.2.2.2.2.2.1) (fun zk477=>(.seq .x (.seq .x (.seq (.body (.seq .x (.seq (.yl 7 17 0 .x .x) .x))) .x))))))) (.yl 6 17 0 .x .x))))))))) .x)))))))) .x)) (.seq .x (.seq .x (.seq .x (.seq .x (.seq .x (.seq (.seq .x (.body (.loop ⟨[(93,[(1,.own 0),(2,.own 1),(6,.ptr 2 0),(9,.ptr 3 0),(43,.val 39),(44,.val 0),(45,.val 0)]),(161,[(1,.own 0),(2,.own 1),(3,.ptr 4 0),(4,.val 0)])],[.row 49 29,.row 51 30,.box 44 [.own 5,.val 0,.val 22],.box 68 [.val 41],.box 44 [.own 6,.val 0,.val 22],.row 60 45,.row 60 45]⟩ (fun n z=>z6o φ n z.1 z.2.1 z.2.2.1 z.2.2.2.1 z.2.2.2.2.1 z.2.2.2.2.2.1 z.2.2.2.2.2.2.1 z.2.2.2.2.2.2.2.1 z.2.2.2.2.2.2.2.2.1 z.2.2.2.2.2.2.2.2.2.1 z.2.2.2.2.2.2.2.2.2.2.1 z.2.2.2.2.2.2.2.2.2.2.2.1 z.2.2.2.2.2.2.2.2.2.2.2.2.1) (fun zk357=>.x)))) .x)))))))) .x)) (.seq (.join ⟨[(161,[(1,.own 0),(2,.own 1),(3,.ptr 2 0),(4,.val 0),(5,.ptr 3 0),(6,.val 0),(7,.ptr 4 0),(8,.val 0)])],[.row 49 29,.row 51 30,.box 44 [.own 5,.val 0,.val 22],.box 44 [.own 6,.val 0,.val 22],.box 64 [.own 7,.own 8],.row 60 45,.row 60 45,.row 3 0,.row 77 38]⟩ (fun z=>z3k φ z.1 z.2.1 z.2.2.1 z.2.2.2.1 z.2.2.2.2.1 z.2.2.2.2.2.1 z.2.2.2.2.2.2.1 z.2.2.2.2.2.2.2.1 z.2.2.2.2.2.2.2.2.1 z.2.2.2.2.2.2.2.2.2.1 z.2.2.2.2.2.2.2.2.2.2.1 z.2.2.2.2.2.2.2.2.2.2.2.1 z.2.2.2.2.2.2.2.2.2.2.2.2.1) (.ins 3 17 (.seq .x (.seq .x (.seq .x (.seq (.seq .x (.body (.loop ⟨[(99,[(1,.own 0),(2,.own 1),(3,.ptr 2 0),(6,.ptr 3 0),(9,.val 0),(10,.val 0),(22,.own 0),(23,.val 0),(24,.val 0)]),(161,[(1,.own 0),(2,.own 1),(3,.ptr 4 0),(4,.val 0),(5,.ptr 5 0),(6,.val 0)])],[.row 49 29,.row 51 30,.box 36 [.val 26],.box 64 [.own 6,.own 7],.box 44 [.own 8,.val 0,.val 22],.box 44 [.own 9,.val 0,.val 22],.row 3 0,.row 77 38,.row 60 45,.row 60 45]⟩ (fun n z=>zax φ n z.1 z.2.1 z.2.2.1 z.2.2.2.1 z.2.2.2.2.1 z.2.2.2.2.2.1 z.2.2.2.2.2.2.1 z.2.2.2.2.2.2.2.1 z.2.2.2.2.2.2.2.2.1 z.2.2.2.2.2.2.2.2.2.1 z.2.2.2.2.2.2.2.2.2.2.1 z.2.2.2.2.2.2.2.2.2.2.2.1 z.2.2.2.2.2.2.2.2.2.2.2.2.1 z.2.2.2.2.2.2.2.2.2.2.2.2.2.1 z.2.2.2.2.2.2.2.2.2.2.2.2.2.2.1 z.2.2.2.2.2.2.2.2.2.2.2.2.2.2.2.1 z.2.2.2.2.2.2.2.2.2.2.2.2.2.2.2.2.1) (fun zk219=>.x)))) (.seq (.seq .x (.body (.loop ⟨[(99,[(1,.own 0),(2,.own 1),(3,.ptr 2 0),(6,.ptr 3 0),(9,.val 0),(10,.val 0),(45,.own 1),(46,.val 0),(47,.val 0)]),(161,[(1,.own 0),(2,.own 1),(3,.ptr 4 0),(4,.val 0),(5,.ptr 5 0),(6,.val 0)])],[.row 49 29,.row 51 30,.box 36 [.val 26],.box 64 [.own 6,.own 7],.box 44 [.own 8,.val 0,.val 22],.box 44 [.own 9,.val 0,.val 22],.row 3 0,.row 77 38,.row 60 45,.row 60 45]⟩ (fun n z=>za1 φ n z.1 z.2.1 z.2.2.1 z.2.2.2.1 z.2.2.2.2.1 z.2.2.2.2.2.1 z.2.2.2.2.2.2.1 z.2.2.2.2.2.2.2.1 z.2.2.2.2.2.2.2.2.1 z.2.2.2.2.2.2.2.2.2.1 z.2.2.2.2.2.2.2.2.2.2.1 z.2.2.2.2.2.2.2.2.2.2.2.1 z.2.2.2.2.2.2.2.2.2.2.2.2.1 z.2.2.2.2.2.2.2.2.2.2.2.2.2.1 z.2.2.2.2.2.2.2.2.2.2.2.2.2.2.1 z.2.2.2.2.2.2.2.2.2.2.2.2.2.2.2.1 z.2.2.2.2.2.2.2.2.2.2.2.2.2.2.2.2.1) (fun zk238=>.x)))) (.seq .x (.seq .x (.seq (.join ⟨[(99,[(6,.ptr 0 0)]),(161,[(1,.own 1),(2,.own 2),(3,.ptr 3 0),(4,.val 0),(5,.ptr 4 0),(6,.val 0)])],[.box 64 [.own 5,.own 6],.row 49 29,.row 51 30,.box 44 [.own 7,.val 0,.val 22],.box 44 [.own 8,.val 0,.val 22],.row 3 0,.row 77 38,.row 60 45,.row 60 45]⟩ (fun z=>z4y φ z.1 z.2.1 z.2.2.1 z.2.2.2.1 z.2.2.2.2.1 z.2.2.2.2.2.1 z.2.2.2.2.2.2.1 z.2.2.2.2.2.2.2.1 z.2.2.2.2.2.2.2.2.1 z.2.2.2.2.2.2.2.2.2.1 z.2.2.2.2.2.2.2.2.2.2.1 z.2.2.2.2.2.2.2.2.2.2.2.1) (.seq .x (.body (.rf 17 0 62 (.seq .x (.seq (.seq .x (.body (.loop ⟨[(112,[(0,.own 0),(1,.ptr 1 0),(2,.ptr 2 0),(3,.ptr 3 0),(5,.val 0),(6,.val 0),(22,.own 4),(23,.val 0),(24,.val 0)]),(100,[(6,.ptr 5 0),(99,.own 0)]),(161,[(1,.own 4),(2,.own 6),(3,.ptr 7 0),(4,.val 0),(5,.ptr 8 0),(6,.val 0)])],[.emp,.box 37 [.own 4],.box 38 [.own 6],.box 36 [.val 26],.row 49 29,.box 64 [.own 9,.own 10],.row 51 30,.box 44 [.own 11,.val 0,.val 22],.box 44 [.own 12,.val 0,.val 22],.row 3 0,.row 77 38,.row 60 45,.row 60 45]⟩ (fun n z=>z9m φ n z.1 z.2.1 z.2.2.1 z.2.2.2.1 z.2.2.2.2.1 z.2.2.2.2.2.1 z.2.2.2.2.2.2.1 z.2.2.2.2.2.2.2.1 z.2.2.2.2.2.2.2.2.1 z.2.2.2.2.2.2.2.2.2.1 z.2.2.2.2.2.2.2.2.2.2.1 z.2.2.2.2.2.2.2.2.2.2.2.1 z.2.2.2.2.2.2.2.2.2.2.2.2.1 z.2.2.2.2.2.2.2.2.2.2.2.2.2.1 z.2.2.2.2.2.2.2.2.2.2.2.2.2.2.1 z.2.2.2.2.2.2.2.2.2.2.2.2.2.2.2.1 z.2.2.2.2.2.2.2.2.2.2.2.2.2.2.2.2.1) (fun zk270=>(.seq .x (.seq .x (.seq (.body (.seq .x (.seq .x (.body (.loop ⟨[(112,[(0,.own 0),(1,.ptr 1 0),(2,.ptr 2 0),(3,.ptr 3 0),(5,.val 0),(6,.val 0),(7,.val 0),(8,.ptr 4 0),(22,.own 5),(23,.val 0),(24,.val 0),(29,.own 6),(30,.val 0),(31,.val 0)]),(100,[(6,.ptr 7 0),(99,.own 0)]),(161,[(1,.own 5),(2,.own 6),(3,.ptr 8 0),(4,.val 0),(5,.ptr 9 0),(6,.val 0)])],[.emp,.box 37 [.own 5],.box 38 [.own 6],.box 36 [.val 26],.box 49 [.val 29],.row 49 29,.row 51 30,.box 64 [.own 10,.own 11],.box 44 [.own 12,.val 0,.val 22],.box 44 [.own 13,.val 0,.val 22],.row 3 0,.row 77 38,.row 60 45,.row 60 45]⟩ (fun n z=>z7e φ (fun a0 a1 a2 a3 a4 a5 a6 a7 a8 a9 a10 a11 a12 a13 a14 a15 a16=>zk270 (a0,a1,a2,a3,a4,a5,a6,a7,a8,a9,a10,a11,a12,a13,a14,a15,a16,())) n z.1 z.2.1 z.2.2.1 z.2.2.2.1 z.2.2.2.2.1 z.2.2.2.2.2.1 z.2.2.2.2.2.2.1 z.2.2.2.2.2.2.2.1 z.2.2.2.2.2.2.2.2.1 z.2.2.2.2.2.2.2.2.2.1 z.2.2.2.2.2.2.2.2.2.2.1 z.2.2.2.2.2.2.2.2.2.2.2.1 z.2.2.2.2.2.2.2.2.2.2.2.2.1 z.2.2.2.2.2.2.2.2.2.2.2.2.2.1 z.2.2.2.2.2.2.2.2.2.2.2.2.2.2.1 z.2.2.2.2.2.2.2.2.2.2.2.2.2.2.2.1 z.2.2.2.2.2.2.2.2.2.2.2.2.2.2.2.2.1 z.2.2.2.2.2.2.2.2.2.2.2.2.2.2.2.2.2.1 z.2.2.2.2.2.2.2.2.2.2.2.2.2.2.2.2.2.2.1 z.2.2.2.2.2.2.2.2.2.2.2.2.2.2.2.2.2.2.2.1 z.2.2.2.2.2.2.2.2.2.2.2.2.2.2.2.2.2.2.2.2.1) (fun zk292=>(.seq .x (.seq .x (.seq (.body (.seq .x (.seq .x (.seq (.yl 15 17 0 .x .x) .x)))) .x))))))))) .x))))))) (.seq (.seq .x (.body (.loop ⟨[(112,[(0,.own 0),(1,.ptr 1 0),(5,.val 0),(6,.val 0),(63,.own 2),(64,.val 0),(65,.val 0)]),(100,[(6,.ptr 3 0),(99,.own 0)]),(161,[(1,.own 4),(2,.own 2),(3,.ptr 5 0),(4,.val 0),(5,.ptr 6 0),(6,.val 0)])],[.emp,.box 37 [.own 4],.row 51 30,.box 64 [.own 7,.own 8],.row 49 29,.box 44 [.own 9,.val 0,.val 22],.box 44 [.own 10,.val 0,.val 22],.row 3 0,.row 77 38,.row 60 45,.row 60 45]⟩ (fun n z=>zao φ n z.1 z.2.1 z.2.2.1 z.2.2.2.1 z.2.2.2.2.1 z.2.2.2.2.2.1 z.2.2.2.2.2.2.1 z.2.2.2.2.2.2.2.1 z.2.2.2.2.2.2.2.2.1 z.2.2.2.2.2.2.2.2.2.1 z.2.2.2.2.2.2.2.2.2.2.1 z.2.2.2.2.2.2.2.2.2.2.2.1 z.2.2.2.2.2.2.2.2.2.2.2.2.1 z.2.2.2.2.2.2.2.2.2.2.2.2.2.1 z.2.2.2.2.2.2.2.2.2.2.2.2.2.2.1 z.2.2.2.2.2.2.2.2.2.2.2.2.2.2.2.1) (fun zk310=>(.seq .x (.seq .x (.seq (.body (.seq .x (.seq .x (.seq (.yl 11 17 0 .x .x) .x)))) .x))))))) (.seq (.seq .x (.body (.loop ⟨[(112,[(0,.own 0),(5,.val 0),(6,.val 0),(88,.own 1),(89,.val 0),(90,.val 0)]),(100,[(6,.ptr 2 0),(99,.own 0)]),(161,[(1,.own 1),(2,.own 3),(3,.ptr 4 0),(4,.val 0),(5,.ptr 5 0),(6,.val 0)])],[.emp,.row 49 29,.box 64 [.own 6,.own 7],.row 51 30,.box 44 [.own 8,.val 0,.val 22],.box 44 [.own 9,.val 0,.val 22],.row 3 0,.row 77 38,.row 60 45,.row 60 45]⟩ (fun n z=>z9w φ n z.1 z.2.1 z.2.2.1 z.2.2.2.1 z.2.2.2.2.1 z.2.2.2.2.2.1 z.2.2.2.2.2.2.1 z.2.2.2.2.2.2.2.1 z.2.2.2.2.2.2.2.2.1 z.2.2.2.2.2.2.2.2.2.1 z.2.2.2.2.2.2.2.2.2.2.1 z.2.2.2.2.2.2.2.2.2.2.2.1 z.2.2.2.2.2.2.2.2.2.2.2.2.1 z.2.2.2.2.2.2.2.2.2.2.2.2.2.1 z.2.2.2.2.2.2.2.2.2.2.2.2.2.2.1 z.2.2.2.2.2.2.2.2.2.2.2.2.2.2.2.1) (fun zk327=>(.seq .x (.seq .x (.seq (.body (.seq .x (.seq (.yl 7 17 0 .x .x) .x))) .x))))))) (.yl 6 17 0 .x .x))))))))) .x)))))))) .x)) (.seq .x (.seq (.join ⟨[(161,[(3,.ptr 0 0),(4,.val 0),(5,.ptr 1 0),(6,.val 0),(7,.ptr 2 0),(8,.val 0),(9,.ptr 3 0),(10,.val 0)])],[.box 44 [.own 4,.val 0,.val 22],.box 44 [.own 5,.val 0,.val 22],.box 64 [.own 6,.own 7],.box 64 [.own 8,.own 9],.row 60 45,.row 60 45,.row 3 0,.row 77 38,.row 3 0,.row 77 38]⟩ (fun z=>z3p φ z.1 z.2.1 z.2.2.1 z.2.2.2.1 z.2.2.2.2.1 z.2.2.2.2.2.1 z.2.2.2.2.2.2.1 z.2.2.2.2.2.2.2.1 z.2.2.2.2.2.2.2.2.1 z.2.2.2.2.2.2.2.2.2.1 z.2.2.2.2.2.2.2.2.2.2.1 z.2.2.2.2.2.2.2.2.2.2.2.1 z.2.2.2.2.2.2.2.2.2.2.2.2.1 z.2.2.2.2.2.2.2.2.2.2.2.2.2.1) (.ins 3 17 (.seq .x (.seq .x (.seq .x (.seq (.seq .x (.body (.loop ⟨[(99,[(1,.own 0),(2,.own 1),(3,.ptr 2 0),(6,.ptr 3 0),(9,.val 0),(10,.val 0),(22,.own 0),(23,.val 0),(24,.val 0)]),(161,[(3,.ptr 4 0),(4,.val 0),(5,.ptr 5 0),(6,.val 0),(7,.ptr 6 0),(8,.val 0)])],[.row 49 29,.row 51 30,.box 36 [.val 26],.box 64 [.own 7,.own 8],.box 44 [.own 9,.val 0,.val 22],.box 44 [.own 10,.val 0,.val 22],.box 64 [.own 11,.own 12],.row 3 0,.row 77 38,.row 60 45,.row 60 45,.row 3 0,.row 77 38]⟩ (fun n z=>zbs φ n z.1 z.2.1 z.2.2.1 z.2.2.2.1 z.2.2.2.2.1 z.2.2.2.2.2.1 z.2.2.2.2.2.2.1 z.2.2.2.2.2.2.2.1 z.2.2.2.2.2.2.2.2.1 z.2.2.2.2.2.2.2.2.2.1 z.2.2.2.2.2.2.2.2.2.2.1 z.2.2.2.2.2.2.2.2.2.2.2.1 z.2.2.2.2.2.2.2.2.2.2.2.2.1 z.2.2.2.2.2.2.2.2.2.2.2.2.2.1 z.2.2.2.2.2.2.2.2.2.2.2.2.2.2.1 z.2.2.2.2.2.2.2.2.2.2.2.2.2.2.2.1 z.2.2.2.2.2.2.2.2.2.2.2.2.2.2.2.2.1 z.2.2.2.2.2.2.2.2.2.2.2.2.2.2.2.2.2.1 z.2.2.2.2.2.2.2.2.2.2.2.2.2.2.2.2.2.2.1 z.2.2.2.2.2.2.2.2.2.2.2.2.2.2.2.2.2.2.2.1) (fun zk76=>.x)))) (.seq (.seq .x (.body (.loop ⟨[(99,[(1,.own 0),(2,.own 1),(3,.ptr 2 0),(6,.ptr 3 0),(9,.val 0),(10,.val 0),(45,.own 1),(46,.val 0),(47,.val 0)]),(161,[(3,.ptr 4 0),(4,.val 0),(5,.ptr 5 0),(6,.val 0),(7,.ptr 6 0),(8,.val 0)])],[.row 49 29,.row 51 30,.box 36 [.val 26],.box 64 [.own 7,.own 8],.box 44 [.own 9,.val 0,.val 22],.box 44 [.own 10,.val 0,.val 22],.box 64 [.own 11,.own 12],.row 3 0,.row 77 38,.row 60 45,.row 60 45,.row 3 0,.row 77 38]⟩ (fun n z=>zbn φ n z.1 z.2.1 z.2.2.1 z.2.2.2.1 z.2.2.2.2.1 z.2.2.2.2.2.1 z.2.2.2.2.2.2.1 z.2.2.2.2.2.2.2.1 z.2.2.2.2.2.2.2.2.1 z.2.2.2.2.2.2.2.2.2.1 z.2.2.2.2.2.2.2.2.2.2.1 z.2.2.2.2.2.2.2.2.2.2.2.1 z.2.2.2.2.2.2.2.2.2.2.2.2.1 z.2.2.2.2.2.2.2.2.2.2.2.2.2.1 z.2.2.2.2.2.2.2.2.2.2.2.2.2.2.1 z.2.2.2.2.2.2.2.2.2.2.2.2.2.2.2.1 z.2.2.2.2.2.2.2.2.2.2.2.2.2.2.2.2.1 z.2.2.2.2.2.2.2.2.2.2.2.2.2.2.2.2.2.1 z.2.2.2.2.2.2.2.2.2.2.2.2.2.2.2.2.2.2.1 z.2.2.2.2.2.2.2.2.2.2.2.2.2.2.2.2.2.2.2.1) (fun zk98=>.x)))) (.seq .x (.seq .x (.seq (.join ⟨[(99,[(6,.ptr 0 0)]),(161,[(3,.ptr 1 0),(4,.val 0),(5,.ptr 2 0),(6,.val 0),(7,.ptr 3 0),(8,.val 0)])],[.box 64 [.own 4,.own 5],.box 44 [.own 6,.val 0,.val 22],.box 44 [.own 7,.val 0,.val 22],.box 64 [.own 8,.own 9],.row 3 0,.row 77 38,.row 60 45,.row 60 45,.row 3 0,.row 77 38]⟩ (fun z=>z4z φ z.1 z.2.1 z.2.2.1 z.2.2.2.1 z.2.2.2.2.1 z.2.2.2.2.2.1 z.2.2.2.2.2.2.1 z.2.2.2.2.2.2.2.1 z.2.2.2.2.2.2.2.2.1 z.2.2.2.2.2.2.2.2.2.1 z.2.2.2.2.2.2.2.2.2.2.1 z.2.2.2.2.2.2.2.2.2.2.2.1 z.2.2.2.2.2.2.2.2.2.2.2.2.1) (.seq .x (.body (.rf 17 0 62 (.seq .x (.seq (.seq .x (.body (.loop ⟨[(112,[(0,.own 0),(1,.ptr 1 0),(2,.ptr 2 0),(3,.ptr 3 0),(5,.val 0),(6,.val 0),(22,.own 4),(23,.val 0),(24,.val 0)]),(100,[(6,.ptr 5 0),(99,.own 0)]),(161,[(3,.ptr 6 0),(4,.val 0),(5,.ptr 7 0),(6,.val 0),(7,.ptr 8 0),(8,.val 0)])],[.emp,.box 37 [.own 4],.box 38 [.own 9],.box 36 [.val 26],.row 49 29,.box 64 [.own 10,.own 11],.box 44 [.own 12,.val 0,.val 22],.box 44 [.own 13,.val 0,.val 22],.box 64 [.own 14,.own 15],.row 51 30,.row 3 0,.row 77 38,.row 60 45,.row 60 45,.row 3 0,.row 77 38]⟩ (fun n z=>zal φ n z.1 z.2.1 z.2.2.1 z.2.2.2.1 z.2.2.2.2.1 z.2.2.2.2.2.1 z.2.2.2.2.2.2.1 z.2.2.2.2.2.2.2.1 z.2.2.2.2.2.2.2.2.1 z.2.2.2.2.2.2.2.2.2.1 z.2.2.2.2.2.2.2.2.2.2.1 z.2.2.2.2.2.2.2.2.2.2.2.1 z.2.2.2.2.2.2.2.2.2.2.2.2.1 z.2.2.2.2.2.2.2.2.2.2.2.2.2.1 z.2.2.2.2.2.2.2.2.2.2.2.2.2.2.1 z.2.2.2.2.2.2.2.2.2.2.2.2.2.2.2.1 z.2.2.2.2.2.2.2.2.2.2.2.2.2.2.2.2.1 z.2.2.2.2.2.2.2.2.2.2.2.2.2.2.2.2.2.1 z.2.2.2.2.2.2.2.2.2.2.2.2.2.2.2.2.2.2.1 z.2.2.2.2.2.2.2.2.2.2.2.2.2.2.2.2.2.2.2.1) (fun zk134=>(.seq .x (.seq .x (.seq (.body (.seq .x (.seq .x (.body (.loop ⟨[(112,[(0,.own 0),(1,.ptr 1 0),(2,.ptr 2 0),(3,.ptr 3 0),(5,.val 0),(6,.val 0),(7,.val 0),(8,.ptr 4 0),(22,.own 5),(23,.val 0),(24,.val 0),(29,.own 6),(30,.val 0),(31,.val 0)]),(100,[(6,.ptr 7 0),(99,.own 0)]),(161,[(3,.ptr 8 0),(4,.val 0),(5,.ptr 9 0),(6,.val 0),(7,.ptr 10 0),(8,.val 0)])],[.emp,.box 37 [.own 5],.box 38 [.own 6],.box 36 [.val 26],.box 49 [.val 29],.row 49 29,.row 51 30,.box 64 [.own 11,.own 12],.box 44 [.own 13,.val 0,.val 22],.box 44 [.own 14,.val 0,.val 22],.box 64 [.own 15,.own 16],.row 3 0,.row 77 38,.row 60 45,.row 60 45,.row 3 0,.row 77 38]⟩ (fun n z=>z6i φ (fun a0 a1 a2 a3 a4 a5 a6 a7 a8 a9 a10 a11 a12 a13 a14 a15 a16 a17 a18 a19=>zk134 (a0,a1,a2,a3,a4,a5,a6,a7,a8,a9,a10,a11,a12,a13,a14,a15,a16,a17,a18,a19,())) n z.1 z.2.1 z.2.2.1 z.2.2.2.1 z.2.2.2.2.1 z.2.2.2.2.2.1 z.2.2.2.2.2.2.1 z.2.2.2.2.2.2.2.1 z.2.2.2.2.2.2.2.2.1 z.2.2.2.2.2.2.2.2.2.1 z.2.2.2.2.2.2.2.2.2.2.1 z.2.2.2.2.2.2.2.2.2.2.2.1 z.2.2.2.2.2.2.2.2.2.2.2.2.1 z.2.2.2.2.2.2.2.2.2.2.2.2.2.1 z.2.2.2.2.2.2.2.2.2.2.2.2.2.2.1 z.2.2.2.2.2.2.2.2.2.2.2.2.2.2.2.1 z.2.2.2.2.2.2.2.2.2.2.2.2.2.2.2.2.1 z.2.2.2.2.2.2.2.2.2.2.2.2.2.2.2.2.2.1 z.2.2.2.2.2.2.2.2.2.2.2.2.2.2.2.2.2.2.1 z.2.2.2.2.2.2.2.2.2.2.2.2.2.2.2.2.2.2.2.1 z.2.2.2.2.2.2.2.2.2.2.2.2.2.2.2.2.2.2.2.2.1 z.2.2.2.2.2.2.2.2.2.2.2.2.2.2.2.2.2.2.2.2.2.1 z.2.2.2.2.2.2.2.2.2.2.2.2.2.2.2.2.2.2.2.2.2.2.1 z.2.2.2.2.2.2.2.2.2.2.2.2.2.2.2.2.2.2.2.2.2.2.2.1) (fun zk159=>(.seq .x (.seq .x (.seq (.body (.seq .x (.seq .x (.seq (.yl 15 17 0 .x .x) .x)))) .x))))))))) .x))))))) (.seq (.seq .x (.body (.loop ⟨[(112,[(0,.own 0),(1,.ptr 1 0),(5,.val 0),(6,.val 0),(63,.own 2),(64,.val 0),(65,.val 0)]),(100,[(6,.ptr 3 0),(99,.own 0)]),(161,[(3,.ptr 4 0),(4,.val 0),(5,.ptr 5 0),(6,.val 0),(7,.ptr 6 0),(8,.val 0)])],[.emp,.box 37 [.own 7],.row 51 30,.box 64 [.own 8,.own 9],.box 44 [.own 10,.val 0,.val 22],.box 44 [.own 11,.val 0,.val 22],.box 64 [.own 12,.own 13],.row 49 29,.row 3 0,.row 77 38,.row 60 45,.row 60 45,.row 3 0,.row 77 38]⟩ (fun n z=>zaj φ n z.1 z.2.1 z.2.2.1 z.2.2.2.1 z.2.2.2.2.1 z.2.2.2.2.2.1 z.2.2.2.2.2.2.1 z.2.2.2.2.2.2.2.1 z.2.2.2.2.2.2.2.2.1 z.2.2.2.2.2.2.2.2.2.1 z.2.2.2.2.2.2.2.2.2.2.1 z.2.2.2.2.2.2.2.2.2.2.2.1 z.2.2.2.2.2.2.2.2.2.2.2.2.1 z.2.2.2.2.2.2.2.2.2.2.2.2.2.1 z.2.2.2.2.2.2.2.2.2.2.2.2.2.2.1 z.2.2.2.2.2.2.2.2.2.2.2.2.2.2.2.1 z.2.2.2.2.2.2.2.2.2.2.2.2.2.2.2.2.1 z.2.2.2.2.2.2.2.2.2.2.2.2.2.2.2.2.2.1 z.2.2.2.2.2.2.2.2.2.2.2.2.2.2.2.2.2.2.1) (fun zk180=>(.seq .x (.seq .x (.seq (.body (.seq .x (.seq .x (.seq (.yl 11 17 0 .x .x) .x)))) .x))))))) (.seq (.seq .x (.body (.loop ⟨[(112,[(0,.own 0),(5,.val 0),(6,.val 0),(88,.own 1),(89,.val 0),(90,.val 0)]),(100,[(6,.ptr 2 0),(99,.own 0)]),(161,[(3,.ptr 3 0),(4,.val 0),(5,.ptr 4 0),(6,.val 0),(7,.ptr 5 0),(8,.val 0)])],[.emp,.row 49 29,.box 64 [.own 6,.own 7],.box 44 [.own 8,.val 0,.val 22],.box 44 [.own 9,.val 0,.val 22],.box 64 [.own 10,.own 11],.row 3 0,.row 77 38,.row 60 45,.row 60 45,.row 3 0,.row 77 38]⟩ (fun n z=>z9s φ n z.1 z.2.1 z.2.2.1 z.2.2.2.1 z.2.2.2.2.1 z.2.2.2.2.2.1 z.2.2.2.2.2.2.1 z.2.2.2.2.2.2.2.1 z.2.2.2.2.2.2.2.2.1 z.2.2.2.2.2.2.2.2.2.1 z.2.2.2.2.2.2.2.2.2.2.1 z.2.2.2.2.2.2.2.2.2.2.2.1 z.2.2.2.2.2.2.2.2.2.2.2.2.1 z.2.2.2.2.2.2.2.2.2.2.2.2.2.1 z.2.2.2.2.2.2.2.2.2.2.2.2.2.2.1 z.2.2.2.2.2.2.2.2.2.2.2.2.2.2.2.1 z.2.2.2.2.2.2.2.2.2.2.2.2.2.2.2.2.1 z.2.2.2.2.2.2.2.2.2.2.2.2.2.2.2.2.2.1) (fun zk199=>(.seq .x (.seq .x (.seq (.body (.seq .x (.seq (.yl 7 17 0 .x .x) .x))) .x))))))) (.yl 6 17 0 .x .x))))))))) .x)))))))) .x)) .x))))))))))
def zf4 (P:Program) (φ:Nat):Env TV:=⟨P,lk [(24,zd8 φ),(25,zb8 φ),(36,z44 φ),(37,z4d φ),(38,z56 φ),(43,z50 φ),(18,zf0 φ),(28,zd9 φ),(26,z8z φ)],lk [],lk [],lk []⟩
theorem zrg (φ:Nat) (a) :(zes φ).F a=fnX TV (zf4 Try.prog φ) φ Try.f9 [] [.val 27] (zbe φ) a:=by kernel_rfl
theorem zs0 (φ:Nat):fnO TV (zf4 Try.prog φ) φ Try.f9 [.val 27] (zbe φ):=by
 unfold fnO
 show obl _ _ _ _ _ _ _ _
 unfold zbe
 repeat' (first | exact trivial |(refine⟨?_,?_⟩) |(intro _) | kernel_rfl)
theorem zre [Dr] (φ:Nat):z2j TV Try.prog 9 (zes φ):=
 z3q (N:=zf4 Try.prog φ) (z0a ⟨zqa φ,zjb φ,z7r φ,z8m φ,z9j φ,zaf φ,ztc φ,zkv φ,zjz φ,trivial⟩ trivial trivial trivial) (zbe φ) Try.func9 (by kernel_rfl) (zrg φ) (zs0 φ)
def z5b (φ:Nat):H TV (RTup TT [.val 27]):=(.seq .x (.seq .x (.seq (.seq .x (.body (.loop ⟨[(65,[(1,.ptr 0 0),(3,.val 0)])],[.box 36 [.val 26]]⟩ (fun n z=>z26 φ n z.1 z.2.1) (fun zk4=>.x)))) .x)))
def z7u (P:Program) (φ:Nat):Env TV:=⟨P,lk [],lk [],lk [],lk []⟩
theorem ziz (φ:Nat) (a) :(z7m φ).F a=fnX TV (z7u Try.prog φ) φ Try.f27 [26] [.val 27] (z5b φ) a:=by kernel_rfl
theorem zj0 (φ:Nat):fnO TV (z7u Try.prog φ) φ Try.f27 [.val 27] (z5b φ):=by
 unfold fnO
 show obl _ _ _ _ _ _ _ _
 unfold z5b
 repeat' (first | exact trivial |(refine⟨?_,?_⟩) |(intro _) | kernel_rfl)
theorem ziq [Dr] (φ:Nat):z2j TV Try.prog 27 (z7m φ):=
 z3q (N:=z7u Try.prog φ) (z0a trivial trivial trivial trivial) (z5b φ) Try.func27 (by kernel_rfl) (ziz φ) (zj0 φ)
def zdl (φ:Nat):H TV (RTup TT [.val 27]):=.x
def zg7 (P:Program) (φ:Nat):Env TV:=⟨P,lk [(27,z7m φ)],lk [],lk [],lk []⟩
theorem zu6 (φ:Nat) (a) :(zgc φ).F a=fnX TV (zg7 Try.prog φ) φ Try.f10 [26,36,37] [.val 27] (zdl φ) a:=by kernel_rfl
theorem zv0 (φ:Nat):fnO TV (zg7 Try.prog φ) φ Try.f10 [.val 27] (zdl φ):=by
 unfold fnO
 show obl _ _ _ _ _ _ _ _
 unfold zdl
 repeat' (first | exact trivial |(refine⟨?_,?_⟩) |(intro _) | kernel_rfl)
theorem zuo [Dr] (φ:Nat):z2j TV Try.prog 10 (zgc φ):=
 z3q (N:=zg7 Try.prog φ) (z0a ⟨ziq φ,trivial⟩ trivial trivial trivial) (zdl φ) Try.func10 (by kernel_rfl) (zu6 φ) (zv0 φ)
end Px
end
section
set_option maxHeartbeats 4000000
set_option maxRecDepth 100000
namespace Px
open Go Go.RowKit Go.Proofs
def z5g (φ:Nat):H TV (RTup TT [.row 3 0]):=.x
def z80 (P:Program) (φ:Nat):Env TV:=⟨P,lk [],lk [],lk [],lk []⟩
theorem zhv (φ:Nat) (a) :(z7t φ).F a=fnX TV (z80 Try.prog φ) φ Try.f55 [22] [.row 3 0] (z5g φ) a:=by kernel_rfl
theorem zi5 (φ:Nat):fnO TV (z80 Try.prog φ) φ Try.f55 [.row 3 0] (z5g φ):=by
 unfold fnO
 show obl _ _ _ _ _ _ _ _
 unfold z5g
 repeat' (first | exact trivial |(refine⟨?_,?_⟩) |(intro _) | kernel_rfl)
theorem zit [Dr] (φ:Nat):z2j TV Try.prog 55 (z7t φ):=
 z3q (N:=z80 Try.prog φ) (z0a trivial trivial trivial trivial) (z5g φ) Try.func55 (by kernel_rfl) (zhv φ) (zi5 φ)
def z88 (φ:Nat):H TV (RTup TT [.val 22,.val 27]):=(.seq .x (.seq .x (.seq .x (.seq (.seq .x (.body (.loop ⟨[(140,[(1,.val 36),(3,.val 46),(8,.own 0),(10,.own 1),(11,.val 0),(24,.val 39),(25,.val 0),(26,.val 0)])],[.row 3 0,.row 3 0]⟩ (fun n z=>zq φ n z.1 z.2.1 z.2.2.1 z.2.2.2.1 z.2.2.2.2.1 z.2.2.2.2.2.1 z.2.2.2.2.2.2.1 z.2.2.2.2.2.2.2.1) (fun zk14=>(.seq .x (.seq .x (.seq (.body (.seq .x (.seq .x (.seq (.join ⟨[(140,[(1,.val 36),(3,.val 46),(8,.own 0),(10,.own 1),(11,.val 0),(13,.ptr 2 0),(14,.val 0),(24,.val 39),(25,.val 0),(26,.val 0)])],[.row 3 0,.row 3 0,.box 77 [.val 38]]⟩ (fun z=>z2d φ (fun a0 a1 a2 a3 a4 a5 a6 a7=>zk14 (a0,a1,a2,a3,a4,a5,a6,a7,())) z.1 z.2.1 z.2.2.1 z.2.2.2.1 z.2.2.2.2.1 z.2.2.2.2.2.1 z.2.2.2.2.2.2.1 z.2.2.2.2.2.2.2.1 z.2.2.2.2.2.2.2.2.1 z.2.2.2.2.2.2.2.2.2.1) (.body .x)) .x)))) .x))))))) .x))))
def zbl (P:Program) (φ:Nat):Env TV:=⟨P,lk [(55,z7t φ)],lk [],lk [],lk []⟩
theorem znf (φ:Nat) (a) :(zbt φ).F a=fnX TV (zbl Try.prog φ) φ Try.f34 [40,36,37,46] [.val 22,.val 27] (z88 φ) a:=by kernel_rfl
theorem zni (φ:Nat):fnO TV (zbl Try.prog φ) φ Try.f34 [.val 22,.val 27] (z88 φ):=by
 unfold fnO
 show obl _ _ _ _ _ _ _ _
 unfold z88
 repeat' (first | exact trivial |(refine⟨?_,?_⟩) |(intro _) | kernel_rfl)
theorem znc [Dr] (φ:Nat):z2j TV Try.prog 34 (zbt φ):=
 z3q (N:=zbl Try.prog φ) (z0a ⟨zit φ,trivial⟩ trivial trivial trivial) (z88 φ) Try.func34 (by kernel_rfl) (znf φ) (zni φ)
def z9e (φ:Nat):H TV (RTup TT [.val 0]):=(.seq .x (.seq .x (.seq .x (.seq .x (.seq (.seq .x (.body (.loop ⟨[(87,[(2,.ptr 0 0),(3,.ptr 1 0),(28,.val 22),(29,.val 0),(30,.val 0)])],[.box 64 [.val 40],.box 68 [.val 41]]⟩ (fun n z=>z2t φ n z.1 z.2.1 z.2.2.1 z.2.2.2.1 z.2.2.2.2.1) (fun zk10=>.x)))) (.seq (.seq .x (.body (.loop ⟨[(87,[(3,.ptr 0 0),(39,.val 39),(40,.val 0),(41,.val 0)])],[.box 68 [.val 41]]⟩ (fun n z=>z1a φ n z.1 z.2.1 z.2.2.1 z.2.2.2.1) (fun zk16=>.x)))) .x))))))
def zd6 (P:Program) (φ:Nat):Env TV:=⟨P,lk [(19,z8g φ),(50,z71 φ),(42,z5s φ)],lk [],lk [],lk []⟩
theorem zqd (φ:Nat) (a) :(zcs φ).F a=fnX TV (zd6 Try.prog φ) φ Try.f35 [40,41] [.val 0] (z9e φ) a:=by kernel_rfl
theorem zqu (φ:Nat):fnO TV (zd6 Try.prog φ) φ Try.f35 [.val 0] (z9e φ):=by
 unfold fnO
 show obl _ _ _ _ _ _ _ _
 unfold z9e
 repeat' (first | exact trivial |(refine⟨?_,?_⟩) |(intro _) | kernel_rfl)
theorem zqz [Dr] (φ:Nat):z2j TV Try.prog 35 (zcs φ):=
 z3q (N:=zd6 Try.prog φ) (z0a ⟨zel φ,zec φ,zbw φ,trivial⟩ trivial trivial trivial) (z9e φ) Try.func35 (by kernel_rfl) (zqd φ) (zqu φ)
def z5x (φ:Nat):H TV (RTup TT [.val 0]):=.x
def z8v (P:Program) (φ:Nat):Env TV:=⟨P,lk [(17,zdj φ),(34,zbt φ),(35,zcs φ),(28,zd9 φ)],lk [],lk [],lk []⟩
theorem zju (φ:Nat) (a) :(z8t φ).F a=fnX TV (z8v Try.prog φ) φ Try.f15 [26,36,37,47] [.val 0] (z5x φ) a:=by kernel_rfl
theorem zkc (φ:Nat):fnO TV (z8v Try.prog φ) φ Try.f15 [.val 0] (z5x φ):=by
 unfold fnO
 show obl _ _ _ _ _ _ _ _
 unfold z5x
 repeat' (first | exact trivial |(refine⟨?_,?_⟩) |(intro _) | kernel_rfl)
theorem zjr [Dr] (φ:Nat):z2j TV Try.prog 15 (z8t φ):=
 z3q (N:=z8v Try.prog φ) (z0a ⟨zqn φ,znc φ,zqz φ,zkv φ,trivial⟩ trivial trivial trivial) (z5x φ) Try.func15 (by kernel_rfl) (zju φ) (zkc φ)
def z99 (φ:Nat):H TV (RTup TT [.val 0,.val 27]):=(.seq .x (.seq .x (.seq (.seq .x (.body (.loop ⟨[(187,[(1,.val 36),(2,.val 37),(3,.val 46),(4,.ptr 0 0),(10,.own 1),(11,.val 0)])],[.box 36 [.val 26],.row 3 0]⟩ (fun n z=>z21 φ n z.1 z.2.1 z.2.2.1 z.2.2.2.1 z.2.2.2.2.1 z.2.2.2.2.2.1) (fun zk11=>.x)))) (.seq .x (.seq (.seq .x (.body (.loop ⟨[(187,[(1,.val 36),(2,.val 37),(3,.val 46),(4,.ptr 0 0),(10,.own 1),(12,.own 2),(13,.val 0)])],[.box 36 [.val 26],.row 3 0,.row 3 0]⟩ (fun n z=>z22 φ n z.1 z.2.1 z.2.2.1 z.2.2.2.1 z.2.2.2.2.1 z.2.2.2.2.2.1 z.2.2.2.2.2.2.1) (fun zk19=>.x)))) (.seq .x (.seq (.seq .x (.body (.loop ⟨[(187,[(1,.val 36),(2,.val 37),(3,.val 46),(4,.ptr 0 0),(10,.own 1),(12,.own 2),(14,.val 0),(15,.val 0)])],[.box 36 [.val 26],.row 3 0,.row 3 0]⟩ (fun n z=>z3z φ n z.1 z.2.1 z.2.2.1 z.2.2.2.1 z.2.2.2.2.1 z.2.2.2.2.2.1 z.2.2.2.2.2.2.1 z.2.2.2.2.2.2.2.1) (fun zk28=>.x)))) (.seq (.seq .x (.body (.loop ⟨[(187,[(2,.val 37),(12,.own 0),(14,.val 0),(20,.val 0)])],[.row 3 0]⟩ (fun n z=>z15 φ n z.1 z.2.1 z.2.2.1 z.2.2.2.1) (fun zk34=>.x)))) .x))))))))
def zdi (P:Program) (φ:Nat):Env TV:=⟨P,lk [(20,z84 φ)],lk [],lk [],lk []⟩
theorem zp8 (φ:Nat) (a) :(zcu φ).F a=fnX TV (zdi Try.prog φ) φ Try.f22 [26,36,37,46] [.val 0,.val 27] (z99 φ) a:=by kernel_rfl
theorem zqm (φ:Nat):fnO TV (zdi Try.prog φ) φ Try.f22 [.val 0,.val 27] (z99 φ):=by
 unfold fnO
 show obl _ _ _ _ _ _ _ _
 unfold z99
 repeat' (first | exact trivial |(refine⟨?_,?_⟩) |(intro _) | kernel_rfl)
theorem zpi [Dr] (φ:Nat):z2j TV Try.prog 22 (zcu φ):=
 z3q (N:=zdi Try.prog φ) (z0a ⟨zfv φ,trivial⟩ trivial trivial trivial) (z99 φ) Try.func22 (by kernel_rfl) (zp8 φ) (zqm φ)
def z3g (φ:Nat):H TV (RTup TT [.val 27]):=.x
def z4u (P:Program) (φ:Nat):Env TV:=⟨P,lk [(9,zes φ),(10,zgc φ),(15,z8t φ),(22,zcu φ)],lk [],lk [],lk []⟩
theorem zeq (φ:Nat) (a) :(z3c φ).F a=fnX TV (z4u Try.prog φ) φ Try.f7 [26,36,37,47,46] [.val 27] (z3g φ) a:=by kernel_rfl
theorem zen (φ:Nat):fnO TV (z4u Try.prog φ) φ Try.f7 [.val 27] (z3g φ):=by
 unfold fnO
 show obl _ _ _ _ _ _ _ _
 unfold z3g
 repeat' (first | exact trivial |(refine⟨?_,?_⟩) |(intro _) | kernel_rfl)
theorem zf1 [Dr] (φ:Nat):z2j TV Try.prog 7 (z3c φ):=
 z3q (N:=z4u Try.prog φ) (z0a ⟨zre φ,zuo φ,zjr φ,zpi φ,trivial⟩ trivial trivial trivial) (z3g φ) Try.func7 (by kernel_rfl) (zeq φ) (zen φ)
end Px
end
section
namespace Px
open Go
theorem y1i {σ ρ:Type} (L:Nat->Int->σ->Option ρ) (len:Nat) (Inv:Nat->σ->Prop) (G:Option ρ->Prop)
  (step:∀ n i s,i<len->Inv i s->(∀ s',Inv (i+1) s'->G (L n ((i:Int)+1) s'))->G (L (n+1) i s))
  (done:∀ n s,Inv len s->G (L (n+1) len s)):∀ n i s,i<=len->Inv i s->len-i<n->G (L n i s):=by
 intro n
 induction n with
 | zero=>intro i s _ _ h; omega
 | succ n ih=>
  intro i s hi hI hn
  by_cases h:i=len
  ·subst h; exact done n s hI
  ·refine step n i s (by omega) hI fun s' hs'=>?_
   have:=ih (i+1) s' (by omega) hs' (by omega)
   simpa using this
theorem z11 {σ ρ:Type} (L:Nat->Int->σ->Option ρ) (len:Nat) (Inv:Nat->σ->Prop) (G:Option ρ->Prop)
  (step:∀ n i s,i<len->Inv i s->(∀ s',Inv (i+1) s'->G (L n ((i:Int)+1) s'))->G (L (n+1) i s))
  (done:∀ n s,Inv len s->G (L (n+1) len s)) (n:Nat) (s:σ) (h:Inv 0 s) (hn:len<n):G (L n 0 s):=by
 simpa using y1i L len Inv G step done n 0 s (w23 _) h (by omega)
theorem yer (x:Int):W x=if x % 18446744073709551616 >= 9223372036854775808 then x % 18446744073709551616-18446744073709551616 else x % 18446744073709551616:=by
 simp [W,IntKind.wrap,IntKind.bits,IntKind.signed]
theorem y0v (x:Int):U x=x % 18446744073709551616:=by
 simp [U,IntKind.wrap,IntKind.bits,IntKind.signed]
theorem W_id {x:Int} (h : -9223372036854775808<=x) (h':x<=9223372036854775807):W x=x:=by
 rw [yer]; split <;> omega
theorem U_id {x:Int} (h:0<=x) (h':x<=18446744073709551615):U x=x:=by
 rw [y0v]; omega
theorem zgw {α:Type} [Inhabited α] (ok:α->Bool) (l:List α) (i:Nat) (h:i<l.length) :(l.take (i+1)).all ok =((l.take i).all ok&&ok (gt l (i:Int))):=by
 rw [w1z h,List.all_append]
 simp [gt,h]
theorem zh1 {α:Type} [Inhabited α] (ok:α->Bool) (l:List α) (i:Nat) (h:i<l.length) :(l.take (i+1)).any ok =((l.take i).any ok||ok (gt l (i:Int))):=by
 rw [w1z h,List.any_append]
 simp [gt,h]
theorem z45 {α:Type} [Inhabited α] (l:List α) (i:Nat) (h:i<l.length):l.take (i+1)=l.take i++[gt l (i:Int)]:=by
 rw [w1z h]
 simp [gt,h]
theorem za5 {α:Type} [Inhabited α] {l:List α} {i:Int} (h0:0<=i) (h:i <(l.length:Int)):gt l i∈l:=by
 have hlt:i.toNat<l.length:=by omega
 simp [gt,hlt]
theorem z4p {α:Type} [Inhabited α] {l:List α} {i:Nat} (h:i<l.length):gt l (i:Int)=l[i]:=by
 simp [gt,h]
theorem yai {α:Type} [Inhabited α] (l:List α) (i:Nat) (h:i<l.length):l.drop i=gt l (i:Int)::l.drop (i+1):=by
 rw [z4p h,List.getElem_cons_drop]
theorem yd2 {α:Type} [Inhabited α] {l:List α} {x:α} (h:x∈l):∃ i:Nat,i<l.length/\gt l (i:Int)=x:=by
 obtain⟨i,hi,e⟩:=w1x h
 exact⟨i,hi,by rw [z4p hi,e]⟩
theorem z0i {α:Type} [Inhabited α] (l:List α) (i j:Int) (x:α) (hi:0<=i) (h:i <(l.length:Int)) (hj:0<=j):gt (zr l i x) j=if j=i then x else gt l j:=by
 unfold gt zr
 by_cases e:j=i
 ·subst e
  have:j.toNat<l.length:=by omega
  simp [List.getD,List.getElem?_set,this]
 ·have:i.toNat≠j.toNat:=by omega
  simp [List.getD,List.getElem?_set,this,e]
theorem zev {α:Type} [Inhabited α] (n:Nat) (x:α) (j:Int) (hj:0<=j) (h:j<n):gt (List.replicate n x) j=x:=by
 have:j.toNat<n:=by omega
 simp [gt,List.getD,List.getElem?_replicate,this]
theorem z7q {α:Type} [Inhabited α] (l m:List α) (j:Int) (h0:0<=j) (h:j <(l.length:Int)):gt (l++m) j=gt l j:=by
 have:j.toNat<l.length:=by omega
 simp [gt,List.getD,List.getElem?_append,this]
theorem z6c {α:Type} [Inhabited α] (l m:List α) (j:Int) (h :(l.length:Int)<=j):gt (l++m) j=gt m (j-l.length):=by
 have:¬ j.toNat<l.length:=by omega
 have e :(j-l.length).toNat=j.toNat-l.length:=by omega
 simp [gt,List.getD,List.getElem?_append,this,e]
theorem zkj {α ρ:Type} [Inhabited α] (L:Nat->Int->Int->Option ρ) (k:Int->Option ρ) (l:List α) (ok:α->Bool)
  (step:∀(n i:Nat) (s:Int),i<l.length->L (n+1) i s=L n ((i:Int)+1) (bif ok (gt l i) then s else 1)) (done:∀ n s,L (n+1) l.length s=k s) :
  ∀ n s,l.length<n->L n 0 s=k (bif l.all ok then s else 1):=by
 intro n s hn
 refine y1i L l.length (fun i t=>t=bif (l.take i).all ok then s else 1) (fun o=>o=k (bif l.all ok then s else 1)) ?_ ?_ n 0 s (w23 _) (by simp) (by omega)
 ·intro n i t hi ht hs
  rw [step n i t hi]
  refine hs _ ?_
  rw [zgw ok l i hi,ht]
  cases (l.take i).all ok <;> cases ok (gt l (i:Int)) <;> simp
 ·intro n t ht
  rw [done,ht,w1l]
theorem zzp {α ρ:Type} [Inhabited α] (L:Nat->Int->Option ρ) (k:Option ρ) (l:List α) (p:α->Bool) (g:α->Option ρ)
  (step:∀ n i:Nat,i<l.length->L (n+1) i=bif p (gt l i) then g (gt l i) else L n ((i:Int)+1)) (done:∀ n,L (n+1) l.length=k) :
  ∀ n,l.length<n->L n 0=match l.find? p with | some x=>g x | none=>k:=by
 intro n hn
 refine z11 (fun n i (_:Unit)=>L n i) l.length (fun i _=>∀ x∈l.take i,p x=false) (fun o=>o=match l.find? p with | some x=>g x | none=>k) ?_ ?_ n () (by simp) hn
 ·intro n i _ hi hI hs
  simp only [step n i hi]
  cases e:p (gt l (i:Int)) with
  | false=>
   refine hs () ?_
   rw [z45 l i hi]
   intro x hx
   rcases w0h.1 hx with h | h
   ·exact hI x h
   ·simp at h; rw [h]; exact e
  | true=>
   have:l.find? p=some (gt l (i:Int)):=by
    have h1:l=l.take i++(gt l (i:Int)::l.drop (i+1)):=by
     rw [z4p hi,List.getElem_cons_drop,w1f]
    generalize gt l (i:Int)=y at *
    rw [h1,List.find?_append,List.find?_eq_none.2 (fun x hx=>by simp [hI x hx])]
    simp [List.find?_cons,e]
   rw [this]; rfl
 ·intro n _ hI
  simp only [done]
  rw [w1l] at hI
  rw [List.find?_eq_none.2 (fun x hx=>by simp [hI x hx])]
theorem y7l {α ρ:Type} (l:List α) (p:α->Bool) (r k:ρ) :(match l.find? p with | some _=>r | none=>k)=bif l.any p then r else k:=by
 induction l with
 | nil=>rfl
 | cons x l ih=>
  rw [List.find?_cons,List.any_cons]
  cases p x
  ·simpa using ih
  ·rfl
theorem zw9 {α ρ:Type} [Inhabited α] (L:Nat->Int->Option ρ) (k r:Option ρ) (l:List α) (p:α->Bool)
  (step:∀ n i:Nat,i<l.length->L (n+1) i=bif p (gt l i) then r else L n ((i:Int)+1)) (done:∀ n,L (n+1) l.length=k)
  (n:Nat) (hn:l.length<n):L n 0=bif l.any p then r else k:=by
 rw [zzp L k l p (fun _=>r) step done n hn,y7l]
def bet (a b c:Int):Bool:=decide (b<=a)&&decide (a<=c)
theorem z64 {a b c:Int} : bet a b c=true↔b<=a/\a<=c:=by simp [bet]
theorem zlw {a b c:Int} (h:bet a b c=true):b<=a/\a<=c:=z64.1 h
theorem mk_t (n:Int) (b:Nat) (h0:0<=n) (h:n<=100000) (hb:b<=1000000):zc n b:=by
 refine⟨h0,?_,by omega⟩
 have :(b:Int)*n<=1000000*100000:=w2f (by omega) h h0 (by omega)
 omega
theorem yb3 {x y z:Int} : min2 x y<z↔x<z\/y<z:=by unfold min2; split <;> omega
end Px
end
section
namespace Px
def sumN:Nat->(Nat->Int)->Int
 | 0,_=>0
 | n+1,f=>sumN n f+f n
theorem ze:∀ {n:Nat} {f g:Nat->Int},(∀ i,i<n->f i=g i)->sumN n f=sumN n g
 | 0,_,_,_=>rfl
 | n+1,f,g,h=>by rw [sumN,sumN,ze (n:=n) fun i hi=>h i (by omega),h n (by omega)]
theorem z9d (f g:Nat->Int):∀ n:Nat,sumN n (fun i=>f i+g i)=sumN n f+sumN n g
 | 0=>rfl
 | n+1=>by simp only [sumN,z9d f g n]; omega
theorem zbg (f g:Nat->Int):∀ n:Nat,sumN n (fun i=>f i-g i)=sumN n f-sumN n g
 | 0=>rfl
 | n+1=>by simp only [sumN,zbg f g n]; omega
theorem zgs (c:Int) (f:Nat->Int):∀ n:Nat,sumN n (fun i=>c*f i)=c*sumN n f
 | 0=>by simp [sumN]
 | n+1=>by simp only [sumN,zgs c f n,w2d]
theorem zis:∀ {n:Nat} {f g:Nat->Int},(∀ i,i<n->f i<=g i)->sumN n f<=sumN n g
 | 0,_,_,_=>w1r _
 | n+1,f,g,h=>by
  have h1:=zis (n:=n) fun i hi=>h i (by omega)
  have h2:=h n (by omega)
  simp only [sumN]; omega
theorem z8f (n:Nat):sumN n (fun _=>0)=0:=by
 induction n with
 | zero=>rfl
 | succ n ih=>simp only [sumN,ih]; rfl
theorem z3h {n:Nat} {f:Nat->Int} (h:∀ i,i<n->0<=f i):0<=sumN n f:=by
 have:=zis (f:=fun _=>0) (g:=f) h
 rw [z8f] at this; exact this
theorem z76 (f:Nat->Nat->Int):∀ n k:Nat,sumN n (fun i=>sumN k (fun j=>f i j))=sumN k (fun j=>sumN n (fun i=>f i j))
 | 0,k=>(z8f k).symm
 | n+1,k=>by simp only [sumN,z76 f n k]; rw [<- z9d]
theorem z62 (f:Nat->Int) (v:Nat):∀ k:Nat,sumN k (fun w=>if w=v then f w else 0)=if v<k then f v else 0
 | 0=>rfl
 | k+1=>by
  simp only [sumN,z62 f v k]
  by_cases h:v<k
  ·rw [if_pos h,if_neg (by omega),if_pos (by omega)]; omega
  ·by_cases e:k=v
   ·subst e; rw [if_neg h,if_pos rfl,if_pos (by omega)]; omega
   ·rw [if_neg h,if_neg e,if_neg (by omega)]; rfl
theorem zrf {k:Nat} (f:Nat->Int) {v:Nat} (h:v<k):sumN k (fun w=>if v=w then f w else 0)=f v:=by
 have:=z62 f v k
 rw [if_pos h] at this
 rw [<- this]
 exact ze fun i _=>by by_cases e:v=i <;> simp [e,eq_comm]
theorem y94 {k:Nat} {f g:Nat->Int} {v:Nat} {d:Int} (hv:v<k) (h:∀ i,i<k->f i<=g i) (hd:f v+d<=g v):sumN k f+d<=sumN k g:=by
 have h1:sumN k (fun i=>f i +(if i=v then(fun _=>d) i else 0))<=sumN k g:=zis fun i hi=>by
  by_cases e:i=v
  ·subst e; rw [if_pos rfl]; exact hd
  ·rw [if_neg e]; have:=h i hi; omega
 rw [z9d,z62,if_pos hv] at h1
 exact h1
structure Nw where
 k:Nat
 m:Nat
 fr:Nat->Nat
 to:Nat->Nat
 cap:Nat->Int
 cost:Nat->Int
structure Nw.Ok (N:Nw):Prop where
 fr:∀ i,i<N.m->N.fr i<N.k
 to:∀ i,i<N.m->N.to i<N.k
 ne:∀ i,i<N.m->N.fr i≠N.to i
def Nw.outS (N:Nw) (x:Nat->Int) (v:Nat):Int:=sumN N.m fun i=>if N.fr i=v then x i else 0
def Nw.inS (N:Nw) (x:Nat->Int) (v:Nat):Int:=sumN N.m fun i=>if N.to i=v then x i else 0
def Nw.exc (N:Nw) (b x:Nat->Int) (v:Nat):Int:=b v-N.outS x v+N.inS x v
def Nw.costS (N:Nw) (x:Nat->Int):Int:=sumN N.m fun i=>x i*N.cost i
structure Nw.Feas (N:Nw) (b x:Nat->Int):Prop where
 bnd:∀ i,i<N.m->0<=x i/\x i<=N.cap i
 exc:∀ v,v<N.k->N.exc b x v=0
theorem zkr (a:Int) (c:Prop) [Decidable c] (b:Int):a *(if c then b else 0)=if c then a*b else 0:=by
 split
 ·rfl
 ·exact Int.mul_zero a
theorem Nw.pot {N:Nw} (h:N.Ok) (p x:Nat->Int):sumN N.k (fun v=>p v *(N.outS x v-N.inS x v))=sumN N.m fun i=>(p (N.fr i)-p (N.to i))*x i:=by
 have h1:sumN N.k (fun v=>p v*N.outS x v)=sumN N.m fun i=>p (N.fr i)*x i:=by
  refine(ze (g:=fun v=>sumN N.m fun i=>if N.fr i=v then p v*x i else 0) fun v hv=>?_).trans ?_
  ·rw [Nw.outS,<- zgs]
   exact ze fun i _=>zkr _ _ _
  ·rw [z76]
   exact ze fun i hi=>zrf (fun v=>p v*x i) (h.fr i hi)
 have h2:sumN N.k (fun v=>p v*N.inS x v)=sumN N.m fun i=>p (N.to i)*x i:=by
  refine(ze (g:=fun v=>sumN N.m fun i=>if N.to i=v then p v*x i else 0) fun v hv=>?_).trans ?_
  ·rw [Nw.inS,<- zgs]
   exact ze fun i _=>zkr _ _ _
  ·rw [z76]
   exact ze fun i hi=>zrf (fun v=>p v*x i) (h.to i hi)
 refine(ze (g:=fun v=>p v*N.outS x v-p v*N.inS x v) fun v _=>Int.mul_sub _ _ _).trans ?_
 rw [zbg,h1,h2,<- zbg]
 exact ze fun i _=>(Int.sub_mul _ _ _).symm
def Nw.rc (N:Nw) (p:Nat->Int) (i:Nat):Int:=N.cost i+p (N.fr i)-p (N.to i)
def Nw.Tight (N:Nw) (x p:Nat->Int):Prop:=∀ i,i<N.m->(x i<N.cap i->0<=N.rc p i)/\(0<x i->N.rc p i<=0)
theorem ycf {a b:Int} (h1:a<=0) (h2:b<=0):0<=a*b:=by
 have:=w1e (a:=-a) (b:=-b) (by omega) (by omega)
 rwa [Int.neg_mul_neg] at this
theorem Nw.dual {N:Nw} (h:N.Ok) {b x y p:Nat->Int} (hx:N.Feas b x) (hy:N.Feas b y) (ht:N.Tight x p):N.costS x<=N.costS y:=by
 have e1:=Nw.pot h p x
 have e2:=Nw.pot h p y
 have e3:sumN N.k (fun v=>p v *(N.outS x v-N.inS x v))=sumN N.k (fun v=>p v *(N.outS y v-N.inS y v)):=ze fun v hv=>by
  have h1:=hx.exc v hv
  have h2:=hy.exc v hv
  unfold Nw.exc at h1 h2
  rw [show N.outS x v-N.inS x v=N.outS y v-N.inS y v by omega]
 have e4:0<=sumN N.m fun i=>(y i-x i)*N.rc p i:=z3h fun i hi=>by
  obtain⟨t1,t2⟩:=ht i hi
  have b1:=hx.bnd i hi
  have b2:=hy.bnd i hi
  by_cases c1:x i<N.cap i
  ·by_cases c2:0<x i
   ·rw [show N.rc p i=0 by have:=t1 c1; have:=t2 c2; omega]; simp
   ·exact w1e (by omega) (t1 c1)
  ·by_cases c2:0<x i
   ·exact ycf (by omega) (t2 c2)
   ·rw [show y i-x i=0 by omega]; simp
 have e5 :(sumN N.m fun i=>(y i-x i)*N.rc p i)=N.costS y-N.costS x +((sumN N.m fun i=>(p (N.fr i)-p (N.to i))*y i)-sumN N.m fun i=>(p (N.fr i)-p (N.to i))*x i):=by
  unfold Nw.costS
  rw [<- zbg,<- zbg,<- z9d]
  refine ze fun i _=>?_
  unfold Nw.rc
  rw [Int.sub_mul,Int.mul_sub,Int.mul_sub,w2d,w2d,Int.sub_mul,Int.sub_mul]
  rw [w1n (p (N.fr i)) (y i),w1n (p (N.fr i)) (x i),w1n (p (N.to i)) (y i),w1n (p (N.to i)) (x i)]
  omega
 omega
end Px
end
section
namespace Px
open Go
theorem z8b {α σ ρ:Type} [Inhabited α] (L:Nat->Int->σ->Option ρ) (k:σ->Option ρ) (r:Option ρ) (l:List α) (ok:α->Bool) (f:σ->α->σ) (Inv:Nat->σ->Prop)
  (step:∀(n i:Nat) (s:σ),i<l.length->Inv i s->L (n+1) i s =(bif ok (gt l i) then L n ((i:Int)+1) (f s (gt l i)) else r)/\(ok (gt l i)=true->Inv (i+1) (f s (gt l i)))) (done:∀ n s,Inv l.length s->L (n+1) l.length s=k s)
  (n:Nat) (s:σ) (h0:Inv 0 s) (hn:l.length<n):L n 0 s =(bif l.all ok then k (l.foldl f s) else r)/\(l.all ok=true->Inv l.length (l.foldl f s)):=by
 refine z11 L l.length (fun i t=>(l.take i).all ok=true/\t =(l.take i).foldl f s/\Inv i t) (fun o=>o =(bif l.all ok then k (l.foldl f s) else r)/\(l.all ok=true->Inv l.length (l.foldl f s))) ?_ ?_ n s ⟨by simp,by simp,h0⟩ hn
 ·intro n i t hi ⟨ha,ht,hI⟩ hs
  obtain⟨e1,e2⟩:=step n i t hi hI
  rw [e1]
  cases hok:ok (gt l (i:Int)) with
  | true=>
   refine hs _ ⟨by rw [zgw ok l i hi,ha,hok]; rfl,?_,e2 hok⟩
   rw [z45 l i hi,List.foldl_append,<- ht]; rfl
  | false=>
   have:l.all ok=false:=by
    rw [List.all_eq_false]
    exact⟨gt l (i:Int),za5 (by omega) (by omega),by rw [hok]; simp⟩
   rw [this]
   exact⟨rfl,fun h=>by cases h⟩
 ·intro n t ⟨ha,ht,hI⟩
  rw [w1l] at ha ht
  subst ht
  rw [ha]
  exact⟨done n _ hI,fun _=>hI⟩
theorem z7c (φ:Nat) (a b c:Int):z37 φ a b c=some (bet a b c,()):=rfl
def zsy (s:Int):Bool:=bet s (-1000000000) 1000000000
def zna (k:Int) (a:Arc):Bool:=!((((!bet a.from_ 0 (k-1)||!bet a.to 0 (k-1))||a.from_==a.to)||!bet a.cap 0 1000000000)||!bet a.cost 0 1000000000)
def sumL (l:List Int):Int:=l.foldl (fun s x=>s+x) 0
def zt7 (n:zj):Int:=
 bif decide (256<n.supply.length)||decide (2048<n.arcs.length) then 2 else
 bif n.supply.all zsy then(bif n.arcs.all (zna n.supply.length) then(bif sumL n.supply !=0 then 360 else 0) else 1) else 1
theorem zl1 (φ:Nat) (n:zj) (s:Int) (hs:n.supply.length<=256) (ha:n.arcs.length<=2048) (m:Nat) (hm:n.arcs.length<m) :
  z2i φ m s n.arcs (n.arcs.length:Int) 0 n=bif n.arcs.all (zna n.supply.length) then(if(s:Int) !=0 then some (360,()) else some (0,())) else some (1,()):=by
 have hp:W ((n.supply.length:Int)-1) =(n.supply.length:Int)-1:=W_id (by omega) (by omega)
 have:=z8b (fun m i (_:Unit)=>z2i φ m s n.arcs (n.arcs.length:Int) i n) (fun _=>if(s:Int) !=0 then some (360,()) else some (0,())) (some (1,())) n.arcs (zna n.supply.length) (fun u _=>u) (fun _ _=>True) ?_ ?_ m () trivial hm
 ·exact this.1
 ·intro m i u hi _
  refine⟨?_,fun _=>trivial⟩
  have hW:W ((i:Int)+1) =(i:Int)+1:=W_id (by omega) (by omega)
  rw [z2i,if_pos (by simp; omega),zb ⟨by omega,by omega⟩,hp,hW]
  simp only [z7c,w03]
  generalize gt n.arcs (i:Int)=a
  unfold zna
  cases h1:bet a.from_ 0 ((n.supply.length:Int)-1) <;> cases h2:bet a.to 0 ((n.supply.length:Int)-1) <;> cases h3 :(a.from_==a.to) <;> cases h4:bet a.cap 0 1000000000 <;> cases h5:bet a.cost 0 1000000000 <;> simp [z0d,h1,h2,h3,h4,h5]
 ·intro m u _
  rw [z2i,if_neg (by simp)]
theorem zgx (φ:Nat) (n:zj) (hφ:5000<φ):z9h φ n=some (zt7 n,()):=by
 unfold z9h zt7
 by_cases hl:256<n.supply.length\/2048<n.arcs.length
 ·have e :(decide (256<n.supply.length)||decide (2048<n.arcs.length))=true:=by simpa using hl
  rw [if_pos (by simp; omega),e]; rfl
 ·have e :(decide (256<n.supply.length)||decide (2048<n.arcs.length))=false:=by simpa using hl
  rw [if_neg (by simp; omega),e]
  have hs:n.supply.length<=256:=by omega
  have ha:n.arcs.length<=2048:=by omega
  have:=z8b (fun m i s=>z58 φ m s n.supply (n.supply.length:Int) i n) (fun s=>z2i φ φ s n.arcs (n.arcs.length:Int) 0 n) (some (1,())) n.supply zsy (fun s x=>s+x)
   (fun i s=>-(1000000000 *(i:Int))<=s/\s<=1000000000 *(i:Int)) ?_ ?_ φ 0 ⟨by simp,by simp⟩ (by omega)
  ·rw [this.1]
   simp only [cond_false]
   cases hall:n.supply.all zsy with
   | false=>rfl
   | true=>
    simp only [cond_true]
    rw [zl1 φ n _ hs ha φ (by omega)]
    show _=some ((bif n.arcs.all (zna n.supply.length) then(bif sumL n.supply !=0 then 360 else 0) else 1),())
    unfold sumL
    cases n.arcs.all (zna n.supply.length) with
    | false=>rfl
    | true=>
     simp only [cond_true]
     cases h :(n.supply.foldl (fun s x=>s+x) 0 !=0) <;> simp
  ·intro m i s hi hI
   have hW:W ((i:Int)+1) =(i:Int)+1:=W_id (by omega) (by omega)
   rw [z58,if_pos (by simp; omega),zb ⟨by omega,by omega⟩,hW]
   simp only [z7c,w03]
   generalize gt n.supply (i:Int)=x
   unfold zsy
   cases hb:bet x (-1000000000) 1000000000 with
   | false=>exact⟨by simp,fun h=>by cases h⟩
   | true=>
    obtain⟨b1,b2⟩:=zlw hb
    have hx:W (s+x)=s+x:=W_id (by omega) (by omega)
    refine⟨by simp [hx],fun _=>⟨by push_cast; omega,by push_cast; omega⟩⟩
  ·intro m s _
   rw [z58,if_neg (by simp)]
end Px
end
section
namespace Px
open Go
def nwOf (n:zj):Nw:=⟨n.supply.length,n.arcs.length,fun i=>(gt n.arcs (i:Int)).from_.toNat,fun i=>(gt n.arcs (i:Int)).to.toNat,fun i=>(gt n.arcs (i:Int)).cap,fun i=>(gt n.arcs (i:Int)).cost⟩
def atN (l:List Int) (v:Nat):Int:=gt l (v:Int)
theorem y4q (l:List Int) (x:Int):sumL (l++[x])=sumL l+x:=by
 unfold sumL; rw [List.foldl_append]; rfl
theorem zt8 (l:List Int):∀ i:Nat,i<=l.length->sumL (l.take i)=sumN i (atN l)
 | 0,_=>rfl
 | i+1,h=>by
  rw [z45 l i (by omega),y4q,zt8 l i (by omega)]; rfl
theorem y2z (l:List Int):sumL l=sumN l.length (atN l):=by
 have:=zt8 l l.length (w0g _)
 rwa [w1l] at this
structure zg2 (n:zj):Prop where
 k:n.supply.length<=256
 m:n.arcs.length<=2048
 arc:∀ i:Nat,i<n.arcs.length->0<=(gt n.arcs (i:Int)).from_/\(gt n.arcs (i:Int)).from_ <(n.supply.length:Int)/\0<=(gt n.arcs (i:Int)).to/\(gt n.arcs (i:Int)).to <(n.supply.length:Int)/\
  (gt n.arcs (i:Int)).from_≠(gt n.arcs (i:Int)).to/\0<=(gt n.arcs (i:Int)).cap/\(gt n.arcs (i:Int)).cap<=1000000000/\0<=(gt n.arcs (i:Int)).cost/\(gt n.arcs (i:Int)).cost<=1000000000
 sup:∀ v:Nat,v<n.supply.length->-1000000000<=atN n.supply v/\atN n.supply v<=1000000000
 sum:sumN n.supply.length (atN n.supply)=0
theorem zss {k:Int} {a:Arc} : zna k a=true↔(0<=a.from_/\a.from_<k)/\(0<=a.to/\a.to<k)/\a.from_≠a.to/\(0<=a.cap/\a.cap<=1000000000)/\(0<=a.cost/\a.cost<=1000000000):=by
 unfold zna
 simp only [w0o,w0v,Bool.not_eq_false',z64,beq_eq_false_iff_ne,ne_eq]
 constructor
 ·rintro⟨⟨⟨⟨h1,h2⟩,h3⟩,h4⟩,h5⟩; exact⟨⟨h1.1,by omega⟩,⟨h2.1,by omega⟩,h3,h4,h5⟩
 ·rintro⟨h1,h2,h3,h4,h5⟩; exact⟨⟨⟨⟨⟨h1.1,by omega⟩,⟨h2.1,by omega⟩⟩,h3⟩,h4⟩,h5⟩
theorem zm3 {n:zj} (h:zt7 n=0):zg2 n:=by
 unfold zt7 at h
 cases e :(decide (256<n.supply.length)||decide (2048<n.arcs.length)) with
 | true=>rw [e] at h; simp at h
 | false=>
  rw [e] at h
  simp only [cond_false] at h
  cases e1:n.supply.all zsy with
  | false=>rw [e1] at h; simp at h
  | true=>
   cases e2:n.arcs.all (zna n.supply.length) with
   | false=>rw [e1,e2] at h; simp at h
   | true=>
    rw [e1,e2] at h
    simp only [cond_true] at h
    simp only [w0v,decide_eq_false_iff_not] at e
    refine⟨by omega,by omega,fun i hi=>?_,fun v hv=>?_,?_⟩
    ·have:=zss.1 (w04.1 e2 _ (za5 (i:=(i:Int)) (by omega) (by omega)))
     obtain⟨⟨a1,a2⟩,⟨b1,b2⟩,c,⟨d1,d2⟩,e1,e2⟩:=this
     exact⟨a1,a2,b1,b2,c,d1,d2,e1,e2⟩
    ·exact zlw (w04.1 e1 _ (za5 (i:=(v:Int)) (by omega) (by omega)))
    ·rw [<- y2z]
     cases e3 :(sumL n.supply !=0) with
     | true=>rw [e3] at h; simp at h
     | false=>simpa using e3
theorem zg2.nw {n:zj} (h:zg2 n) :(nwOf n).Ok where
 fr:=fun i hi=>by obtain⟨a,b,_⟩:=h.arc i hi; show (gt n.arcs (i:Int)).from_.toNat<n.supply.length; omega
 to:=fun i hi=>by obtain⟨_,_,a,b,_⟩:=h.arc i hi; show (gt n.arcs (i:Int)).to.toNat<n.supply.length; omega
 ne:=fun i hi=>by obtain⟨a,_,b,_,c,_⟩:=h.arc i hi; show (gt n.arcs (i:Int)).from_.toNat≠(gt n.arcs (i:Int)).to.toNat; omega
def outP (n:zj) (x:Nat->Int) (i v:Nat):Int:=sumN i fun j=>if(nwOf n).fr j=v then x j else 0
def inP (n:zj) (x:Nat->Int) (i v:Nat):Int:=sumN i fun j=>if(nwOf n).to j=v then x j else 0
theorem zd0 {m:Nat} {f:Nat->Int} {B:Int} (h:∀ i,i<m->0<=f i/\f i<=B):0<=sumN m f/\sumN m f<=B*m:=by
 refine⟨z3h fun i hi=>(h i hi).1,?_⟩
 induction m with
 | zero=>simp [sumN]
 | succ m ih=>
  have:=ih fun i hi=>h i (by omega)
  have h2:=(h m (by omega)).2
  simp only [sumN]
  push_cast
  rw [w2d,Int.mul_one]
  omega
def okX (n:zj) (x:List Int) (j:Nat):Bool:=bet (atN x j) 0 (gt n.arcs (j:Int)).cap
def zow (n:zj) (x:List Int) (left:List Int) (j:Nat):List Int:=
 zr (zr left (gt n.arcs (j:Int)).from_ (gt left (gt n.arcs (j:Int)).from_-atN x j)) (gt n.arcs (j:Int)).to (gt (zr left (gt n.arcs (j:Int)).from_ (gt left (gt n.arcs (j:Int)).from_-atN x j)) (gt n.arcs (j:Int)).to+atN x j)
theorem zww {m i:Nat} (h:i<m):gt (List.range m) (i:Int)=i:=by
 rw [z4p (by simpa using h)]; simp
structure zu8 (n:zj) (x:List Int) (i:Nat) (left:List Int):Prop where
 len:left.length=n.supply.length
 val:∀ v:Nat,v<n.supply.length->atN left v=atN n.supply v-outP n (atN x) i v+inP n (atN x) i v
 ok:∀ j:Nat,j<i->okX n x j=true
theorem zu8.bound {n:zj} (h:zg2 n) {x left:List Int} {i:Nat} (hi:i<=n.arcs.length) (hl:zu8 n x i left) {v:Nat} (hv:v<n.supply.length) : -3000000000000<=atN left v/\atN left v<=3000000000000:=by
 have hx:∀ j,j<i->0<=atN x j/\atN x j<=1000000000:=fun j hj=>by
  have h1:=zlw (hl.ok j hj)
  have h2:=h.arc j (by omega)
  exact⟨h1.1,by omega⟩
 have ho:=zd0 (m:=i) (f:=fun j=>if(nwOf n).fr j=v then atN x j else 0) (B:=1000000000) fun j hj=>by
  have:=hx j hj
  show 0<=(if(nwOf n).fr j=v then atN x j else 0)/\(if(nwOf n).fr j=v then atN x j else 0)<=1000000000
  split <;> omega
 have hin:=zd0 (m:=i) (f:=fun j=>if(nwOf n).to j=v then atN x j else 0) (B:=1000000000) fun j hj=>by
  have:=hx j hj
  show 0<=(if(nwOf n).to j=v then atN x j else 0)/\(if(nwOf n).to j=v then atN x j else 0)<=1000000000
  split <;> omega
 have hs:=h.sup v hv
 have hm:=h.m
 rw [hl.val v hv]
 change 0<=outP n (atN x) i v/\outP n (atN x) i v<=_ at ho
 change 0<=inP n (atN x) i v/\inP n (atN x) i v<=_ at hin
 omega
theorem zu8.step {n:zj} (h:zg2 n) {x left:List Int} {i:Nat} (hi:i<n.arcs.length) (hl:zu8 n x i left) (hok:okX n x i=true):zu8 n x (i+1) (zow n x left i):=by
 obtain⟨a1,a2,a3,a4,a5,_⟩:=h.arc i hi
 have hlen :(zow n x left i).length=n.supply.length:=by unfold zow; rw [z0x,z0x,hl.len]
 refine⟨hlen,fun v hv=>?_,fun j hj=>?_⟩
 ·have e1:outP n (atN x) (i+1) v=outP n (atN x) i v +(if(gt n.arcs (i:Int)).from_.toNat=v then atN x i else 0):=rfl
  have e2:inP n (atN x) (i+1) v=inP n (atN x) i v +(if(gt n.arcs (i:Int)).to.toNat=v then atN x i else 0):=rfl
  rw [e1,e2]
  have hvv:=hl.val v hv
  unfold zow atN at *
  have f1:=z0i left (gt n.arcs (i:Int)).from_ (v:Int) (gt left (gt n.arcs (i:Int)).from_-gt x (i:Int)) a1 (by rw [hl.len]; exact a2) (by omega)
  have f2:=z0i left (gt n.arcs (i:Int)).from_ (gt n.arcs (i:Int)).to (gt left (gt n.arcs (i:Int)).from_-gt x (i:Int)) a1 (by rw [hl.len]; exact a2) a3
  rw [z0i _ _ (v:Int) _ a3 (by rw [z0x,hl.len]; exact a4) (by omega),f1,f2]
  by_cases h1 :(v:Int) =(gt n.arcs (i:Int)).to
  ·rw [if_pos h1,if_neg (fun e=>a5 e.symm),if_neg (by omega),if_pos (by omega),<- h1]; omega
  ·rw [if_neg h1]
   by_cases h2 :(v:Int) =(gt n.arcs (i:Int)).from_
   ·rw [if_pos h2,if_pos (by omega),if_neg (by omega),<- h2]; omega
   ·rw [if_neg h2,if_neg (by omega),if_neg (by omega)]; omega
 ·by_cases e:j=i
  ·rw [e]; exact hok
  ·exact hl.ok j (by omega)
def zrn (n:zj) (f:Flow):Bool:=decide (f.x.length=n.arcs.length)&&((List.range n.arcs.length).all (okX n f.x)&&((List.range n.arcs.length).foldl (zow n f.x) n.supply).all (·==0))
theorem y0i (φ:Nat) (l:List Int) (hl:l.length<=256) (m:Nat) (hm:l.length<m):z0u φ m (l.length:Int) 0 l=some (l.all (·==0),()):=by
 have:=z8b (fun m i (_:Unit)=>z0u φ m (l.length:Int) i l) (fun _=>some (true,())) (some (false,())) l (·==0) (fun u _=>u) (fun _ _=>True) ?_ ?_ m () trivial hm
 ·rw [this.1]; cases l.all (·==0) <;> rfl
 ·intro m i u hi _
  refine⟨?_,fun _=>trivial⟩
  have hW:W ((i:Int)+1) =(i:Int)+1:=W_id (by omega) (by omega)
  rw [z0u,if_pos (by simp; omega),zb ⟨by omega,by omega⟩,hW]
  cases h :(gt l (i:Int)==0) with
  | true=>rw [if_neg (by simpa using h)]; rfl
  | false=>rw [if_pos (by simpa using h)]; rfl
 ·intro m u _
  rw [z0u,if_neg (by simp)]
theorem zdq (φ:Nat) (n:zj) (f:Flow) (h:zg2 n) (hφ:5000<φ):z6z φ n f=some (zrn n f,()):=by
 have hk:=h.k
 have hm:=h.m
 unfold z6z zrn
 by_cases hl:f.x.length=n.arcs.length
 ·rw [if_neg (by simp [hl]),decide_eq_true hl,w1u,zb (by simp [fits]; omega),List.nil_append]
  have:=z8b (fun m i left=>z2b φ m n.arcs (n.arcs.length:Int) i f left) (fun left=>z0u φ φ (left.length:Int) 0 left) (some (false,())) (List.range n.arcs.length) (okX n f.x) (zow n f.x) (zu8 n f.x) ?_ ?_ φ n.supply ⟨rfl,fun v hv=>by simp [outP,inP,sumN],fun j hj=>by omega⟩ (by simp; omega)
  ·obtain⟨e1,e2⟩:=this
   rw [e1]
   cases hall :(List.range n.arcs.length).all (okX n f.x) with
   | false=>rfl
   | true=>
    have hlen:=(e2 hall).len
    simp only [cond_true,w1u]
    exact y0i φ _ (by rw [hlen]; exact hk) φ (by rw [hlen]; omega)
  ·intro m i left hi hI
   have hi:i<n.arcs.length:=by simpa using hi
   rw [zww hi]
   refine⟨?_,fun hok=>hI.step h hi hok⟩
   obtain⟨a1,a2,a3,a4,a5,_⟩:=h.arc i hi
   have hW:W ((i:Int)+1) =(i:Int)+1:=W_id (by omega) (by omega)
   have hle:=hI.len
   have b1:=hI.bound h (by omega) (v:=(gt n.arcs (i:Int)).from_.toNat) (by omega)
   have b2:=hI.bound h (by omega) (v:=(gt n.arcs (i:Int)).to.toNat) (by omega)
   rw [z2b,if_pos (by simp; omega),zb ⟨by omega,by omega⟩,zb ⟨by omega,by omega⟩,z7c,w03]
   show _=bif bet (gt f.x (i:Int)) 0 (gt n.arcs (i:Int)).cap then _ else _
   cases hb:bet (gt f.x (i:Int)) 0 (gt n.arcs (i:Int)).cap with
   | false=>rfl
   | true=>
    have hx:=zlw hb
    have hcap:=(h.arc i hi).2.2.2.2.2.2.1
    unfold atN at b1 b2
    rw [w2k a1] at b1
    rw [w2k a3] at b2
    have w1:W (gt left (gt n.arcs (i:Int)).from_-gt f.x (i:Int))=gt left (gt n.arcs (i:Int)).from_-gt f.x (i:Int):=W_id (by omega) (by omega)
    have e3:gt (zr left (gt n.arcs (i:Int)).from_ (gt left (gt n.arcs (i:Int)).from_-gt f.x (i:Int))) (gt n.arcs (i:Int)).to=gt left (gt n.arcs (i:Int)).to:=by
     rw [z0i _ _ _ _ a1 (by rw [hle]; exact a2) a3,if_neg (fun e=>a5 e.symm)]
    have w2:W (gt left (gt n.arcs (i:Int)).to+gt f.x (i:Int))=gt left (gt n.arcs (i:Int)).to+gt f.x (i:Int):=W_id (by omega) (by omega)
    simp only [w18,w0k,if_false,cond_true]
    rw [zb ⟨a1,by rw [hle]; exact a2⟩,zb ⟨by omega,by omega⟩,zb ⟨a1,by rw [hle]; exact a2⟩,w1,zb ⟨a3,by rw [z0x,hle]; exact a4⟩,zb ⟨by omega,by omega⟩,zb ⟨a3,by rw [z0x,hle]; exact a4⟩,hW,e3,w2]
    show _=z2b φ m n.arcs (n.arcs.length:Int) ((i:Int)+1) f (zow n f.x left i)
    unfold zow atN
    rw [e3]
  ·intro m left hI
   have :((List.range n.arcs.length).length:Int) =(n.arcs.length:Int):=by simp
   rw [this,z2b,if_neg (by simp)]
 ·rw [if_pos (by simpa using fun e=>hl (by omega)),decide_eq_false hl]; rfl
end Px
end
section
namespace Px
open Go
theorem zhn {n:zj} (h:zg2 n) {x:List Int} : ∀ i:Nat,i<=n.arcs.length->(∀ j,j<i->okX n x j=true)->zu8 n x i ((List.range i).foldl (zow n x) n.supply)
 | 0,_,_=>⟨rfl,fun v hv=>by simp [outP,inP,sumN],fun j hj=>by omega⟩
 | i+1,hi,hok=>by
  rw [w16,List.foldl_append]
  exact(zhn h i (by omega) fun j hj=>hok j (by omega)).step h (by omega) (hok i (by omega))
theorem y7u (n:zj) (x:Nat->Int) (v:Nat) :(nwOf n).exc (atN n.supply) x v=atN n.supply v-outP n x n.arcs.length v+inP n x n.arcs.length v:=rfl
theorem zgf {n:zj} (h:zg2 n) {f:Flow} : zrn n f=true↔f.x.length=n.arcs.length/\(nwOf n).Feas (atN n.supply) (atN f.x):=by
 unfold zrn
 simp only [w02,decide_eq_true_eq]
 refine and_congr_right fun hl=>?_
 constructor
 ·rintro⟨h1,h2⟩
  have hok:∀ j,j<n.arcs.length->okX n f.x j=true:=fun j hj=>w04.1 h1 j (w0e.2 hj)
  have hI:=zhn h n.arcs.length (w0g _) hok
  refine⟨fun i hi=>zlw (hok i hi),fun v hv=>?_⟩
  have hv:v<n.supply.length:=hv
  rw [y7u,<- hI.val v hv]
  have:=w04.1 h2 _ (za5 (i:=(v:Int)) (by omega) (by rw [hI.len]; omega))
  unfold atN
  simpa using this
 ·intro hF
  have hok:∀ j,j<n.arcs.length->okX n f.x j=true:=fun j hj=>z64.2 (hF.bnd j hj)
  have hI:=zhn h n.arcs.length (w0g _) hok
  refine⟨w04.2 fun j hj=>hok j (w0e.1 hj),w04.2 fun y hy=>?_⟩
  obtain⟨v,hv,rfl⟩:=yd2 hy
  rw [hI.len] at hv
  have:=hI.val v hv
  rw [<- y7u,hF.exc v hv] at this
  simpa [atN] using this
theorem zml {f:Nat->Int} : ∀ {m i:Nat},i<=m->(∀ j,j<m->0<=f j)->sumN i f<=sumN m f
 | 0,i,hi,_=>by
  have e:i=0:=by omega
  rw [e]; exact w1r _
 | m+1,i,hi,h=>by
  by_cases e:i=m+1
  ·subst e; exact w1r _
  ·have:=zml (m:=m) (i:=i) (by omega) fun j hj=>h j (by omega)
   have h2:=h m (by omega)
   simp only [sumN]; omega
theorem znx {a b:Int} (h1:0<=a/\a<=1000000000) (h2:0<=b/\b<=1000000000):0<=a*b/\a*b<=1000000000000000000:=by
 refine⟨w1e h1.1 h2.1,?_⟩
 have:=w2f h1.2 h2.2 h2.1 (by omega)
 exact this
theorem ztg (φ:Nat) (n:zj) (f:Flow) (hc:zt7 n=0) (hφ:5000<φ) :
  zcc φ n f=bif zrn n f then(if(nwOf n).costS (atN f.x)<=9007199254740992 then some ((nwOf n).costS (atN f.x),0,()) else some (0,3,())) else some (0,360,()):=by
 have h:=zm3 hc
 have hm:=h.m
 unfold zcc
 rw [zgx φ n hφ,hc,w03,if_neg (by simp),zdq φ n f h hφ,w03]
 cases hf:zrn n f with
 | false=>rfl
 | true=>
  obtain⟨hl,hF⟩:=(zgf h).1 hf
  simp only [w18,w0k,if_false,cond_true]
  have hb:∀ i,i<n.arcs.length->(0<=atN f.x i/\atN f.x i<=1000000000)/\(0<=(nwOf n).cost i/\(nwOf n).cost i<=1000000000):=fun i hi=>by
   have h1:=hF.bnd i hi
   have h2:=h.arc i hi
   have h3 :(nwOf n).cap i =(gt n.arcs (i:Int)).cap:=rfl
   have h4 :(nwOf n).cost i =(gt n.arcs (i:Int)).cost:=rfl
   rw [h3] at h1
   rw [h4]
   exact⟨⟨h1.1,by omega⟩,h2.2.2.2.2.2.2.2⟩
  have hpos:∀ i,i<n.arcs.length->0<=atN f.x i *(nwOf n).cost i:=fun i hi=>(znx (hb i hi).1 (hb i hi).2).1
  refine z11 (fun m i c=>z3a φ m c n.arcs (n.arcs.length:Int) i f) n.arcs.length (fun i c=>c=sumN i (fun j=>atN f.x j *(nwOf n).cost j)/\c<=9007199254740992)
   (fun o=>o=if(nwOf n).costS (atN f.x)<=9007199254740992 then some ((nwOf n).costS (atN f.x),0,()) else some (0,3,())) ?_ ?_ φ 0 ⟨rfl,by omega⟩ (by omega)
  ·rintro m i c hi ⟨hcs,hcb⟩ hs
   have hW:W ((i:Int)+1) =(i:Int)+1:=W_id (by omega) (by omega)
   have hc0:0<=c:=by rw [hcs]; exact z3h fun j hj=>hpos j (by omega)
   have hx:=znx (hb i hi).1 (hb i hi).2
   have e1:gt f.x (i:Int) *(gt n.arcs (i:Int)).cost=atN f.x i *(nwOf n).cost i:=rfl
   have w1:W (9007199254740992-c)=9007199254740992-c:=W_id (by omega) (by omega)
   have w2:W (gt f.x (i:Int) *(gt n.arcs (i:Int)).cost)=atN f.x i *(nwOf n).cost i:=by rw [e1]; exact W_id (by omega) (by omega)
   have w3:W (c+atN f.x i *(nwOf n).cost i)=c+atN f.x i *(nwOf n).cost i:=W_id (by omega) (by omega)
   show z3a φ (m+1) c n.arcs (n.arcs.length:Int) (i:Int) f=_
   rw [z3a,if_pos (by simp; omega),zb ⟨by omega,by omega⟩,zb ⟨by omega,by omega⟩,w1,w2,w3,hW]
   have hsucc:sumN (i+1) (fun j=>atN f.x j *(nwOf n).cost j)=c+atN f.x i *(nwOf n).cost i:=by rw [hcs]; rfl
   by_cases hov:9007199254740992-c<atN f.x i *(nwOf n).cost i
   ·rw [if_pos (by simpa using hov),if_neg]
    have:=zml (f:=fun j=>atN f.x j *(nwOf n).cost j) (m:=n.arcs.length) (i:=i+1) (by omega) hpos
    have e2 :(nwOf n).costS (atN f.x)=sumN n.arcs.length (fun j=>atN f.x j *(nwOf n).cost j):=rfl
    rw [e2]; omega
   ·rw [if_neg (by simpa using hov)]
    exact hs _ ⟨hsucc.symm,by omega⟩
  ·rintro m c ⟨hcs,hcb⟩
   show z3a φ (m+1) c n.arcs (n.arcs.length:Int) (n.arcs.length:Int) f=_
   rw [z3a,if_neg (by simp)]
   have e2 :(nwOf n).costS (atN f.x)=c:=hcs.symm
   rw [e2,if_pos hcb]
theorem zuj (φ:Nat) (n:zj) (f:Flow) (hl:f.price.length<=256) (m:Nat) (hm:f.price.length<m) :
  z2t φ m f.price (f.price.length:Int) 0 n f=bif f.price.all (fun p=>bet p (-1125899906842624) 1125899906842624) then z1a φ φ n.arcs (n.arcs.length:Int) 0 f else some (361,()):=by
 have:=z8b (fun m i (_:Unit)=>z2t φ m f.price (f.price.length:Int) i n f) (fun _=>z1a φ φ n.arcs (n.arcs.length:Int) 0 f) (some (361,())) f.price (fun p=>bet p (-1125899906842624) 1125899906842624) (fun u _=>u) (fun _ _=>True) ?_ ?_ m () trivial hm
 ·exact this.1
 ·intro m i u hi _
  refine⟨?_,fun _=>trivial⟩
  have hW:W ((i:Int)+1) =(i:Int)+1:=W_id (by omega) (by omega)
  rw [z2t,if_pos (by simp; omega),zb ⟨by omega,by omega⟩,hW,z7c,w03]
  cases bet (gt f.price (i:Int)) (-1125899906842624) 1125899906842624 <;> simp
 ·intro m u _
  rw [z2t,if_neg (by simp)]
def okRc (n:zj) (f:Flow) (i:Nat):Bool:=!((decide (atN f.x i <(nwOf n).cap i)&&decide ((nwOf n).rc (atN f.price) i<0))||(decide (0<atN f.x i)&&decide (0 <(nwOf n).rc (atN f.price) i)))
theorem zvl {n:zj} {f:Flow} :(List.range n.arcs.length).all (okRc n f)=true↔(nwOf n).Tight (atN f.x) (atN f.price):=by
 rw [w04]
 constructor
 ·intro h i hi
  have:=h i (w0e.2 hi)
  unfold okRc at this
  simp only [w0o,w0v,Bool.and_eq_false_iff,decide_eq_false_iff_not] at this
  exact⟨fun q=>by rcases this.1 with h | h <;> omega,fun q=>by rcases this.2 with h | h <;> omega⟩
 ·intro h i hi
  obtain⟨t1,t2⟩:=h i (w0e.1 hi)
  unfold okRc
  simp only [w0o,w0v,Bool.and_eq_false_iff,decide_eq_false_iff_not]
  refine⟨?_,?_⟩
  ·by_cases q:atN f.x i <(nwOf n).cap i
   ·exact .inr (by have:=t1 q; omega)
   ·exact .inl q
  ·by_cases q:0<atN f.x i
   ·exact .inr (by have:=t2 q; omega)
   ·exact .inl q
theorem zsj (φ:Nat) (n:zj) (f:Flow) (h:zg2 n) (hx:f.x.length=n.arcs.length) (hp:f.price.length=n.supply.length) (hb:f.price.all (fun p=>bet p (-1125899906842624) 1125899906842624)=true) (m:Nat) (hm:n.arcs.length<m) :
  z1a φ m n.arcs (n.arcs.length:Int) 0 f=bif (List.range n.arcs.length).all (okRc n f) then some (0,()) else some (361,()):=by
 have hma:=h.m
 have:=z8b (fun m i (_:Unit)=>z1a φ m n.arcs (n.arcs.length:Int) i f) (fun _=>some (0,())) (some (361,())) (List.range n.arcs.length) (okRc n f) (fun u _=>u) (fun _ _=>True) ?_ ?_ m () trivial (by simpa using hm)
 ·exact this.1
 ·intro m i u hi _
  have hi:i<n.arcs.length:=by simpa using hi
  refine⟨?_,fun _=>trivial⟩
  rw [zww hi]
  obtain⟨a1,a2,a3,a4,a5,c1,c2,d1,d2⟩:=h.arc i hi
  have hW:W ((i:Int)+1) =(i:Int)+1:=W_id (by omega) (by omega)
  have p1:=zlw (w04.1 hb _ (za5 (i:=(gt n.arcs (i:Int)).from_) a1 (by rw [hp]; exact a2)))
  have p2:=zlw (w04.1 hb _ (za5 (i:=(gt n.arcs (i:Int)).to) a3 (by rw [hp]; exact a4)))
  have w1:W ((gt n.arcs (i:Int)).cost+gt f.price (gt n.arcs (i:Int)).from_) =(gt n.arcs (i:Int)).cost+gt f.price (gt n.arcs (i:Int)).from_:=W_id (by omega) (by omega)
  have w2:W ((gt n.arcs (i:Int)).cost+gt f.price (gt n.arcs (i:Int)).from_-gt f.price (gt n.arcs (i:Int)).to) =(gt n.arcs (i:Int)).cost+gt f.price (gt n.arcs (i:Int)).from_-gt f.price (gt n.arcs (i:Int)).to:=W_id (by omega) (by omega)
  have e1 :(nwOf n).rc (atN f.price) i =(gt n.arcs (i:Int)).cost+gt f.price (gt n.arcs (i:Int)).from_-gt f.price (gt n.arcs (i:Int)).to:=by
   show (gt n.arcs (i:Int)).cost+gt f.price (((gt n.arcs (i:Int)).from_.toNat:Nat):Int)-gt f.price (((gt n.arcs (i:Int)).to.toNat:Nat):Int)=_
   rw [w2k a1,w2k a3]
  have e2 :(nwOf n).cap i =(gt n.arcs (i:Int)).cap:=rfl
  rw [z1a,if_pos (by simp; omega),zb ⟨by omega,by omega⟩,zb ⟨a1,by omega⟩,zb ⟨a3,by omega⟩,zb ⟨by omega,by omega⟩,zb (fun _=>⟨by omega,by omega⟩),hW,w1,w2]
  unfold okRc
  rw [e1,e2]
  unfold atN
  generalize (gt n.arcs (i:Int)).cost+gt f.price (gt n.arcs (i:Int)).from_-gt f.price (gt n.arcs (i:Int)).to=q
  cases hq :(decide (gt f.x (i:Int) <(gt n.arcs (i:Int)).cap)&&decide (q<0)||decide (0<gt f.x (i:Int))&&decide (0<q)) <;> simp
 ·intro m u _
  have :((List.range n.arcs.length).length:Int) =(n.arcs.length:Int):=by simp
  rw [this,z1a,if_neg (by simp)]
theorem zn9 (φ:Nat) (n:zj) (f:Flow) (hc:zt7 n=0) (hφ:5000<φ) :
  ∃ e,zcr φ n f=some (e,())/\(e=0↔zrn n f=true/\f.price.length=n.supply.length/\(∀ p∈f.price,-1125899906842624<=p/\p<=1125899906842624)/\(nwOf n).Tight (atN f.x) (atN f.price)):=by
 have h:=zm3 hc
 have hk:=h.k
 have hm:=h.m
 unfold zcr
 rw [zgx φ n hφ,hc,w03,if_neg (by simp),zdq φ n f h hφ,w03]
 cases hf:zrn n f with
 | false=>exact⟨360,rfl,by simp⟩
 | true=>
  simp only [w18,w0k,if_false]
  by_cases hp:f.price.length=n.supply.length
  ·rw [if_neg (by simp [hp]),zuj φ n f (by omega) φ (by omega)]
   cases hb:f.price.all (fun p=>bet p (-1125899906842624) 1125899906842624) with
   | false=>
    refine⟨361,rfl,⟨(fun e=>by cases e),fun q=>?_⟩⟩
    have q:=q.2
    have:f.price.all (fun p=>bet p (-1125899906842624) 1125899906842624)=true:=w04.2 fun p hp=>z64.2 (q.2.1 p hp)
    rw [hb] at this; cases this
   | true=>
    simp only [cond_true]
    obtain⟨hl,_⟩:=(zgf h).1 hf
    rw [zsj φ n f h hl hp hb φ (by omega)]
    have hpb:∀ p∈f.price,-1125899906842624<=p/\p<=1125899906842624:=fun p hp=>zlw (w04.1 hb p hp)
    cases hr :(List.range n.arcs.length).all (okRc n f) with
    | false=>
     refine⟨361,rfl,⟨(fun e=>by cases e),fun q=>?_⟩⟩
     rw [zvl.2 q.2.2.2] at hr; cases hr
    | true=>exact⟨0,rfl,⟨fun _=>⟨trivial,hp,hpb,zvl.1 hr⟩,fun _=>rfl⟩⟩
  ·rw [if_pos (by simp; omega)]
   exact⟨361,rfl,⟨(fun e=>by cases e),fun q=>absurd q.2.1 hp⟩⟩
end Px
end
section
namespace Px
open Go
def arcS (u:Int) (s:List z8) (i:Nat):Arc:=⟨(i:Int),u+1,(gt s (i:Int)).count,0⟩
def arcO (u a:Int) (o:List zg) (k:Nat):Arc:=⟨u,a +(k:Int),(gt o (k:Int)).count,(gt o (k:Int)).weight⟩
theorem zs3 (φ:Nat) (u ord:Int) (s:List z8) (sup:List Int) (arcs:List Arc) (hs:s.length<=6) (ha:arcs.length<=1000) (hu:0<=u/\u<=1000) (m:Nat) (hm:s.length<m) :
  z16 φ m u ord s (s.length:Int) 0 sup arcs=z0k φ sup (arcs++(List.range s.length).map (arcS u s)++[⟨u,u+1,ord,0⟩]):=by
 have hu1:W (u+1)=u+1:=W_id (by omega) (by omega)
 refine z11 (fun m i acc=>z16 φ m u ord s (s.length:Int) i sup acc) s.length (fun i acc=>acc=arcs++(List.range i).map (arcS u s)) (fun o=>o=z0k φ sup (arcs++(List.range s.length).map (arcS u s)++[⟨u,u+1,ord,0⟩])) ?_ ?_ m arcs (by simp) hm
 ·intro m i acc hi hI hG
  have hW:W ((i:Int)+1) =(i:Int)+1:=W_id (by omega) (by omega)
  have hlen:acc.length=arcs.length+i:=by rw [hI]; simp
  show z16 φ (m+1) u ord s (s.length:Int) (i:Int) sup acc=_
  rw [z16,if_pos (by simp; omega),zb ⟨by omega,by omega⟩,zb (by simp [fits,hlen]; omega),if_neg (by simp),hW,hu1]
  refine hG _ ?_
  rw [hI,w16,w1j,w0l]; rfl
 ·intro m acc hI
  have hlen:acc.length=arcs.length+s.length:=by rw [hI]; simp
  show z16 φ (m+1) u ord s (s.length:Int) (s.length:Int) sup acc=_
  rw [z16,if_neg (by simp),zb (by simp [fits,hlen]; omega),hu1,hI]
def sumC (o:List zg):Nat->Int
 | 0=>0
 | k+1=>sumC o k +(gt o (k:Int)).count
theorem zxz (φ:Nat) (u:Int) (s:List z8) (o:List zg) (sup:List Int) (arcs:List Arc) (hs:s.length<=6) (ho:o.length<=6) (hc:∀ k:Nat,k<o.length->0<=(gt o (k:Int)).count/\(gt o (k:Int)).count<=1000000) (ha:arcs.length<=500) (hu:0<=u/\u<=1000) (hφ:1000<φ) (m:Nat) (hm:o.length<m) :
  z0f φ m u 0 o (o.length:Int) 0 s sup arcs=z0k φ sup (arcs++(List.range o.length).map (arcO u (s.length:Int) o)++(List.range s.length).map (arcS u s)++[⟨u,u+1,sumC o o.length,0⟩]):=by
 refine z11 (fun m i (st:Int×List Arc)=>z0f φ m u st.1 o (o.length:Int) i s sup st.2) o.length (fun i st=>st.1=sumC o i/\0<=st.1/\st.1<=1000000 *(i:Int)/\st.2=arcs++(List.range i).map (arcO u (s.length:Int) o))
  (fun r=>r=z0k φ sup (arcs++(List.range o.length).map (arcO u (s.length:Int) o)++(List.range s.length).map (arcS u s)++[⟨u,u+1,sumC o o.length,0⟩])) ?_ ?_ m (0,arcs) ⟨rfl,by simp,by simp,by simp⟩ hm
 ·rintro m i ⟨c,acc⟩ hi ⟨h1,h2,h3,hI⟩ hG
  simp only at h1 h2 h3 hI
  have hW:W ((i:Int)+1) =(i:Int)+1:=W_id (by omega) (by omega)
  have hW2:W ((s.length:Int) +(i:Int)) =(s.length:Int) +(i:Int):=W_id (by omega) (by omega)
  have hci:=hc i hi
  have hW3:W (c +(gt o (i:Int)).count)=c +(gt o (i:Int)).count:=W_id (by omega) (by omega)
  have hlen:acc.length=arcs.length+i:=by rw [hI]; simp
  show z0f φ (m+1) u c o (o.length:Int) (i:Int) s sup acc=_
  rw [z0f,if_pos (by simp; omega),zb ⟨by omega,by omega⟩,zb (by simp [fits,hlen]; omega),if_neg (by simp),hW,hW2,hW3]
  refine hG (c +(gt o (i:Int)).count,_) ⟨by rw [h1]; rfl,by omega,by push_cast; omega,?_⟩
  simp only
  rw [hI,w16,w1j,w0l]; rfl
 ·rintro m ⟨c,acc⟩ ⟨h1,h2,h3,hI⟩
  simp only at h1 h2 h3 hI
  have hlen:acc.length=arcs.length+o.length:=by rw [hI]; simp
  show z0f φ (m+1) u c o (o.length:Int) (o.length:Int) s sup acc=_
  rw [z0f,if_neg (by simp),zs3 φ u c s sup acc hs (by omega) hu φ (by omega),hI,h1]
end Px
end
section
namespace Px
open Go
def arcP (s:List z8) (o:List zg) (c:Nat->Nat->Int) (b:Nat->Nat->Bool) (i k:Nat):List Arc:=
 bif b i k then [⟨(i:Int),(s.length:Int) +(k:Int),min2 (gt s (i:Int)).count (gt o (k:Int)).count,c i k⟩] else []
def arcR (s:List z8) (o:List zg) (c:Nat->Nat->Int) (b:Nat->Nat->Bool) (i:Nat):List Arc:=(List.range o.length).flatMap (arcP s o c b i)
theorem zq8 {s:List z8} {o:List zg} {c:Nat->Nat->Int} {b:Nat->Nat->Bool} (i:Nat):∀ n:Nat,((List.range n).flatMap (arcP s o c b i)).length<=n
 | 0=>by simp
 | n+1=>by
  rw [w16,w13,w0c]
  have:=zq8 (s:=s) (o:=o) (c:=c) (b:=b) i n
  have h2 :([n].flatMap (arcP s o c b i)).length<=1:=by
   simp only [w0i,List.flatMap_nil,w06,arcP]
   cases b i n <;> simp
  omega
theorem zkp {s:List z8} {o:List zg} {c:Nat->Nat->Int} {b:Nat->Nat->Bool} (ho:o.length<=6):∀ n:Nat,((List.range n).flatMap (arcR s o c b)).length<=6*n
 | 0=>by simp
 | n+1=>by
  rw [w16,w13,w0c]
  have:=zkp (s:=s) (o:=o) (c:=c) (b:=b) ho n
  have h2 :([n].flatMap (arcR s o c b)).length<=6:=by
   simp only [w0i,List.flatMap_nil,w06,arcR]
   have:=zq8 (s:=s) (o:=o) (c:=c) (b:=b) n o.length
   omega
  omega
theorem yam (φ:Nat) (k42:Int->Int->List z8->Int->Int->List z8->List zg->Pool->List Int->List Arc->Option (zj×Int×Unit)) (u ord:Int) (p:Pool) (s:List z8) (o:List zg) (sup:List Int) (c:Nat->Nat->Int) (b:Nat->Nat->Bool) (i:Nat)
  (hsu:∀ k:Nat,k<o.length->z0z φ p (gt s (i:Int)) (gt o (k:Int))=some (c i k,b i k,())) (hs:s.length<=6) (ho:o.length<=6) (acc:List Arc) (ha:acc.length<=100) (m:Nat) (hm:o.length<m) :
  z0l φ k42 m u ord (i:Int) s (s.length:Int) (i:Int) o (o.length:Int) 0 s o p (gt s (i:Int)) sup acc=k42 u ord s (s.length:Int) (W ((i:Int)+1)) s o p sup (acc++arcR s o c b i):=by
 refine z11 (fun m k acc=>z0l φ k42 m u ord (i:Int) s (s.length:Int) (i:Int) o (o.length:Int) k s o p (gt s (i:Int)) sup acc) o.length (fun k a=>a=acc++(List.range k).flatMap (arcP s o c b i))
  (fun r=>r=k42 u ord s (s.length:Int) (W ((i:Int)+1)) s o p sup (acc++arcR s o c b i)) ?_ ?_ m acc (by simp) hm
 ·intro m k a hk hI hG
  have hW:W ((k:Int)+1) =(k:Int)+1:=W_id (by omega) (by omega)
  have hW2:W ((s.length:Int) +(k:Int)) =(s.length:Int) +(k:Int):=W_id (by omega) (by omega)
  have hlen:a.length<=110:=by
   rw [hI,w0c]
   have:=zq8 (s:=s) (o:=o) (c:=c) (b:=b) i k
   omega
  show z0l φ k42 (m+1) u ord (i:Int) s (s.length:Int) (i:Int) o (o.length:Int) (k:Int) s o p (gt s (i:Int)) sup a=_
  rw [z0l,if_pos (by simp; omega),zb ⟨by omega,by omega⟩,hsu k hk,w03,hW,hW2]
  have hstep:∀ a',a'=a++arcP s o c b i k->a'=acc++(List.range (k+1)).flatMap (arcP s o c b i):=fun a' e=>by
   rw [e,hI,w16,w13,w0l]; simp
  cases hb:b i k with
  | true=>
   rw [if_pos rfl,zb (by simp [fits]; omega),if_neg (by simp)]
   exact hG _ (hstep _ (by unfold arcP; rw [hb]; rfl))
  | false=>
   rw [if_neg (by simp)]
   exact hG _ (hstep _ (by unfold arcP; rw [hb]; simp))
 ·intro m a hI
  show z0l φ k42 (m+1) u ord (i:Int) s (s.length:Int) (i:Int) o (o.length:Int) (o.length:Int) s o p (gt s (i:Int)) sup a=_
  rw [z0l,if_neg (by simp),hI]; rfl
theorem zzo (φ:Nat) (u ord:Int) (p:Pool) (s:List z8) (o:List zg) (sup:List Int) (c:Nat->Nat->Int) (b:Nat->Nat->Bool)
  (hsu:∀ i k:Nat,i<s.length->k<o.length->z0z φ p (gt s (i:Int)) (gt o (k:Int))=some (c i k,b i k,())) (hs:s.length<=6) (ho:o.length<=6) (hφ:1000<φ) (m:Nat) (hm:s.length<m) :
  z12 φ m u ord s (s.length:Int) 0 s o p sup []=z0f φ φ u ord o (o.length:Int) 0 s sup ((List.range s.length).flatMap (arcR s o c b)):=by
 refine z11 (fun m i acc=>z12 φ m u ord s (s.length:Int) i s o p sup acc) s.length (fun i a=>a =(List.range i).flatMap (arcR s o c b))
  (fun r=>r=z0f φ φ u ord o (o.length:Int) 0 s sup ((List.range s.length).flatMap (arcR s o c b))) ?_ ?_ m [] (by simp) hm
 ·intro m i a hi hI hG
  have hW:W ((i:Int)+1) =(i:Int)+1:=W_id (by omega) (by omega)
  have hlen:a.length<=100:=by
   rw [hI]
   have:=zkp (s:=s) (o:=o) (c:=c) (b:=b) ho i
   omega
  show z12 φ (m+1) u ord s (s.length:Int) (i:Int) s o p sup a=_
  rw [z12,if_pos (by simp; omega),zb ⟨by omega,by omega⟩,yam φ _ u ord p s o sup c b i (fun k hk=>hsu i k hi hk) hs ho a hlen φ (by omega),hW]
  refine hG _ ?_
  rw [hI,w16,w13]; simp
 ·intro m a hI
  show z12 φ (m+1) u ord s (s.length:Int) (s.length:Int) s o p sup a=_
  rw [z12,if_neg (by simp),hI]
end Px
end
section
namespace Px
open Go
theorem zb7 (φ:Nat) (a b c:Int):z06 φ a b c=some (bet a b c,()):=rfl
def okSu (p:Pool) (s:z8):Bool:=
 (((bet s.type_ 0 (W ((p.fleet.types.length:Int)-1))&&bet s.class_ (-1) 63)&&bet s.place 0 (W ((p.network.places.length:Int)-1)))&&bet s.at_ 0 1073741824)&&bet s.count 1 4096
def okOr (p:Pool) (o:zg):Bool:=
 (((((bet o.type_ 0 (W ((p.fleet.types.length:Int)-1))&&bet o.class_ 0 63)&&bet o.place 0 (W ((p.network.places.length:Int)-1)))&&bet o.from_ 0 o.to)&&decide (o.to<=1073741824))&&bet o.count 1 1000)&&bet o.weight 0 1000000000
theorem zck (φ:Nat) (p:Pool) (s:z8):z1s φ p s=some (okSu p s,()):=by
 unfold z1s okSu
 simp only [zb7,w03]
 cases h1:bet s.type_ 0 (W ((p.fleet.types.length:Int)-1)) <;> cases h2:bet s.class_ (-1) 63 <;> cases h3:bet s.place 0 (W ((p.network.places.length:Int)-1)) <;> cases h4:bet s.at_ 0 1073741824 <;> cases h5:bet s.count 1 4096 <;> simp [z0d]
theorem zdp (φ:Nat) (p:Pool) (o:zg):z2g φ p o=some (okOr p o,()):=by
 unfold z2g okOr
 simp only [zb7,w03]
 cases h1:bet o.type_ 0 (W ((p.fleet.types.length:Int)-1)) <;> cases h2:bet o.class_ 0 63 <;> cases h3:bet o.place 0 (W ((p.network.places.length:Int)-1)) <;> cases h4:bet o.from_ 0 o.to <;> cases h6:decide (o.to<=1073741824) <;> cases h5:bet o.count 1 1000 <;> cases h7:bet o.weight 0 1000000000 <;> simp [z0d,h6]
end Px
end
section
namespace Px
open Go
def lsA (H:Arc->Int):List Arc->Int
 | []=>0
 | a::l=>H a+lsA H l
theorem zga (H:Arc->Int) (m:List Arc):∀ l:List Arc,lsA H (l++m)=lsA H l+lsA H m
 | []=>by simp [lsA]
 | a::l=>by simp only [w20,lsA,zga H m l]; omega
theorem zza (H:Arc->Int) (a:Arc):lsA H [a]=H a:=by simp [lsA]
theorem zmj (H:Arc->Int) (f:Nat->Arc):∀ n:Nat,lsA H ((List.range n).map f)=sumN n fun i=>H (f i)
 | 0=>rfl
 | n+1=>by rw [w16,w1j,zga,zmj H f n]; simp [sumN,lsA]
theorem zr2 (H:Arc->Int) (f:Nat->List Arc):∀ n:Nat,lsA H ((List.range n).flatMap f)=sumN n fun i=>lsA H (f i)
 | 0=>rfl
 | n+1=>by rw [w16,w13,zga,zr2 H f n]; simp [sumN]
theorem zvz (H:Arc->Int) (l:List Arc):∀ i:Nat,i<=l.length->lsA H (l.take i)=sumN i fun j=>H (gt l (j:Int))
 | 0,_=>rfl
 | i+1,h=>by rw [z45 l i (by omega),zga,zvz H l i (by omega),zza]; rfl
theorem y2m (H:Arc->Int) (l:List Arc) :(sumN l.length fun j=>H (gt l (j:Int)))=lsA H l:=by
 have:=zvz H l l.length (w0g _)
 rw [w1l] at this; exact this.symm
theorem z04 {n:Nat} {f:Nat->Int} (h:∀ i,i<n->f i=0):sumN n f=0:=(ze h).trans (z8f n)
def sumS (s:List z8):Nat->Int
 | 0=>0
 | k+1=>sumS s k +(gt s (k:Int)).count
theorem zpc (s:List z8):∀ n:Nat,sumS s n=sumN n fun i=>(gt s (i:Int)).count
 | 0=>rfl
 | n+1=>by simp only [sumS,sumN,zpc s n]
theorem zmv (o:List zg):∀ n:Nat,sumC o n=sumN n fun i=>(gt o (i:Int)).count
 | 0=>rfl
 | n+1=>by simp only [sumC,sumN,zmv o n]
def nodU (s:List z8) (o:List zg):Int:=(s.length:Int) +(o.length:Int)
def zlj (s:List z8) (o:List zg) (c:Nat->Nat->Int) (b:Nat->Nat->Bool):List Arc:=(List.range s.length).flatMap (arcR s o c b)
def z7 (s:List z8) (o:List zg) (c:Nat->Nat->Int) (b:Nat->Nat->Bool):List Arc:=
 zlj s o c b++(List.range o.length).map (arcO (nodU s o) (s.length:Int) o)++(List.range s.length).map (arcS (nodU s o) s)++[⟨nodU s o,nodU s o+1,sumC o o.length,0⟩]
def supN (s:List z8) (o:List zg):List Int:=s.map (·.count)++o.map (fun y=>- y.count)++[sumC o o.length,- sumS s s.length]
def netN (s:List z8) (o:List zg) (c:Nat->Nat->Int) (b:Nat->Nat->Bool):zj:=⟨supN s o,z7 s o c b⟩
def arcQ (s:List z8) (o:List zg) (c:Nat->Nat->Int) (i k:Nat):Arc:=⟨(i:Int),(s.length:Int) +(k:Int),min2 (gt s (i:Int)).count (gt o (k:Int)).count,c i k⟩
theorem zky (H:Arc->Int) (s:List z8) (o:List zg) (c:Nat->Nat->Int) (b:Nat->Nat->Bool) :
  lsA H (z7 s o c b) =(sumN s.length fun i=>sumN o.length fun k=>if b i k=true then H (arcQ s o c i k) else 0) +(sumN o.length fun k=>H (arcO (nodU s o) (s.length:Int) o k)) +(sumN s.length fun i=>H (arcS (nodU s o) s i))+H ⟨nodU s o,nodU s o+1,sumC o o.length,0⟩:=by
 unfold z7 zlj
 rw [zga,zga,zga,zmj,zmj,zza,zr2]
 congr 3
 refine ze fun i _=>?_
 unfold arcR
 rw [zr2]
 refine ze fun k _=>?_
 unfold arcP
 cases b i k <;> simp [lsA,arcQ]
theorem z85 (s:List z8) (o:List zg) :(supN s o).length=s.length+o.length+2:=by simp [supN]; omega
theorem y2d {α β:Type} [Inhabited α] [Inhabited β] (f:α->β) (l:List α) {i:Int} (h0:0<=i) (h:i <(l.length:Int)):gt (l.map f) i=f (gt l i):=by
 obtain⟨n,rfl⟩:=Int.eq_ofNat_of_zero_le h0
 rw [z4p (by simpa using h),z4p (by omega)]; simp
theorem zr9 {s:List z8} {o:List zg} {i:Nat} (h:i<s.length):atN (supN s o) i =(gt s (i:Int)).count:=by
 unfold atN supN
 rw [z7q _ _ _ (by omega) (by simp; omega),z7q _ _ _ (by omega) (by simp; omega),y2d _ _ (by omega) (by omega)]
theorem zth {s:List z8} {o:List zg} {k:Nat} (h:k<o.length):atN (supN s o) (s.length+k)=-(gt o (k:Int)).count:=by
 unfold atN supN
 rw [z7q _ _ _ (by omega) (by simp; omega),z6c _ _ _ (by simp; omega),y2d _ _ (by simp; omega) (by simp; omega)]
 rw [show ((s.length+k:Nat):Int) -((s.map (·.count)).length:Nat) =(k:Int) by simp; omega]
theorem zw6 (s:List z8) (o:List zg):atN (supN s o) (s.length+o.length)=sumC o o.length:=by
 unfold atN supN
 rw [z6c _ _ _ (by simp)]
 rw [show ((s.length+o.length:Nat):Int) -((s.map (·.count)++o.map (fun y=>- y.count)).length:Nat)=0 by simp]; rfl
theorem zw2 (s:List z8) (o:List zg):atN (supN s o) (s.length+o.length+1)=- sumS s s.length:=by
 unfold atN supN
 rw [z6c _ _ _ (by simp; omega)]
 rw [show ((s.length+o.length+1:Nat):Int) -((s.map (·.count)++o.map (fun y=>- y.count)).length:Nat)=1 by simp; omega]; rfl
structure Poss (s:List z8) (o:List zg) (b:Nat->Nat->Bool) (X:Nat->Nat->Int):Prop where
 pos:∀ i k,i<s.length->k<o.length->0<=X i k
 no:∀ i k,i<s.length->k<o.length->b i k=false->X i k=0
 row:∀ i,i<s.length->(sumN o.length fun k=>X i k)<=(gt s (i:Int)).count
 col:∀ k,k<o.length->(sumN s.length fun i=>X i k)<=(gt o (k:Int)).count
def z68 (s:List z8) (o:List zg) (X:Nat->Nat->Int) (i:Nat):Int:=(gt s (i:Int)).count-sumN o.length fun k=>X i k
def z39 (s:List z8) (o:List zg) (X:Nat->Nat->Int) (k:Nat):Int:=(gt o (k:Int)).count-sumN s.length fun i=>X i k
def zrm (s:List z8) (o:List zg) (X:Nat->Nat->Int):Int:=sumN s.length fun i=>sumN o.length fun k=>X i k
def flX (s:List z8) (o:List zg) (X:Nat->Nat->Int) (a:Arc):Int:=
 if a.to<nodU s o then(if a.from_ <(s.length:Int) then X a.from_.toNat (a.to -(s.length:Int)).toNat else z39 s o X (a.to -(s.length:Int)).toNat)
 else if a.from_ <(s.length:Int) then z68 s o X a.from_.toNat else zrm s o X
def zmx (s:List z8) (o:List zg) (c:Nat->Nat->Int) (X:Nat->Nat->Int):Int:=(sumN s.length fun i=>sumN o.length fun k=>X i k*c i k)+sumN o.length fun k=>z39 s o X k *(gt o (k:Int)).weight
section
variable {s:List z8} {o:List zg} {c:Nat->Nat->Int} {b:Nat->Nat->Bool} {X:Nat->Nat->Int}
theorem y5e {i k:Nat} (hi:i<s.length) (hk:k<o.length):flX s o X (arcQ s o c i k)=X i k:=by
 unfold flX arcQ nodU
 simp only
 rw [if_pos (by omega),if_pos (by omega)]
 congr 1 <;> omega
theorem y6p {k:Nat} (hk:k<o.length):flX s o X (arcO (nodU s o) (s.length:Int) o k)=z39 s o X k:=by
 unfold flX arcO nodU
 simp only
 rw [if_pos (by omega),if_neg (by omega)]
 congr 1; omega
theorem yao {i:Nat} (hi:i<s.length):flX s o X (arcS (nodU s o) s i)=z68 s o X i:=by
 unfold flX arcS
 simp only
 rw [if_neg (by omega),if_pos (by omega)]
 congr 1
theorem y8v:flX s o X ⟨nodU s o,nodU s o+1,sumC o o.length,0⟩=zrm s o X:=by
 unfold flX
 simp only
 rw [if_neg (by omega),if_neg (by unfold nodU; omega)]
theorem zog:zrm s o X=sumN o.length fun k=>sumN s.length fun i=>X i k:=z76 _ _ _
theorem zhc :(nodU s o).toNat=s.length+o.length:=by unfold nodU; omega
theorem y9r {b:Bool} {x:Int} (h:b=false->x=0) :(if b=true then x else 0)=x:=by cases b <;> simp_all
theorem Poss.out (h:Poss s o b X) (v:Nat) (hv:v<s.length+o.length+2) :
  (nwOf (netN s o c b)).outS (fun j=>flX s o X (gt (z7 s o c b) (j:Int))) v=if v<s.length then(gt s (v:Int)).count else if v=s.length+o.length then sumC o o.length else 0:=by
 show (sumN (z7 s o c b).length fun j=>if(gt (z7 s o c b) (j:Int)).from_.toNat=v then flX s o X (gt (z7 s o c b) (j:Int)) else 0)=_
 rw [y2m (fun a=>if a.from_.toNat=v then flX s o X a else 0),zky]
 have e1 :(sumN s.length fun i=>sumN o.length fun k=>if b i k=true then(if(arcQ s o c i k).from_.toNat=v then flX s o X (arcQ s o c i k) else 0) else 0)=if v<s.length then(sumN o.length fun k=>X v k) else 0:=by
  rw [<- z62 (fun i=>sumN o.length fun k=>X i k) v]
  refine ze fun i hi=>?_
  show (sumN o.length fun k=>if b i k=true then(if((i:Int)).toNat=v then flX s o X (arcQ s o c i k) else 0) else 0)=_
  rw [show ((i:Int)).toNat=i by omega]
  by_cases e:i=v
  ·rw [if_pos e]
   refine ze fun k hk=>?_
   rw [if_pos e,y5e hi hk]
   exact y9r (h.no i k hi hk)
  ·rw [if_neg e]
   exact z04 fun k hk=>by rw [if_neg e]; split <;> rfl
 have e2 :(sumN o.length fun k=>if(arcO (nodU s o) (s.length:Int) o k).from_.toNat=v then flX s o X (arcO (nodU s o) (s.length:Int) o k) else 0)=if v=s.length+o.length then(sumN o.length fun k=>z39 s o X k) else 0:=by
  have e:∀ k,(arcO (nodU s o) (s.length:Int) o k).from_.toNat=s.length+o.length:=fun k=>zhc
  by_cases g:v=s.length+o.length
  ·rw [if_pos g]
   exact ze fun k hk=>by rw [if_pos (by rw [e,g]),y6p hk]
  ·rw [if_neg g]
   exact z04 fun k hk=>by rw [if_neg (by rw [e]; exact fun q=>g q.symm)]
 have e3 :(sumN s.length fun i=>if(arcS (nodU s o) s i).from_.toNat=v then flX s o X (arcS (nodU s o) s i) else 0)=if v<s.length then z68 s o X v else 0:=by
  rw [<- z62 (fun i=>z68 s o X i) v]
  refine ze fun i hi=>?_
  show (if((i:Int)).toNat=v then flX s o X (arcS (nodU s o) s i) else 0)=_
  rw [show ((i:Int)).toNat=i by omega,yao hi]
 have e4 :(if(Arc.mk (nodU s o) (nodU s o+1) (sumC o o.length) 0).from_.toNat=v then flX s o X ⟨nodU s o,nodU s o+1,sumC o o.length,0⟩ else 0)=if v=s.length+o.length then zrm s o X else 0:=by
  show (if(nodU s o).toNat=v then _ else 0)=_
  rw [zhc,y8v]
  by_cases g:v=s.length+o.length
  ·rw [if_pos g,if_pos g.symm]
  ·rw [if_neg g,if_neg (fun q=>g q.symm)]
 simp only [e1,e2,e3,e4]
 by_cases g1:v<s.length
 ·rw [if_pos g1,if_pos g1,if_pos g1,if_neg (by omega),if_neg (by omega)]
  unfold z68; omega
 ·rw [if_neg g1,if_neg g1,if_neg g1]
  by_cases g2:v=s.length+o.length
  ·rw [if_pos g2,if_pos g2,if_pos g2]
   have :(sumN o.length fun k=>z39 s o X k)=sumC o o.length-zrm s o X:=by
    unfold z39
    rw [zbg,zmv,zog]
   omega
  ·rw [if_neg g2,if_neg g2,if_neg g2]; rfl
theorem Poss.inn (h:Poss s o b X) (v:Nat) (hv:v<s.length+o.length+2) :
  (nwOf (netN s o c b)).inS (fun j=>flX s o X (gt (z7 s o c b) (j:Int))) v=if v<s.length then 0 else if v<s.length+o.length then(gt o ((v:Int) -(s.length:Int))).count else if v=s.length+o.length then 0 else sumS s s.length:=by
 show (sumN (z7 s o c b).length fun j=>if(gt (z7 s o c b) (j:Int)).to.toNat=v then flX s o X (gt (z7 s o c b) (j:Int)) else 0)=_
 rw [y2m (fun a=>if a.to.toNat=v then flX s o X a else 0),zky]
 have t1:∀ i k:Nat,(arcQ s o c i k).to.toNat=s.length+k:=fun i k=>by show ((s.length:Int) +(k:Int)).toNat=_; omega
 have t2:∀ k:Nat,(arcO (nodU s o) (s.length:Int) o k).to.toNat=s.length+k:=fun k=>by show ((s.length:Int) +(k:Int)).toNat=_; omega
 have t3:∀ i:Nat,(arcS (nodU s o) s i).to.toNat=s.length+o.length+1:=fun i=>by show (nodU s o+1).toNat=_; unfold nodU; omega
 have t4 :(Arc.mk (nodU s o) (nodU s o+1) (sumC o o.length) 0).to.toNat=s.length+o.length+1:=by show (nodU s o+1).toNat=_; unfold nodU; omega
 simp only [t1,t2,t3]
 rw [show (if(Arc.mk (nodU s o) (nodU s o+1) (sumC o o.length) 0).to.toNat=v then flX s o X ⟨nodU s o,nodU s o+1,sumC o o.length,0⟩ else 0)=if s.length+o.length+1=v then flX s o X ⟨nodU s o,nodU s o+1,sumC o o.length,0⟩ else 0 by rw [t4]]
 by_cases g1:v<s.length
 ·rw [if_pos g1,if_neg (by omega)]
  rw [z04 fun i hi=>z04 fun k hk=>by
   split
   ·exact if_neg (by omega)
   ·rfl,z04 fun k hk=>if_neg (by omega),z04 fun i hi=>if_neg (by omega)]; rfl
 ·rw [if_neg g1]
  by_cases g2:v<s.length+o.length
  ·obtain⟨k,rfl⟩:∃ k,v=s.length+k:=⟨v-s.length,by omega⟩
   have hk:k<o.length:=by omega
   rw [if_pos g2,if_neg (by omega)]
   have e1 :(sumN s.length fun i=>sumN o.length fun k'=>if b i k'=true then(if s.length+k'=s.length+k then flX s o X (arcQ s o c i k') else 0) else 0)=sumN s.length fun i=>X i k:=by
    refine ze fun i hi=>?_
    have h1:=z62 (fun k'=>X i k') k o.length
    rw [if_pos hk] at h1
    rw [<- h1]
    refine ze fun k' hk'=>?_
    by_cases e:k'=k
    ·subst e; rw [if_pos rfl,if_pos rfl,y5e hi hk']; exact y9r (h.no i k' hi hk')
    ·rw [if_neg e]
     split
     ·exact if_neg (by omega)
     ·rfl
   have e2 :(sumN o.length fun k'=>if s.length+k'=s.length+k then flX s o X (arcO (nodU s o) (s.length:Int) o k') else 0)=z39 s o X k:=by
    have h1:=z62 (fun k'=>z39 s o X k') k o.length
    rw [if_pos hk] at h1
    rw [<- h1]
    refine ze fun k' hk'=>?_
    by_cases e:k'=k
    ·subst e; rw [if_pos rfl,if_pos rfl,y6p hk']
    ·rw [if_neg e,if_neg (by omega)]
   rw [e1,e2,z04 fun i hi=>if_neg (by omega)]
   rw [show ((s.length+k:Nat):Int) -(s.length:Int) =(k:Int) by omega]
   unfold z39; omega
  ·rw [if_neg g2]
   rw [z04 fun i hi=>z04 fun k hk=>by
   split
   ·exact if_neg (by omega)
   ·rfl,z04 fun k hk=>if_neg (by omega)]
   by_cases g3:v=s.length+o.length
   ·rw [if_pos g3,z04 fun i hi=>if_neg (by omega),if_neg (by omega)]; rfl
   ·rw [if_neg g3,if_pos (by omega),y8v]
    have :(sumN s.length fun i=>if s.length+o.length+1=v then flX s o X (arcS (nodU s o) s i) else 0)=sumS s s.length-zrm s o X:=by
     have :(sumN s.length fun i=>if s.length+o.length+1=v then flX s o X (arcS (nodU s o) s i) else 0)=sumN s.length fun i=>z68 s o X i:=ze fun i hi=>by rw [if_pos (by omega),yao hi]
     rw [this]
     unfold z68
     rw [zbg,zpc]; rfl
    omega
theorem zmg {a:Arc} (h:a∈z7 s o c b) :(∃ i k,i<s.length/\k<o.length/\b i k=true/\a=arcQ s o c i k)\/(∃ k,k<o.length/\a=arcO (nodU s o) (s.length:Int) o k)\/(∃ i,i<s.length/\a=arcS (nodU s o) s i)\/a =⟨nodU s o,nodU s o+1,sumC o o.length,0⟩:=by
 unfold z7 at h
 rcases w0h.1 h with h | h
 ·rcases w0h.1 h with h | h
  ·rcases w0h.1 h with h | h
   ·left
    unfold zlj arcR at h
    obtain⟨i,hi,h⟩:=w14.1 h
    obtain⟨k,hk,h⟩:=w14.1 h
    refine⟨i,k,w0e.1 hi,w0e.1 hk,?_⟩
    unfold arcP at h
    cases hb:b i k with
    | true=>rw [hb] at h; exact⟨rfl,w0b.1 h⟩
    | false=>rw [hb] at h; simp at h
   ·obtain⟨k,hk,h⟩:=w0a.1 h
    exact .inr (.inl ⟨k,w0e.1 hk,h.symm⟩)
  ·obtain⟨i,hi,h⟩:=w0a.1 h
   exact .inr (.inr (.inl ⟨i,w0e.1 hi,h.symm⟩))
 ·exact .inr (.inr (.inr (w0b.1 h)))
theorem zmp {n i:Nat} {f:Nat->Int} (h:∀ j,j<n->0<=f j) (hi:i<n):f i<=sumN n f:=by
 have:=y94 (f:=fun _=>0) (g:=f) (d:=f i) hi h (by simp)
 rw [z8f] at this; omega
theorem Poss.feas (h:Poss s o b X) :(nwOf (netN s o c b)).Feas (atN (supN s o)) (fun j=>flX s o X (gt (z7 s o c b) (j:Int))) where
 bnd:=fun j hj=>by
  have hj':j <(z7 s o c b).length:=hj
  show 0<=flX s o X (gt (z7 s o c b) (j:Int))/\flX s o X (gt (z7 s o c b) (j:Int))<=(gt (z7 s o c b) (j:Int)).cap
  have hm:=za5 (l:=z7 s o c b) (i:=(j:Int)) (by omega) (by omega)
  rcases zmg hm with⟨i,k,hi,hk,hb,e⟩ |⟨k,hk,e⟩ |⟨i,hi,e⟩ | e
  ·rw [e,y5e hi hk]
   have h1:=zmp (f:=fun k=>X i k) (fun k hk=>h.pos i k hi hk) hk
   have h2:=zmp (f:=fun i=>X i k) (fun i hi=>h.pos i k hi hk) hi
   have h3:=h.row i hi
   have h4:=h.col k hk
   refine⟨h.pos i k hi hk,?_⟩
   show X i k<=min2 (gt s (i:Int)).count (gt o (k:Int)).count
   unfold min2; split <;> omega
  ·rw [e,y6p hk]
   have h4:=h.col k hk
   have h5:=z3h (f:=fun i=>X i k) (n:=s.length) fun i hi=>h.pos i k hi hk
   show 0<=z39 s o X k/\z39 s o X k<=(gt o (k:Int)).count
   unfold z39; omega
  ·rw [e,yao hi]
   have h4:=h.row i hi
   have h5:=z3h (f:=fun k=>X i k) (n:=o.length) fun k hk=>h.pos i k hi hk
   show 0<=z68 s o X i/\z68 s o X i<=(gt s (i:Int)).count
   unfold z68; omega
  ·rw [e,y8v]
   show 0<=zrm s o X/\zrm s o X<=sumC o o.length
   refine⟨z3h fun i hi=>z3h fun k hk=>h.pos i k hi hk,?_⟩
   rw [zog,zmv]
   exact zis h.col
 exc:=fun v hv=>by
  have hv':v<s.length+o.length+2:=by rw [<- z85]; exact hv
  unfold Nw.exc
  rw [h.out v hv',h.inn v hv']
  by_cases g1:v<s.length
  ·rw [if_pos g1,if_pos g1,zr9 g1]; omega
  ·rw [if_neg g1,if_neg g1]
   by_cases g2:v<s.length+o.length
   ·obtain⟨k,rfl⟩:∃ k,v=s.length+k:=⟨v-s.length,by omega⟩
    rw [if_pos g2,if_neg (by omega),zth (by omega)]
    rw [show ((s.length+k:Nat):Int) -(s.length:Int) =(k:Int) by omega]; omega
   ·rw [if_neg g2]
    by_cases g3:v=s.length+o.length
    ·rw [if_pos g3,if_pos g3,g3,zw6]; omega
    ·rw [if_neg g3,if_neg g3,show v=s.length+o.length+1 by omega,zw2]; omega
theorem Poss.cost (h:Poss s o b X) :(nwOf (netN s o c b)).costS (fun j=>flX s o X (gt (z7 s o c b) (j:Int)))=zmx s o c X:=by
 show (sumN (z7 s o c b).length fun j=>flX s o X (gt (z7 s o c b) (j:Int)) *(gt (z7 s o c b) (j:Int)).cost)=_
 rw [y2m (fun a=>flX s o X a*a.cost),zky]
 unfold zmx
 have e1 :(sumN s.length fun i=>sumN o.length fun k=>if b i k=true then flX s o X (arcQ s o c i k) *(arcQ s o c i k).cost else 0)=sumN s.length fun i=>sumN o.length fun k=>X i k*c i k:=ze fun i hi=>ze fun k hk=>by
  rw [y5e hi hk]
  exact y9r fun hb=>by rw [h.no i k hi hk hb,Int.zero_mul]
 have e2 :(sumN o.length fun k=>flX s o X (arcO (nodU s o) (s.length:Int) o k) *(arcO (nodU s o) (s.length:Int) o k).cost)=sumN o.length fun k=>z39 s o X k *(gt o (k:Int)).weight:=ze fun k hk=>by rw [y6p hk]; rfl
 have e3 :(sumN s.length fun i=>flX s o X (arcS (nodU s o) s i) *(arcS (nodU s o) s i).cost)=0:=z04 fun i hi=>Int.mul_zero _
 rw [e1,e2,e3]
 show _+_+0+flX s o X _*0=_
 omega
end
end Px
end
section
namespace Px
open Go
theorem z1c (φ:Nat) (a b c:Int):zp φ a b c=some (bet a b c,()):=rfl
def zls (t:z2e):Bool:=
 bet t.load 0 1000000&&bet t.tare 0 1000000&&bet t.length 0 1000000&&bet t.brake 0 1000000&&bet t.gauge 0 7&&bet t.life 1 1073741824&&bet t.floor 0 100
def zhw (n:Int) (w:zno):Bool:=
 bet w.type_ 0 (n-1)&&bet w.owner 0 63&&bet w.home 0 511&&bet w.built 0 1073741824&&bet w.worth 0 1099511627776
def zl9 (n:Int) (s:Swap):Bool:=bet s.wanted 0 (n-1)&&bet s.given 0 (n-1)&&(s.wanted !=s.given)&&bet s.cost 0 1000000000
def zwc (w:Wash):Bool:=bet w.from_ 0 63&&bet w.to 0 63&&(w.from_ !=w.to)&&bet w.minutes 0 100000
def keyW (w:Wash):Int:=64*w.from_+w.to
def z5y (l:List Wash) (i:Nat):Bool:=zwc (gt l (i:Int))&&!(l.take i).any fun v=>keyW v==keyW (gt l (i:Int))
def z93 (l:List Wash):Bool:=(List.range l.length).all (z5y l)
def z1e (x:z49):Int:=
 bif decide (32<x.types.length)||decide (4096<x.wagons.length)||decide (1024<x.swaps.length)||decide (4096<x.washes.length) then 2 else
 bif x.types.all zls&&x.wagons.all (zhw x.types.length)&&x.swaps.all (zl9 x.types.length)&&z93 x.washes then 0 else 1
theorem zg0 (p:Nat->Bool) (i:Nat) :(List.range (i+1)).all p =((List.range i).all p&&p i):=by
 rw [w16,List.all_append]; simp
theorem zii (φ:Nat) (x:z49) (hl:x.swaps.length<=1024) (ht:x.types.length<=32) :
  ∀ n s,x.swaps.length<n->z0m φ n x.swaps (x.swaps.length:Int) 0 x s=zu φ φ x.washes (x.washes.length:Int) 0 (bif x.swaps.all (zl9 (x.types.length:Int)) then s else 1) (fun _=>default):=by
 have hp:W ((x.types.length:Int)-1) =(x.types.length:Int)-1:=W_id (by omega) (by omega)
 refine zkj (fun n i s=>z0m φ n x.swaps (x.swaps.length:Int) i x s) (fun s=>zu φ φ x.washes (x.washes.length:Int) 0 s (fun _=>default)) _ _ ?_ ?_
 ·intro n i s hi
  have hW:W ((i:Int)+1) =(i:Int)+1:=W_id (by omega) (by omega)
  rw [z0m,if_pos (by simp; omega),zb ⟨by omega,by omega⟩]
  simp only [z1c,w03,zl9,z0d,hW,hp]
  cases bet (gt x.swaps i).wanted 0 ((x.types.length:Int)-1) <;> cases bet (gt x.swaps i).given 0 ((x.types.length:Int)-1) <;> cases ((gt x.swaps i).wanted !=(gt x.swaps i).given) <;>
   cases bet (gt x.swaps i).cost 0 1000000000 <;> rfl
 ·intro n s
  rw [z0m,if_neg (by simp)]
theorem zh5 (φ:Nat) (x:z49) (hl:x.wagons.length<=4096) (ht:x.types.length<=32) :
  ∀ n s,x.wagons.length<n->z09 φ n x.wagons (x.wagons.length:Int) 0 x s=z0m φ φ x.swaps (x.swaps.length:Int) 0 x (bif x.wagons.all (zhw (x.types.length:Int)) then s else 1):=by
 have hp:W ((x.types.length:Int)-1) =(x.types.length:Int)-1:=W_id (by omega) (by omega)
 refine zkj (fun n i s=>z09 φ n x.wagons (x.wagons.length:Int) i x s) (fun s=>z0m φ φ x.swaps (x.swaps.length:Int) 0 x s) _ _ ?_ ?_
 ·intro n i s hi
  have hW:W ((i:Int)+1) =(i:Int)+1:=W_id (by omega) (by omega)
  rw [z09,if_pos (by simp; omega),zb ⟨by omega,by omega⟩]
  simp only [z1c,w03,zhw,z0d,hW,hp]
  cases bet (gt x.wagons i).type_ 0 ((x.types.length:Int)-1) <;> cases bet (gt x.wagons i).owner 0 63 <;> cases bet (gt x.wagons i).home 0 511 <;>
   cases bet (gt x.wagons i).built 0 1073741824 <;> cases bet (gt x.wagons i).worth 0 1099511627776 <;> rfl
 ·intro n s
  rw [z09,if_neg (by simp)]
theorem zk0 (φ:Nat) (k:List z2e->Int->Int->z49->Int->Option (Int×Unit)) (ts:List z2e) (len i:Int) (x:z49) (t:z2e) (n:Nat) (s:Int) (hn:4<n) :
  z1y φ k n ts len i 4 0 x s t [t.load,t.tare,t.length,t.brake]=k ts len (W (i+1)) x (bif zls t then s else 1):=by
 have h:=zkj (fun n j s=>z1y φ k n ts len i 4 j x s t [t.load,t.tare,t.length,t.brake]) (fun s=>k ts len (W (i+1)) x (bif (bet t.gauge 0 7&&bet t.life 1 1073741824&&bet t.floor 0 100) then s else 1))
  [t.load,t.tare,t.length,t.brake] (fun a=>bet a 0 1000000) (fun n j s hi=>by
   rw [z1y,if_pos (by simp at hi ⊢; omega),zb ⟨by omega,by omega⟩]
   simp at hi
   have hW:W ((j:Int)+1) =(j:Int)+1:=W_id (by omega) (by omega)
   simp only [z1c,w03,hW]
   cases bet (gt [t.load,t.tare,t.length,t.brake] (j:Int)) 0 1000000 <;> rfl) (fun n s=>by
   rw [z1y,if_neg (by simp)]
   simp only [z1c,w03,z0d]
   cases bet t.gauge 0 7 <;> cases bet t.life 1 1073741824 <;> cases bet t.floor 0 100 <;> rfl) n s hn
 rw [h]
 simp only [zls,w10,List.all_nil]
 cases bet t.load 0 1000000 <;> cases bet t.tare 0 1000000 <;> cases bet t.length 0 1000000 <;> cases bet t.brake 0 1000000 <;>
   cases bet t.gauge 0 7 <;> cases bet t.life 1 1073741824 <;> cases bet t.floor 0 100 <;> rfl
theorem zi9 (φ:Nat) (hφ:4<φ) (x:z49) (hl:x.types.length<=32) :
  ∀ n s,x.types.length<n->z3m φ n x.types (x.types.length:Int) 0 x s=z09 φ φ x.wagons (x.wagons.length:Int) 0 x (bif x.types.all zls then s else 1):=by
 refine zkj (fun n i s=>z3m φ n x.types (x.types.length:Int) i x s) (fun s=>z09 φ φ x.wagons (x.wagons.length:Int) 0 x s) _ _ ?_ ?_
 ·intro n i s hi
  rw [z3m,if_pos (by simp; omega),zb ⟨by omega,by omega⟩]
  have hW:W ((i:Int)+1) =(i:Int)+1:=W_id (by omega) (by omega)
  refine(zk0 φ _ x.types (x.types.length:Int) (i:Int) x (gt x.types i) φ s hφ).trans ?_
  rw [hW]
 ·intro n s
  rw [z3m,if_neg (by simp)]
theorem zhk (φ:Nat) (x:z49) (hl:x.washes.length<=4096) (n:Nat) (s:Int) (hn:x.washes.length<n) :
  zu φ n x.washes (x.washes.length:Int) 0 s (fun _=>default)=some (bif z93 x.washes then s else 1,()):=by
 refine z11 (fun n i (t:Int×(Nat->Bool))=>zu φ n x.washes (x.washes.length:Int) i t.1 t.2) x.washes.length
  (fun i t=>t.1 =(bif (List.range i).all (z5y x.washes) then s else 1)/\((List.range i).all (z5y x.washes)=true->∀ j:Nat,t.2 j =(x.washes.take i).any fun v=>keyW v==(j:Int)))
  (fun o=>o=some (bif z93 x.washes then s else 1,())) ?_ ?_ n (s,fun _=>false) ⟨by simp,by simp⟩ hn
 ·intro n i t hi ⟨h1,h2⟩ hs
  have hW:W ((i:Int)+1) =(i:Int)+1:=W_id (by omega) (by omega)
  rw [zu,if_pos (by simp; omega),zb ⟨by omega,by omega⟩]
  simp only [z1c,w03,z0d,hW]
  have hok:zwc (gt x.washes i) =(bet (gt x.washes i).from_ 0 63&&bet (gt x.washes i).to 0 63&&((gt x.washes i).from_ !=(gt x.washes i).to)&&bet (gt x.washes i).minutes 0 100000):=rfl
  have hsucc:=zg0 (z5y x.washes) i
  cases hw:zwc (gt x.washes i) with
  | false=>
   have hf :(List.range (i+1)).all (z5y x.washes)=false:=by rw [hsucc]; simp [z5y,hw]
   have h3:zu φ n x.washes (x.washes.length:Int) ((i:Int)+1) 1 t.2=some (bif z93 x.washes then s else 1,()):=hs (1,t.2) ⟨by rw [hf]; rfl,by rw [hf]; intro h; cases h⟩
   rw [hw] at hok
   rw [<- h3]
   generalize bet (gt x.washes i).from_ 0 63=a at *; generalize bet (gt x.washes i).to 0 63=b at *; generalize ((gt x.washes i).from_ !=(gt x.washes i).to)=c at *; generalize bet (gt x.washes i).minutes 0 100000=d at *
   cases a <;> cases b <;> cases c <;> cases d <;> first |(exact absurd hok (by decide)) | rfl
  | true=>
   rw [hw] at hok
   have hb:=hok.symm
   simp only [w02] at hb
   obtain⟨⟨⟨b1,b2⟩,b3⟩,b4⟩:=hb
   have c1:=zlw b1; have c2:=zlw b2
   simp only [b1,b2,b3,b4,Bool.and_self,if_true,w03,w18,w0k,if_false]
   rw [zb ⟨by omega,by omega⟩,zb ⟨by omega,by omega⟩]
   have hkey :((gt x.washes i).from_.toNat*64 +(gt x.washes i).to.toNat:Nat) =(keyW (gt x.washes i)).toNat:=by unfold keyW; omega
   have hk0 :((keyW (gt x.washes i)).toNat:Int)=keyW (gt x.washes i):=by unfold keyW; omega
   have key:∀ e,(e=bif (List.range (i+1)).all (z5y x.washes) then s else 1)->
     zu φ n x.washes (x.washes.length:Int) ((i:Int)+1) e (upd t.2 (keyW (gt x.washes i)).toNat true)=some (bif z93 x.washes then s else 1,()):=by
    intro e he
    refine hs (e,_) ⟨he,fun hall j=>?_⟩
    rw [hsucc,w02] at hall
    rw [zh1 _ _ _ hi,<- h2 hall.1 j]
    show (if j =(keyW (gt x.washes i)).toNat then true else t.2 j)=_
    by_cases hj:j =(keyW (gt x.washes i)).toNat
    ·simp [hj,hk0]
    ·have :(keyW (gt x.washes i)==(j:Int))=false:=by
      simp; intro h; exact hj (by omega)
     simp [hj,this]
   have e64:∀(p:Prop) [Decidable p] (y:Option (Int×Unit)),p->ck p y=y:=fun p _ y hp=>zb hp
   rw [hkey]
   simp only [e64 _ _ (show (0:Int)<=(gt x.washes i).from_/\(gt x.washes i).from_<64 by omega),e64 _ _ (show (0:Int)<=(gt x.washes i).to/\(gt x.washes i).to<64 by omega)]
   cases hall :(List.range i).all (z5y x.washes) with
   | true=>
    have hat:z5y x.washes i = !(t.2 (keyW (gt x.washes i)).toNat):=by
     rw [h2 hall]; simp only [z5y,hw,w1u,hk0]
    cases ht2:t.2 (keyW (gt x.washes i)).toNat with
    | true=>
     simp only [w18,w1v,if_true]
     refine key 1 ?_
     rw [hsucc,hat,ht2]; simp
    | false=>
     simp only [w18,w1v,w0k,if_false]
     refine key t.1 ?_
     rw [hsucc,hat,ht2,h1,hall]; simp
   | false=>
    have hf :(List.range (i+1)).all (z5y x.washes)=false:=by rw [hsucc,hall]; rfl
    have ht1:t.1=1:=by rw [h1,hall]; rfl
    rw [ht1]
    split <;> exact key 1 (by rw [hf]; rfl)
 ·intro n t ⟨h1,_⟩
  rw [zu,if_neg (by simp),h1]; rfl
theorem zby (φ:Nat) (hφ:5000<φ) (x:z49):z7n φ x=some (z1e x,()):=by
 have e :(((decide (32 <(x.types.length:Int))||decide (4096 <(x.wagons.length:Int)))||decide (1024 <(x.swaps.length:Int)))||decide (4096 <(x.washes.length:Int))) =
   (decide (32<x.types.length)||decide (4096<x.wagons.length)||decide (1024<x.swaps.length)||decide (4096<x.washes.length)):=by
  congr 1
  ·congr 1
   ·congr 1 <;>(apply decide_eq_decide.2; omega)
   ·apply decide_eq_decide.2; omega
  ·apply decide_eq_decide.2; omega
 unfold z7n z1e
 rw [e]
 cases h :(decide (32<x.types.length)||decide (4096<x.wagons.length)||decide (1024<x.swaps.length)||decide (4096<x.washes.length)) with
 | true=>rfl
 | false=>
  simp only [w0v,decide_eq_false_iff_not,Nat.not_lt] at h
  obtain⟨⟨⟨h1,h2⟩,h3⟩,h4⟩:=h
  rw [if_neg (by simp),zi9 φ (by omega) x h1 _ _ (by omega),zh5 _ _ h2 h1 _ _ (by omega),zii _ _ h3 h1 _ _ (by omega),zhk _ _ h4 _ _ (by omega)]
  cases x.types.all zls <;> cases x.wagons.all (zhw x.types.length) <;> cases x.swaps.all (zl9 x.types.length) <;> cases z93 x.washes <;> rfl
theorem z4w {x:z49} (h:z1e x=0):x.types.length<=32/\x.wagons.length<=4096/\x.swaps.length<=1024/\x.washes.length<=4096/\
  (∀ t∈x.types,zls t=true)/\(∀ t∈x.wagons,zhw x.types.length t=true)/\(∀ t∈x.swaps,zl9 x.types.length t=true)/\z93 x.washes=true:=by
 unfold z1e at h
 cases h1 :(decide (32<x.types.length)||decide (4096<x.wagons.length)||decide (1024<x.swaps.length)||decide (4096<x.washes.length)) with
 | true=>rw [h1] at h; cases h
 | false=>
  rw [h1] at h
  simp only [w0v,decide_eq_false_iff_not,Nat.not_lt] at h1
  obtain⟨⟨⟨a1,a2⟩,a3⟩,a4⟩:=h1
  cases h2 :(x.types.all zls&&x.wagons.all (zhw x.types.length)&&x.swaps.all (zl9 x.types.length)&&z93 x.washes) with
  | false=>rw [h2] at h; cases h
  | true=>
   simp only [w02,w04] at h2
   exact⟨a1,a2,a3,a4,h2.1.1.1,h2.1.1.2,h2.1.2,h2.2⟩
end Px
end
section
namespace Px
open Go
theorem z7i {c:Int} (h:0<=c) (h':c<18446744073709551616) :(BitVec.ofInt 64 c).toNat=c.toNat:=by
 rw [BitVec.toNat_ofInt]; omega
theorem y9a {n:Nat} (h:n<18446744073709551616):U (n:Int)=n:=U_id (by omega) (by omega)
theorem y8i {a b:Nat} (h:a<18446744073709551616):a&&& b<18446744073709551616:=Nat.lt_of_le_of_lt Nat.and_le_left h
theorem y6k {k:Nat} (h:k<=63) :(2 ^ k:Nat)<18446744073709551616:=w21 (Nat.pow_lt_pow_right (by decide) (by omega:k<64)) (by decide)
theorem yc9 {c k:Int} (h:0<=c) (hk:0<=k) (hk':k<=63):c.fdiv (2 ^ (min (k:Int).toNat (IntKind.bits .u64))) =((c.toNat / 2 ^ k.toNat:Nat):Int):=by
 have e:min (k:Int).toNat (IntKind.bits .u64)=k.toNat:=by simp [IntKind.bits]; omega
 rw [e]
 have e2 :((2:Int) ^ k.toNat) =((2 ^ k.toNat:Nat):Int):=by simp
 rw [e2,w1a _ (Int.natCast_nonneg _)]
 have:c =(c.toNat:Int):=by omega
 rw [this]; simp
end Px
end
section
namespace Px
open Go
set_option maxRecDepth 100000
theorem zy6 :((List.range 256).all fun i=>decide (0<=z9z zx i/\z9z zx i<=8/\i<2 ^ (z9z zx i).toNat/\(0<i->0<z9z zx i/\2 ^ ((z9z zx i).toNat-1)<=i)))=true:=by decide +kernel
theorem zlp {i:Int} (h:0<=i) (h':i<256):∃ n:Nat,z9z zx i=n/\n<=8/\i.toNat<2 ^ n/\(0<i->0<n/\2 ^ (n-1)<=i.toNat):=by
 have:=w04.1 zy6 i.toNat (by simp; omega)
 rw [decide_eq_true_eq,show ((i.toNat:Nat):Int)=i by omega] at this
 obtain⟨a,b,c,d⟩:=this
 exact⟨(z9z zx i).toNat,by omega,by omega,c,fun hi=>⟨by have:=(d (by omega)).1; omega,(d (by omega)).2⟩⟩
def z7g (v:Nat) (n:Nat):Prop:=v<2 ^ n/\(0<v->0<n/\2 ^ (n-1)<=v)
theorem z7g.up {v:Nat} (k:Nat) {n:Nat} (h:z7g (v / 2 ^ k) n) (hv:2 ^ k<=v):z7g v (n+k):=by
 have hp:=Nat.two_pow_pos k
 have hpos:0<v / 2 ^ k:=Nat.div_pos hv hp
 obtain⟨h1,h2⟩:=h
 obtain⟨h3,h4⟩:=h2 hpos
 refine⟨?_,fun _=>⟨by omega,?_⟩⟩
 ·rw [Nat.pow_add]; exact(Nat.div_lt_iff_lt_mul hp).1 h1
 ·have:n+k-1 =(n-1)+k:=by omega
  rw [this,Nat.pow_add]; exact(Nat.le_div_iff_mul_le hp).1 h4
theorem y37 (φ:Nat) (v w:Int) (h:0<=v) (h':v<256) (hw:0<=w) (hw':w<=64):∃ n:Nat,z14 φ v w=some (64 -(w+n),())/\n<=8/\z7g v.toNat n:=by
 obtain⟨n,e,hn,a,b⟩:=zlp h h'
 have e8:IntKind.wrap .u8 v=v:=by simp [IntKind.wrap,IntKind.bits,IntKind.signed]; omega
 refine⟨n,?_,hn,a,fun hv=>b (by omega)⟩
 unfold z14
 rw [e8,zb ⟨h,h'⟩,e,W_id (x:=(n:Int)) (by omega) (by omega),W_id (x:=w+n) (by omega) (by omega),W_id (by omega) (by omega)]
theorem sh8 (v:Int):v.fdiv (2 ^ (min (8:Int).toNat 64))=v / 256:=by rw [show ((2:Int) ^ (min (8:Int).toNat 64))=256 by decide]; exact w1a _ (by omega)
theorem sh16 (v:Int):v.fdiv (2 ^ (min (16:Int).toNat 64))=v / 65536:=by rw [show ((2:Int) ^ (min (16:Int).toNat 64))=65536 by decide]; exact w1a _ (by omega)
theorem sh32 (v:Int):v.fdiv (2 ^ (min (32:Int).toNat 64))=v / 4294967296:=by rw [show ((2:Int) ^ (min (32:Int).toNat 64))=4294967296 by decide]; exact w1a _ (by omega)
theorem y8s (φ:Nat) (v w:Int) (h:0<=v) (h':v<65536) (hw:0<=w) (hw':w<=48):∃ n:Nat,z1i φ v w=some (64 -(w+n),())/\n<=16/\z7g v.toNat n:=by
 unfold z1i
 by_cases c:256<=v
 ·rw [if_pos (by simpa using c),if_pos (by decide),sh8,W_id (by omega) (by omega)]
  obtain⟨n,e,hn,hl⟩:=y37 φ (v / 256) (w+8) (by omega) (by omega) (by omega) (by omega)
  refine⟨n+8,by rw [e]; congr 2; omega,by omega,?_⟩
  refine z7g.up 8 ?_ (by omega)
  rwa [show v.toNat / 2 ^ 8 =(v / 256).toNat by omega]
 ·rw [if_neg (by simpa using c)]
  obtain⟨n,e,hn,hl⟩:=y37 φ v w h (by omega) (by omega) (by omega)
  exact⟨n,e,by omega,hl⟩
theorem y8h (φ:Nat) (v w:Int) (h:0<=v) (h':v<4294967296) (hw:0<=w) (hw':w<=32):∃ n:Nat,z1h φ v w=some (64 -(w+n),())/\n<=32/\z7g v.toNat n:=by
 unfold z1h
 by_cases c:65536<=v
 ·rw [if_pos (by simpa using c),if_pos (by decide),sh16,W_id (by omega) (by omega)]
  obtain⟨n,e,hn,hl⟩:=y8s φ (v / 65536) (w+16) (by omega) (by omega) (by omega) (by omega)
  refine⟨n+16,by rw [e]; congr 2; omega,by omega,?_⟩
  refine z7g.up 16 ?_ (by omega)
  rwa [show v.toNat / 2 ^ 16 =(v / 65536).toNat by omega]
 ·rw [if_neg (by simpa using c)]
  obtain⟨n,e,hn,hl⟩:=y8s φ v w h (by omega) (by omega) (by omega)
  exact⟨n,e,by omega,hl⟩
theorem ydz (φ:Nat) (v:Int) (h:0<=v) (h':v<18446744073709551616):∃ n:Nat,z2p φ v=some (64 -(n:Int),())/\n<=64/\z7g v.toNat n:=by
 unfold z2p
 by_cases c:4294967296<=v
 ·rw [if_pos (by simpa using c),if_pos (by decide),sh32]
  obtain⟨n,e,hn,hl⟩:=y8h φ (v / 4294967296) 32 (by omega) (by omega) (by omega) (by omega)
  refine⟨n+32,by rw [e]; congr 2; omega,by omega,?_⟩
  refine z7g.up 32 ?_ (by omega)
  rwa [show v.toNat / 2 ^ 32 =(v / 4294967296).toNat by omega]
 ·rw [if_neg (by simpa using c)]
  obtain⟨n,e,hn,hl⟩:=y8h φ v 0 h (by omega) (by omega) (by omega)
  exact⟨n,by rw [e]; simp,by omega,hl⟩
theorem zmn {v:Int} (h:0<=v) (h':v<18446744073709551616):U ((BitVec.ofInt 64 v&&& BitVec.ofInt 64 4294967295).toNat)=v % 4294967296:=by
 show U ((BitVec.ofInt 64 v&&& BitVec.ofInt 64 4294967295).toNat:Int)=_
 rw [BitVec.toNat_and,z7i h h',z7i (by omega) (by omega),y9a (y8i (by omega))]
 have :(4294967295:Int).toNat=2 ^ 32-1:=by decide
 rw [this,Nat.and_two_pow_sub_one_eq_mod]
 omega
theorem zl7 {a b m n:Int} (ha:0<=a) (hb:0<=b) (h:a<=m) (h':b<=n):0<=a*b/\a*b<=m*n:=
 ⟨w1e ha hb,w2f h h' hb (by omega)⟩
theorem y4b (φ:Nat) (x y:Int) (hx:0<=x) (hx':x<18446744073709551616) (hy:0<=y) (hy':y<18446744073709551616) :
  z7o φ x y=some (x*y / 18446744073709551616,x*y % 18446744073709551616,()):=by
 unfold z7o
 simp only [show (0:Int)<=32 by decide,if_true]
 rw [zmn hx hx',zmn hy hy']
 simp only [sh32]
 have ex:x=x / 4294967296*4294967296+x % 4294967296:=by omega
 have ey:y=y / 4294967296*4294967296+y % 4294967296:=by omega
 have a1:0<=x / 4294967296/\x / 4294967296<=4294967295:=by omega
 have a0:0<=x % 4294967296/\x % 4294967296<=4294967295:=by omega
 have b1:0<=y / 4294967296/\y / 4294967296<=4294967295:=by omega
 have b0:0<=y % 4294967296/\y % 4294967296<=4294967295:=by omega
 have hxy:x*y =(x / 4294967296) *(y / 4294967296)*18446744073709551616 +((x / 4294967296) *(y % 4294967296) +(x % 4294967296) *(y / 4294967296))*4294967296 +(x % 4294967296) *(y % 4294967296):=by
  conv=>lhs; rw [ex,ey]
  generalize x / 4294967296=a; generalize x % 4294967296=b; generalize y / 4294967296=c; generalize y % 4294967296=d
  rw [Int.add_mul,w2d,w2d,Int.add_mul]
  have e1:a*4294967296 *(c*4294967296)=a*c*18446744073709551616:=by
   rw [w25,Int.mul_left_comm 4294967296 c,<- w25]; rfl
  have e2:a*4294967296*d=a*d*4294967296:=by rw [Int.mul_right_comm]
  have e3:b *(c*4294967296)=b*c*4294967296:=by rw [w25]
  rw [e1,e2,e3]; omega
 have p11:=zl7 a1.1 b1.1 a1.2 b1.2
 have p10:=zl7 a1.1 b0.1 a1.2 b0.2
 have p01:=zl7 a0.1 b1.1 a0.2 b1.2
 have p00:=zl7 a0.1 b0.1 a0.2 b0.2
 rw [y0v (x*y),hxy]
 generalize (x / 4294967296) *(y / 4294967296)=p at *; generalize (x / 4294967296) *(y % 4294967296)=q at *
 generalize (x % 4294967296) *(y / 4294967296)=r at *; generalize (x % 4294967296) *(y % 4294967296)=s at *
 clear hxy ex ey a1 a0 b1 b0
 rw [U_id (x:=p) (by omega) (by omega),U_id (x:=q) (by omega) (by omega),U_id (x:=r) (by omega) (by omega),U_id (x:=s) (by omega) (by omega)]
 rw [U_id (x:=q+s / 4294967296) (by omega) (by omega),zmn (by omega) (by omega),
  U_id (x:=(q+s / 4294967296) % 4294967296+r) (by omega) (by omega),U_id (x:=p +(q+s / 4294967296) / 4294967296) (by omega) (by omega),U_id (by omega) (by omega)]
 refine congrArg some (Prod.ext ?_ rfl)
 show _=_
 omega
theorem yda {yn1 yn0 u d q r:Int} (h1:2147483648<=yn1) (h1':yn1<4294967296) (h0:0<=yn0) (h0':yn0<4294967296) (hd:0<=d) (hd':d<4294967296) (hu:0<=u)
  (hu':u<yn1*4294967296+yn0) (hqr:q*yn1+r=u) (hr:0<=r) (hr':r<4294967296) (hq :(u*4294967296+d) /(yn1*4294967296+yn0)<=q) :
  0<=q/\q<=4294967297/\0<=(u*4294967296+d) /(yn1*4294967296+yn0)/\(u*4294967296+d) /(yn1*4294967296+yn0)<4294967296/\
  (4294967296<=q\/4294967296*r+d<q*yn0->(u*4294967296+d) /(yn1*4294967296+yn0)<=q-1)/\
  (¬(4294967296<=q\/4294967296*r+d<q*yn0)->q =(u*4294967296+d) /(yn1*4294967296+yn0))/\
  (4294967296<=q\/4294967296*r+d<q*yn0->4294967296<=r+yn1->q-1 =(u*4294967296+d) /(yn1*4294967296+yn0)):=by
 have hY:0<yn1*4294967296+yn0:=by omega
 have hQ0:0<=(u*4294967296+d) /(yn1*4294967296+yn0):=w2b (by omega) (by omega)
 have hQ1 :(u*4294967296+d) /(yn1*4294967296+yn0)<4294967296:=Int.ediv_lt_of_lt_mul hY (by omega)
 have hq0:0<=q:=by omega
 have key:q *(yn1*4294967296+yn0) =(u-r)*4294967296+q*yn0:=by
  rw [w2d,<- w25,<- hqr]; omega
 have hq2:q<=4294967297:=by
  rcases Int.lt_or_le 4294967297 q with h | h
  ·have:4294967298*yn1<=q*yn1:=Int.mul_le_mul_of_nonneg_right (by omega) (by omega)
   omega
  ·exact h
 have lt_of:∀ {z:Int},(u*4294967296+d) /(yn1*4294967296+yn0)<z↔u*4294967296+d<z *(yn1*4294967296+yn0):=fun {z}=>Int.ediv_lt_iff_lt_mul hY
 refine⟨hq0,hq2,hQ0,hQ1,fun h=>?_,fun h=>?_,fun h hr2=>?_⟩
 ·have :(u*4294967296+d) /(yn1*4294967296+yn0)<q:=by
   rcases h with h | h
   ·omega
   ·rw [lt_of,key]; omega
  omega
 ·have:¬(u*4294967296+d) /(yn1*4294967296+yn0)<q:=by rw [lt_of,key]; omega
  omega
 ·have hq1 :(u*4294967296+d) /(yn1*4294967296+yn0)<q:=by
   rcases h with h | h
   ·omega
   ·rw [lt_of,key]; omega
  have h2:¬(u*4294967296+d) /(yn1*4294967296+yn0)<q-1:=by
   rw [lt_of]
   have e :(q-1) *(yn1*4294967296+yn0) =(u -(r+yn1))*4294967296 +(q-1)*yn0:=by
    have :(q-1)*yn1 +(r+yn1)=u:=by rw [Int.sub_mul]; omega
    rw [w2d,<- w25,<- this]; omega
   have b:=(zl7 (by omega:0<=q-1) h0 (by omega:q-1<=4294967296) (by omega:yn0<=4294967295)).2
   rw [e]; omega
  omega
theorem mulB {a b:Int} (h:0<=a) (h':a<4294967296) (g:0<=b) (g':b<4294967296):0<=a*b/\a*b<=18446744065119617025:=
 zl7 h g (by omega:a<=4294967295) (by omega:b<=4294967295)
theorem zos {ρ:Type} (L:Nat->Int->Int->Option ρ) (k:Int->Option ρ) {yn1 yn0 u d:Int} (h1:2147483648<=yn1) (h1':yn1<4294967296) (h0:0<=yn0) (h0':yn0<4294967296) (hd:0<=d) (hd':d<4294967296) (hu:0<=u)
  (hu':u<yn1*4294967296+yn0)
  (step:∀ n q r,L (n+1) q r=if(decide (4294967296<=q)||decide (U (U (4294967296*r)+d)<U (q*yn0)))=true then(if decide (4294967296<=U (r+yn1))=true then k (U (q-1)) else L n (U (q-1)) (U (r+yn1))) else k q) :
  ∀(n:Nat) q r,q*yn1+r=u->0<=r->r<4294967296->(u*4294967296+d) /(yn1*4294967296+yn0)<=q->4294967296-r<=2147483648*n->L (n+1) q r=k ((u*4294967296+d) /(yn1*4294967296+yn0)):=by
 intro n
 induction n with
 | zero=>intro q r _ _ _ _ h; omega
 | succ n ih=>
  intro q r hqr hr hr' hq hn
  obtain⟨g0,g1,g2,g3,g4,g5,g6⟩:=yda h1 h1' h0 h0' hd hd' hu hu' hqr hr hr' hq
  have hc :(decide (4294967296<=q)||decide (U (U (4294967296*r)+d)<U (q*yn0)))=true↔(4294967296<=q\/4294967296*r+d<q*yn0):=by
   rw [w0q,decide_eq_true_eq,decide_eq_true_eq]
   by_cases hqB:4294967296<=q
   ·simp [hqB]
   ·have:=mulB g0 (by omega:q<4294967296) h0 h0'
    rw [U_id (x:=4294967296*r) (by omega) (by omega),U_id (by omega) (by omega),U_id (by omega) (by omega)]
  rw [step]
  by_cases c:4294967296<=q\/4294967296*r+d<q*yn0
  ·have a4:=g4 c
   rw [if_pos (hc.2 c),U_id (x:=r+yn1) (by omega) (by omega),U_id (x:=q-1) (by omega) (by omega)]
   by_cases e:4294967296<=r+yn1
   ·rw [if_pos (by simpa using e),g6 c e]
   ·rw [if_neg (by simpa using e)]
    exact ih _ _ (by rw [Int.sub_mul]; omega) (by omega) (by omega) a4 (by omega)
  ·rw [if_neg (fun h=>c (hc.1 h)),<- g5 c]
theorem zkx {yn1 yn0 u d:Int} (h1:2147483648<=yn1) (h1':yn1<4294967296) (h0:0<=yn0) (h0':yn0<4294967296) (hd:0<=d) (hd':d<4294967296) (hu:0<=u)
  (hu':u<yn1*4294967296+yn0):U (u.tdiv yn1)=u / yn1/\U (u-U (U (u.tdiv yn1)*yn1))=u % yn1/\u / yn1*yn1+u % yn1=u/\0<=u % yn1/\u % yn1<4294967296/\
  (u*4294967296+d) /(yn1*4294967296+yn0)<=u / yn1:=by
 have e1:u.tdiv yn1=u / yn1:=Int.tdiv_eq_ediv_of_nonneg hu
 have hdm:u / yn1*yn1+u % yn1=u:=by have:=w2c u yn1; exact this
 have hm0:=Int.emod_nonneg u (by omega:yn1≠0)
 have hm1:=Int.emod_lt_of_pos u (by omega:0<yn1)
 have hq0:0<=u / yn1:=w2b hu (by omega)
 have hq1:u / yn1<=u:=Int.ediv_le_self _ hu
 have hqm:0<=u / yn1*yn1:=w1e hq0 (by omega)
 rw [e1,U_id hq0 (by omega),U_id (x:=u / yn1*yn1) (by omega) (by omega),U_id (by omega) (by omega)]
 refine⟨rfl,by omega,hdm,hm0,by omega,?_⟩
 have hY:0<yn1*4294967296+yn0:=by omega
 have hQ0:0<=(u*4294967296+d) /(yn1*4294967296+yn0):=w2b (by omega) (by omega)
 have hQ:=Int.ediv_mul_le (u*4294967296+d) (b:=yn1*4294967296+yn0) (by omega)
 generalize (u*4294967296+d) /(yn1*4294967296+yn0)=z at *
 rw [w2d,<- w25] at hQ
 have:=w1e hQ0 h0
 exact(Int.le_ediv_iff_mul_le (by omega)).2 (by omega)
theorem y8q (a b c:Int):U (U (U a+b)-U c)=U (a+b-c):=by
 simp only [y0v]; omega
theorem ycl {a b:Int} {s:Nat} (hs:s<=63) (ha:0<=a) (h:a*2 ^ s<18446744073709551616) (hb:0<=b) (hb':b<2 ^ s) :
  U ((BitVec.ofInt 64 (U (a*2 ^ s))||| BitVec.ofInt 64 b).toNat)=a*2 ^ s+b:=by
 have hp :(0:Int)<2 ^ s:=Int.pow_pos (by decide)
 have hn:=w1e ha (Int.le_of_lt hp)
 have hp2 :(2:Int) ^ s =((2 ^ s:Nat):Int):=by simp
 have hlt :(2 ^ s:Nat)<18446744073709551616:=y6k hs
 rw [U_id hn (by omega)]
 show U ((BitVec.ofInt 64 (a*2 ^ s)||| BitVec.ofInt 64 b).toNat:Int)=_
 have hlt2:=(BitVec.ofInt 64 (a*2 ^ s)||| BitVec.ofInt 64 b).isLt
 rw [y9a (by omega),BitVec.toNat_or,z7i hn h,z7i hb (by omega)]
 obtain⟨n,rfl⟩:=Int.eq_ofNat_of_zero_le ha
 obtain⟨m,rfl⟩:=Int.eq_ofNat_of_zero_le hb
 have e :((n:Int)*2 ^ s).toNat=2 ^ s*n:=by rw [hp2,<- Int.natCast_mul,w1b,Nat.mul_comm]
 rw [e,w1b,<- Nat.two_pow_add_eq_or_of_lt (by rw [hp2] at hb'; omega)]
 simp [w1n]
theorem zi7 (φ:Nat) (v:Int) (h:0<v) (h':v<18446744073709551616):∃ s:Nat,z2p φ v=some ((s:Int),())/\s<=63/\
  9223372036854775808<=v*2 ^ s/\v*2 ^ s<18446744073709551616/\v<=2 ^ (64-s):=by
 obtain⟨n,e,hn,h1,h2⟩:=ydz φ v (by omega) h'
 obtain⟨h3,h4⟩:=h2 (by omega)
 refine⟨64-n,?_,by omega,?_,?_,?_⟩
 ·rw [e]; congr 2; omega
 ·have:2 ^ (n-1)*2 ^ (64-n)<=v.toNat*2 ^ (64-n):=w0p _ h4
  rw [<- Nat.pow_add,show n-1 +(64-n)=63 by omega] at this
  have e2 :((v.toNat*2 ^ (64-n):Nat):Int)=v*2 ^ (64-n):=by
   rw [Int.natCast_mul,Int.natCast_pow]; congr 1; omega
  omega
 ·have:v.toNat*2 ^ (64-n)<2 ^ n*2 ^ (64-n):=Nat.mul_lt_mul_of_pos_right h1 (Nat.two_pow_pos _)
  rw [<- Nat.pow_add,show n +(64-n)=64 by omega] at this
  have e2 :((v.toNat*2 ^ (64-n):Nat):Int)=v*2 ^ (64-n):=by
   rw [Int.natCast_mul,Int.natCast_pow]; congr 1; omega
  omega
 ·rw [show 64 -(64-n)=n by omega]
  have e2 :((2 ^ n:Nat):Int) =(2:Int) ^ n:=by simp
  omega
theorem y4k (φ:Nat) (hφ:5<φ) (hi lo y:Int) (h0:0<=hi) (hy:hi<y) (hy':y<18446744073709551616) (hl:0<=lo) (hl':lo<18446744073709551616) :
  z6b φ hi lo y=some ((hi*18446744073709551616+lo) / y,(hi*18446744073709551616+lo) % y,()):=by
 unfold z6b
 rw [if_neg (by simp; omega),if_neg (by simp; omega)]
 by_cases hz:hi=0
 ·subst hz
  rw [if_pos (by simp),zb (by omega),zb (by omega),Int.tdiv_eq_ediv_of_nonneg hl,Int.tmod_eq_emod_of_nonneg hl,U_id (w2b hl (by omega)) (by have:=Int.ediv_le_self y hl; omega)]
  simp
 rw [if_neg (by simpa using hz)]
 obtain⟨s,es,hs,hY1,hY2,hyP⟩:=zi7 φ y (by omega) hy'
 have em1:min (s:Int).toNat 64=s:=by omega
 have em2:min (64 -(s:Int)).toNat 64=64-s:=by omega
 have hp :(0:Int)<2 ^ s:=Int.pow_pos (by decide)
 have hP :(0:Int)<2 ^ (64-s):=Int.pow_pos (by decide)
 have hpP :(2:Int) ^ s*2 ^ (64-s)=18446744073709551616:=by rw [<- Int.pow_add,show s +(64-s)=64 by omega]; rfl
 have hhp:hi*2 ^ s<y*2 ^ s:=Int.mul_lt_mul_of_pos_right hy hp
 have hlP0:0<=lo / 2 ^ (64-s):=w2b hl (by omega)
 have hlP1:lo / 2 ^ (64-s)<2 ^ s:=Int.ediv_lt_of_lt_mul hP (by omega)
 have hh0:0<=hi*2 ^ s:=w1e h0 (by omega)
 -- the low word
 have hlo10:U (lo*2 ^ s)=lo % 2 ^ (64-s)*2 ^ s:=by
  have e:lo=lo / 2 ^ (64-s)*2 ^ (64-s)+lo % 2 ^ (64-s):=(w2c lo _).symm
  have e2:lo*2 ^ s=lo / 2 ^ (64-s)*18446744073709551616+lo % 2 ^ (64-s)*2 ^ s:=by
   conv=>lhs; rw [e]
   rw [Int.add_mul,w25,w1n (2 ^ (64-s)),hpP]
  have m0:=Int.emod_nonneg lo (by omega :(2:Int) ^ (64-s)≠0)
  have m1:=Int.emod_lt_of_pos lo hP
  have m2:lo % 2 ^ (64-s)*2 ^ s<2 ^ (64-s)*2 ^ s:=Int.mul_lt_mul_of_pos_right m1 hp
  have m3:=w1e m0 (Int.le_of_lt hp)
  rw [w1n (2 ^ (64-s))] at m2
  rw [e2,y0v]; omega
 have hN :(hi*2 ^ s+lo / 2 ^ (64-s))*18446744073709551616+lo % 2 ^ (64-s)*2 ^ s =(hi*18446744073709551616+lo)*2 ^ s:=by
  have e:lo=lo / 2 ^ (64-s)*2 ^ (64-s)+lo % 2 ^ (64-s):=(w2c lo _).symm
  have e2:lo*2 ^ s=lo / 2 ^ (64-s)*18446744073709551616+lo % 2 ^ (64-s)*2 ^ s:=by
   conv=>lhs; rw [e]
   rw [Int.add_mul,w25,w1n (2 ^ (64-s)),hpP]
  have e3 :(hi*18446744073709551616+lo)*2 ^ s=hi*2 ^ s*18446744073709551616+lo*2 ^ s:=by rw [Int.add_mul,Int.mul_right_comm]
  rw [e3,e2]; omega
 have hun0:0<=lo % 2 ^ (64-s)*2 ^ s:=w1e (Int.emod_nonneg lo (by omega)) (by omega)
 have hun1:lo % 2 ^ (64-s)*2 ^ s<18446744073709551616:=by
  rw [<- hlo10,y0v]; omega
 have hu':hi*2 ^ s+lo / 2 ^ (64-s)<y*2 ^ s:=by
  have :(hi+1)*2 ^ s<=y*2 ^ s:=Int.mul_le_mul_of_nonneg_right (by omega) (by omega)
  rw [Int.add_mul] at this; omega
 have hs1:U (s:Int)=s:=U_id (by omega) (by omega)
 have hs2:U (64 -(s:Int))=64 -(s:Int):=U_id (by omega) (by omega)
 have ef:lo.fdiv (2 ^ (64-s))=lo / 2 ^ (64-s):=w1a _ (by omega)
 have eor:=ycl hs h0 (by omega:hi*2 ^ s<18446744073709551616) hlP0 hlP1
 obtain⟨Y,hYd⟩:∃ Y,Y=y*2 ^ s:=⟨_,rfl⟩
 have eY:U (y*2 ^ s)=Y:=by rw [hYd]; exact U_id (by omega) (by omega)
 obtain⟨u,hud⟩:∃ u,u=hi*2 ^ s+lo / 2 ^ (64-s):=⟨_,rfl⟩
 obtain⟨w,hwd⟩:∃ w,w=lo % 2 ^ (64-s)*2 ^ s:=⟨_,rfl⟩
 rw [<- hwd] at hlo10 hN hun0 hun1
 rw [<- hud] at hN hu' eor
 rw [<- hYd] at hu' hY1 hY2 hhp
 have hu0:0<=u:=by omega
 have fY:Y.fdiv 4294967296=Y / 4294967296:=w1a _ (by omega)
 have fw:w.fdiv 4294967296=w / 4294967296:=w1a _ (by omega)
 have mY:=zmn (v:=Y) (by omega) (by omega)
 have mw:=zmn (v:=w) (by omega) (by omega)
 have b1:2147483648<=Y / 4294967296/\Y / 4294967296<4294967296/\0<=Y % 4294967296/\Y % 4294967296<4294967296:=by omega
 have b2:0<=w / 4294967296/\w / 4294967296<4294967296/\0<=w % 4294967296/\w % 4294967296<4294967296:=by omega
 have eYs:Y / 4294967296*4294967296+Y % 4294967296=Y:=by omega
 obtain⟨m,rfl⟩:∃ m,φ=m+3:=⟨φ-3,by omega⟩
 rw [es]
 simp only [w03,hs1,hs2,em1,em2,sh32,eY,hlo10,mY,mw,ef,eor,show (0:Int)<=32 by decide,if_true]
 rw [zb (by omega),zb (by omega),zb (by omega),zb (by omega),zb (by omega)]
 obtain⟨i1,i2,i3,i4,i5,i6⟩:=zkx (u:=u) (d:=w / 4294967296) b1.1 b1.2.1 b1.2.2.1 b1.2.2.2 b2.1 b2.2.1 hu0 (by omega)
 rw [i1] at i2 ⊢
 rw [i2]
 refine(zos (fun n q r=>z5r (m+3) n Y s (Y / 4294967296) (Y % 4294967296) u (w / 4294967296) (w % 4294967296) q r) (fun q=>z5q (m+3) Y s (Y / 4294967296) (Y % 4294967296) u (w / 4294967296) (w % 4294967296) q)
  b1.1 b1.2.1 b1.2.2.1 b1.2.2.2 b2.1 b2.2.1 hu0 (by omega) (fun n q r=>by rw [z5r]) (m+2) _ _ i3 i4 i5 i6 (by omega)).trans ?_
 rw [eYs]
 unfold z5q
 rw [zb (by omega)]
 have hQ1:0<=(u*4294967296+w / 4294967296) / Y/\(u*4294967296+w / 4294967296) / Y<4294967296:=⟨w2b (by omega) (by omega),Int.ediv_lt_of_lt_mul (by omega) (by omega)⟩
 have hR1:=w2c (u*4294967296+w / 4294967296) Y
 have hR1a:=Int.emod_nonneg (u*4294967296+w / 4294967296) (by omega:Y≠0)
 have hR1b:=Int.emod_lt_of_pos (u*4294967296+w / 4294967296) (by omega:0<Y)
 generalize (u*4294967296+w / 4294967296) / Y=q1 at *
 generalize (u*4294967296+w / 4294967296) % Y=r1 at *
 have eu21:U (U (U (u*4294967296)+w / 4294967296)-U (q1*Y))=r1:=by
  rw [y8q,show u*4294967296+w / 4294967296-q1*Y=r1 by omega]; exact U_id hR1a (by omega)
 rw [eu21]
 obtain⟨j1,j2,j3,j4,j5,j6⟩:=zkx (u:=r1) (d:=w % 4294967296) b1.1 b1.2.1 b1.2.2.1 b1.2.2.2 b2.2.2.1 b2.2.2.2 hR1a (by omega)
 rw [j1] at j2 ⊢
 rw [j2]
 refine(zos (fun n q r=>z5u (m+3) n Y s (Y / 4294967296) (Y % 4294967296) (w % 4294967296) q1 r r1 q) (fun q=>z5n (m+3) Y s (w % 4294967296) q1 r1 q)
  b1.1 b1.2.1 b1.2.2.1 b1.2.2.2 b2.2.2.1 b2.2.2.2 hR1a (by omega) (fun n q r=>by rw [z5u]) (m+2) _ _ j3 j4 j5 j6 (by omega)).trans ?_
 rw [eYs]
 unfold z5n
 rw [em1,zb (by omega)]
 have hQ0:0<=(r1*4294967296+w % 4294967296) / Y/\(r1*4294967296+w % 4294967296) / Y<4294967296:=⟨w2b (by omega) (by omega),Int.ediv_lt_of_lt_mul (by omega) (by omega)⟩
 have hR0:=w2c (r1*4294967296+w % 4294967296) Y
 have hR0a:=Int.emod_nonneg (r1*4294967296+w % 4294967296) (by omega:Y≠0)
 have hR0b:=Int.emod_lt_of_pos (r1*4294967296+w % 4294967296) (by omega:0<Y)
 generalize (r1*4294967296+w % 4294967296) / Y=q0 at *
 generalize (r1*4294967296+w % 4294967296) % Y=r0 at *
 rw [y8q,show r1*4294967296+w % 4294967296-q0*Y=r0 by omega,U_id (x:=r0) hR0a (by omega),U_id (x:=q1*4294967296) (by omega) (by omega),U_id (by omega) (by omega),w1a _ (by omega)]
 have hall :(hi*18446744073709551616+lo -(q1*4294967296+q0)*y)*2 ^ s=r0:=by
  rw [Int.sub_mul,<- hN,w25,<- hYd,Int.add_mul,Int.mul_right_comm]; omega
 have hz0:0<=hi*18446744073709551616+lo -(q1*4294967296+q0)*y:=by
  rcases Int.lt_or_le (hi*18446744073709551616+lo -(q1*4294967296+q0)*y) 0 with h | h
  ·have:=Int.mul_neg_of_neg_of_pos h hp; omega
  ·exact h
 have hz1:hi*18446744073709551616+lo -(q1*4294967296+q0)*y<y:=by
  refine Int.lt_of_mul_lt_mul_right (a:=2 ^ s) ?_ (by omega)
  rw [hall,<- hYd]; exact hR0b
 have hr0:r0 / 2 ^ s=hi*18446744073709551616+lo -(q1*4294967296+q0)*y:=by
  rw [<- hall]; exact Int.mul_ediv_cancel _ (by omega)
 have hdm :(hi*18446744073709551616+lo) / y=q1*4294967296+q0/\(hi*18446744073709551616+lo) % y=hi*18446744073709551616+lo -(q1*4294967296+q0)*y:=
  (Int.ediv_emod_unique (by omega)).2 ⟨by rw [w1n y]; omega,hz0,hz1⟩
 rw [hr0,hdm.1,hdm.2]
end Px
end
section
namespace Px
open Go
set_option maxRecDepth 100000
def PP:Nat:=2305843009213690799
def QQ:Nat:=1152921504606845399
def pw (b n:Nat):Nat:=b ^ n % PP
theorem y2r (b n:Nat):pw b n<PP:=Nat.mod_lt _ (by decide)
theorem yay (b:Nat):pw b 0=1:=by simp [pw,PP]
theorem y7w (b m n:Nat):pw b m*pw b n % PP=pw b (m+n):=by
 unfold pw; rw [Nat.pow_add,<- Nat.mul_mod]
theorem ydq (b:Nat):pw b 1=b % PP:=by simp [pw]
theorem ydi {a:Nat} (h:a<PP) :((a:Int)).tmod 2305843009213690799 =(a:Int):=by
 unfold PP at h
 rw [Int.tmod_eq_emod_of_nonneg (by omega)]; omega
theorem ych (b:Nat) :((b:Int)).tmod 2305843009213690799 =((b % PP:Nat):Int):=by
 rw [Int.tmod_eq_emod_of_nonneg (by omega)]; unfold PP; omega
theorem y3k {ρ:Type} {a b:Nat} (ha:a<PP) (hb:b<PP) (φ:Nat) (hφ:5<φ) (K:Int->Option ρ) :((z7o φ (a:Int) (b:Int)).bind fun y=>(z6b φ y.1 y.2.1 2305843009213690799).bind fun z=>K z.2.1)=K ((a*b % PP:Nat):Int):=by
 have ha' :(a:Int)<2305843009213690799:=by unfold PP at ha; omega
 have hb' :(b:Int)<2305843009213690799:=by unfold PP at hb; omega
 have hp:=zl7 (by omega:0<=(a:Int)) (by omega:0<=(b:Int)) (by omega :(a:Int)<=2305843009213690798) (by omega :(b:Int)<=2305843009213690798)
 rw [y4b φ _ _ (by omega) (by omega) (by omega) (by omega),w03]
 generalize hz :(a:Int) *(b:Int)=z at *
 show (z6b φ (z / 18446744073709551616) (z % 18446744073709551616) 2305843009213690799).bind _=_
 rw [y4k φ hφ _ _ _ (by omega) (by omega) (by omega) (by omega) (by omega),w03]
 congr 1
 have:z / 18446744073709551616*18446744073709551616+z % 18446744073709551616=z:=by omega
 show (z / 18446744073709551616*18446744073709551616+z % 18446744073709551616) % 2305843009213690799=_
 rw [this,<- hz,Int.natCast_emod,Int.natCast_mul]; rfl
theorem z7g.uniq {v m n:Nat} (hv:0<v) (h:z7g v m) (k:z7g v n):m=n:=by
 obtain⟨h1,h2⟩:=h
 obtain⟨k1,k2⟩:=k
 obtain⟨h3,h4⟩:=h2 hv
 obtain⟨k3,k4⟩:=k2 hv
 have a:m-1<n:=(Nat.pow_lt_pow_iff_right (by decide:1<2)).1 (Nat.lt_of_le_of_lt h4 k1)
 have b:n-1<m:=(Nat.pow_lt_pow_iff_right (by decide:1<2)).1 (Nat.lt_of_le_of_lt k4 h1)
 omega
section first
variable (φ:Nat) (b n a p:Int)
theorem y1a (v w:Int) (h:0<=v) (h':v<256) (hw:0<=w) (hw':w<=64):∃ m:Nat,z8c φ v w b n a p=z0g φ φ b n a (w+m) 0 p/\m<=8/\z7g v.toNat m:=by
 obtain⟨m,e,hm,x,y⟩:=zlp h h'
 have e8:IntKind.wrap .u8 v=v:=by simp [IntKind.wrap,IntKind.bits,IntKind.signed]; omega
 refine⟨m,?_,hm,x,fun hv=>y (by omega)⟩
 unfold z8c
 rw [e8,zb ⟨h,h'⟩,e,W_id (x:=(m:Int)) (by omega) (by omega),W_id (x:=w+m) (by omega) (by omega)]
theorem y0s (v w:Int) (h:0<=v) (h':v<65536) (hw:0<=w) (hw':w<=48):∃ m:Nat,z8h φ v w b n a p=z0g φ φ b n a (w+m) 0 p/\m<=16/\z7g v.toNat m:=by
 unfold z8h
 by_cases c:256<=v
 ·rw [if_pos (by simpa using c),if_pos (by decide),sh8,W_id (by omega) (by omega)]
  obtain⟨m,e,hn,hl⟩:=y1a φ b n a p (v / 256) (w+8) (by omega) (by omega) (by omega) (by omega)
  refine⟨m+8,by rw [e]; congr 1; omega,by omega,?_⟩
  refine z7g.up 8 ?_ (by omega)
  rwa [show v.toNat / 2 ^ 8 =(v / 256).toNat by omega]
 ·rw [if_neg (by simpa using c)]
  obtain⟨m,e,hn,hl⟩:=y1a φ b n a p v w h (by omega) (by omega) (by omega)
  exact⟨m,e,by omega,hl⟩
theorem y84 (v w:Int) (h:0<=v) (h':v<4294967296) (hw:0<=w) (hw':w<=32):∃ m:Nat,zay φ v w b n a p=z0g φ φ b n a (w+m) 0 p/\m<=32/\z7g v.toNat m:=by
 unfold zay
 by_cases c:65536<=v
 ·rw [if_pos (by simpa using c),if_pos (by decide),sh16,W_id (by omega) (by omega)]
  obtain⟨m,e,hn,hl⟩:=y0s φ b n a p (v / 65536) (w+16) (by omega) (by omega) (by omega) (by omega)
  refine⟨m+16,by rw [e]; congr 1; omega,by omega,?_⟩
  refine z7g.up 16 ?_ (by omega)
  rwa [show v.toNat / 2 ^ 16 =(v / 65536).toNat by omega]
 ·rw [if_neg (by simpa using c)]
  obtain⟨m,e,hn,hl⟩:=y0s φ b n a p v w h (by omega) (by omega) (by omega)
  exact⟨m,e,by omega,hl⟩
end first
def zhz (φ:Nat) (k:Int->Int->Int->Int->Int->Int->Option (Int×Unit)) (L x57 x58 x59 x60 x61 x62 x63 x64:Int):Option (Int×Unit):=
 ck (0<=(W ((W (L-1))-x60))) (if(((U ((BitVec.ofInt 64 ((x63:Int).fdiv (2 ^ (min ((W ((W (L-1))-x60)):Int).toNat 64)))&&& BitVec.ofInt 64 1).toNat)):Int)==1)=true then(ck (x64≠0) (ck (x64≠0) ((z7o φ ((x59:Int).tmod x64) ((x57:Int).tmod x64)).bind fun y66=>((z6b φ y66.1 y66.2.1 x64).bind fun y67=>(k x57 x58 y67.2.1 x61 (W (x62+1)) x64))))) else(k x57 x58 x59 x61 (W (x62+1)) x64))
section second
variable (φ:Nat) (k:Int->Int->Int->Int->Int->Int->Option (Int×Unit)) (x57 x58 x59 x60 x61 x62 x63 x64:Int)
theorem zzv (v w:Int) (h:0<=v) (h':v<256) (hw:0<=w) (hw':w<=64):∃ m:Nat,z8i φ k v w x57 x58 x59 x60 x61 x62 x63 x64=zhz φ k (w+m) x57 x58 x59 x60 x61 x62 x63 x64/\m<=8/\z7g v.toNat m:=by
 obtain⟨m,e,hm,x,y⟩:=zlp h h'
 have e8:IntKind.wrap .u8 v=v:=by simp [IntKind.wrap,IntKind.bits,IntKind.signed]; omega
 refine⟨m,?_,hm,x,fun hv=>y (by omega)⟩
 unfold z8i zhz
 rw [e8,zb ⟨h,h'⟩,e,W_id (x:=(m:Int)) (by omega) (by omega),W_id (x:=w+m) (by omega) (by omega)]
theorem y0w (v w:Int) (h:0<=v) (h':v<65536) (hw:0<=w) (hw':w<=48):∃ m:Nat,z8e φ k v w x57 x58 x59 x60 x61 x62 x63 x64=zhz φ k (w+m) x57 x58 x59 x60 x61 x62 x63 x64/\m<=16/\z7g v.toNat m:=by
 unfold z8e
 by_cases c:256<=v
 ·rw [if_pos (by simpa using c),if_pos (by decide),sh8,W_id (by omega) (by omega)]
  obtain⟨m,e,hn,hl⟩:=zzv φ k x57 x58 x59 x60 x61 x62 x63 x64 (v / 256) (w+8) (by omega) (by omega) (by omega) (by omega)
  refine⟨m+8,by rw [e]; congr 1; omega,by omega,?_⟩
  refine z7g.up 8 ?_ (by omega)
  rwa [show v.toNat / 2 ^ 8 =(v / 256).toNat by omega]
 ·rw [if_neg (by simpa using c)]
  obtain⟨m,e,hn,hl⟩:=zzv φ k x57 x58 x59 x60 x61 x62 x63 x64 v w h (by omega) (by omega) (by omega)
  exact⟨m,e,by omega,hl⟩
theorem zzn (v w:Int) (h:0<=v) (h':v<4294967296) (hw:0<=w) (hw':w<=32):∃ m:Nat,z3f φ k v w x57 x58 x59 x60 x61 x62 x63 x64=zhz φ k (w+m) x57 x58 x59 x60 x61 x62 x63 x64/\m<=32/\z7g v.toNat m:=by
 unfold z3f
 by_cases c:65536<=v
 ·rw [if_pos (by simpa using c),if_pos (by decide),sh16,W_id (by omega) (by omega)]
  obtain⟨m,e,hn,hl⟩:=y0w φ k x57 x58 x59 x60 x61 x62 x63 x64 (v / 65536) (w+16) (by omega) (by omega) (by omega) (by omega)
  refine⟨m+16,by rw [e]; congr 1; omega,by omega,?_⟩
  refine z7g.up 16 ?_ (by omega)
  rwa [show v.toNat / 2 ^ 16 =(v / 65536).toNat by omega]
 ·rw [if_neg (by simpa using c)]
  obtain⟨m,e,hn,hl⟩:=y0w φ k x57 x58 x59 x60 x61 x62 x63 x64 v w h (by omega) (by omega) (by omega)
  exact⟨m,e,by omega,hl⟩
theorem yc7 (v:Int) (h:0<=v) (h':v<18446744073709551616):∃ m:Nat,(if(decide ((4294967296:Int)<=v))=true then(if 0<=(32:Int) then(z3f φ k (((v:Int).fdiv (2 ^ (min (32:Int).toNat 64)))) 32 x57 x58 x59 x60 x61 x62 x63 x64) else none) else(z3f φ k v 0 x57 x58 x59 x60 x61 x62 x63 x64)) =
  zhz φ k m x57 x58 x59 x60 x61 x62 x63 x64/\m<=64/\z7g v.toNat m:=by
 by_cases c:4294967296<=v
 ·rw [if_pos (by simpa using c),if_pos (by decide),sh32]
  obtain⟨m,e,hn,hl⟩:=zzn φ k x57 x58 x59 x60 x61 x62 x63 x64 (v / 4294967296) 32 (by omega) (by omega) (by omega) (by omega)
  refine⟨m+32,by rw [e]; congr 1; omega,by omega,?_⟩
  refine z7g.up 32 ?_ (by omega)
  rwa [show v.toNat / 2 ^ 32 =(v / 4294967296).toNat by omega]
 ·rw [if_neg (by simpa using c)]
  obtain⟨m,e,hn,hl⟩:=zzn φ k x57 x58 x59 x60 x61 x62 x63 x64 v 0 h (by omega) (by omega) (by omega)
  exact⟨m,by rw [e]; simp,by omega,hl⟩
end second
theorem zty (φ:Nat) (hφ:100<φ) (b n:Nat) (hn0:0<n) (hn:n<18446744073709551616):zhg φ (b:Int) (n:Int)=some (((pw b n:Nat):Int),()):=by
 have hstart:∃ L:Nat,zhg φ (b:Int) (n:Int)=z0g φ φ b n 1 L 0 2305843009213690799/\L<=64/\z7g n L:=by
  unfold zhg
  by_cases c :(4294967296:Int)<=n
  ·rw [if_pos (by simpa using c),if_pos (by decide),sh32]
   obtain⟨m,e,hm,hl⟩:=y84 φ b n 1 2305843009213690799 ((n:Int) / 4294967296) 32 (by omega) (by omega) (by omega) (by omega)
   refine⟨m+32,by rw [e]; congr 1; omega,by omega,?_⟩
   refine z7g.up 32 ?_ (by omega)
   rwa [show n / 2 ^ 32 =((n:Int) / 4294967296).toNat by omega]
  ·rw [if_neg (by simpa using c)]
   obtain⟨m,e,hm,hl⟩:=y84 φ b n 1 2305843009213690799 (n:Int) 0 (by omega) (by omega) (by omega) (by omega)
   exact⟨m,by rw [e]; simp,by omega,by rwa [w1b] at hl⟩
 obtain⟨L,e0,hL,hlen⟩:=hstart
 rw [e0]
 obtain⟨h1,h2⟩:=hlen
 refine z11 (fun k i v=>z0g φ k (b:Int) (n:Int) v (L:Int) i 2305843009213690799) L (fun i v=>v =((pw b (n / 2 ^ (L-i)):Nat):Int)) (fun o=>o=some (((pw b n:Nat):Int),())) ?_ ?_ φ 1 ?_ (by omega)
 ·intro k i v hi hv hs
  rw [z0g,if_pos (by simp; omega),zb (by decide),zb (by decide)]
  subst hv
  rw [ydi (y2r _ _)]
  refine(y3k (y2r _ _) (y2r _ _) φ (by omega) (fun z=>(if(decide ((4294967296:Int)<=(n:Int)))=true then(if 0<=(32:Int) then(z3f φ (z0g φ k) ((((n:Int):Int).fdiv (2 ^ (min (32:Int).toNat 64)))) 32 b n z i L i n 2305843009213690799) else none) else(z3f φ (z0g φ k) n 0 b n z i L i n 2305843009213690799)))).trans ?_
  rw [y7w]
  obtain⟨m,em,hm,hl⟩:=yc7 φ (z0g φ k) b n ((pw b (n / 2 ^ (L-i)+n / 2 ^ (L-i)):Nat):Int) i L i n 2305843009213690799 (n:Int) (by omega) (by omega)
  refine em.trans ?_
  rw [w1b] at hl
  have:=z7g.uniq hn0 hl ⟨h1,h2⟩
  subst this
  unfold zhz
  have hw1:W ((m:Int)-1) =(m:Int)-1:=W_id (by omega) (by omega)
  have hw2:W ((m:Int)-1 -(i:Int)) =((m-1-i:Nat):Int):=by rw [W_id (by omega) (by omega)]; omega
  rw [hw1,hw2,zb (by omega)]
  have hsh:=yc9 (c:=(n:Int)) (k:=((m-1-i:Nat):Int)) (by omega) (by omega) (by omega)
  have hone:U ((BitVec.ofInt 64 ((n:Int).fdiv (2 ^ (min (((m-1-i:Nat):Int)).toNat 64)))&&& BitVec.ofInt 64 1).toNat) =((n / 2 ^ (m-1-i) % 2:Nat):Int):=by
   rw [show ((n:Int).fdiv (2 ^ (min (((m-1-i:Nat):Int)).toNat 64)))=_ from hsh,w1b,w1b]
   have hd:n / 2 ^ (m-1-i)<=n:=Nat.div_le_self _ _
   rw [BitVec.toNat_and,z7i (Int.natCast_nonneg _) (by omega),z7i (by omega) (by omega),y9a (y8i (by omega)),w1b]
   show ((n / 2 ^ (m-1-i)&&& 1:Nat):Int)=_
   rw [Nat.and_one_is_mod]
  rw [hone]
  have hhalf:n / 2 ^ (m-i)=n / 2 ^ (m-1-i) / 2:=by
   rw [Nat.div_div_eq_div_mul,<- Nat.pow_succ]; congr 2; omega
  have hidx:m -(i+1)=m-1-i:=by omega
  have hW:W ((i:Int)+1) =(i:Int)+1:=W_id (by omega) (by omega)
  have hbit:=Nat.mod_two_eq_zero_or_one (n / 2 ^ (m-1-i))
  rcases hbit with hbit | hbit
  ·rw [hbit,if_neg (by simp),hW]
   refine hs _ ?_
   rw [hidx,hhalf]; congr 2; omega
  ·rw [hbit,if_pos (by simp),ydi (y2r _ _),ych,zb (by decide),zb (by decide),hW]
   refine(y3k (y2r _ _) (Nat.mod_lt b (by decide:0<PP)) φ (by omega) (fun z=>z0g φ k b n z m ((i:Int)+1) 2305843009213690799)).trans ?_
   refine hs _ ?_
   rw [<- ydq b,y7w,hidx,hhalf]; congr 2; omega
 ·intro k v hv
  rw [z0g,if_neg (by simp),hv]
  rw [Nat.sub_self,Nat.pow_zero,Nat.div_one]
 ·rw [w2h,Nat.div_eq_of_lt h1,yay]; rfl
def yab (x:Int):Bool:=decide (2<=x)&&decide (x<2305843009213690799)&&(pw x.toNat QQ==1)
theorem zv2 (a:Nat) :(((a:Nat):Int)==1) =(a==1):=by
 rw [Bool.eq_iff_iff,beq_iff_eq,beq_iff_eq]; omega
theorem zpd (φ:Nat) (hφ:100<φ) (x:Int):zfe φ x=some (yab x,()):=by
 unfold zfe yab z0d
 cases h:decide (2<=x)&&decide (x<2305843009213690799) with
 | false=>rw [if_neg (by simp),w03]; simp only [Bool.false_and]
 | true=>
  simp only [w02,decide_eq_true_eq] at h
  have:=zty φ hφ x.toNat QQ (by decide) (by decide)
  rw [show ((x.toNat:Nat):Int)=x by omega,show ((QQ:Nat):Int)=1152921504606845399 by decide] at this
  rw [if_pos rfl,this,w03,w1u,w1u]
  show some ((((pw x.toNat QQ:Nat):Int)==1),())=_
  rw [zv2]
end Px
end
section
namespace Px
open Go
theorem gz_t {α:Type} {z:α} {p:Prop} [Decidable p] {x:Option α} (h:p):z0d z p x=x:=if_pos h
theorem gz_f {α:Type} {z:α} {p:Prop} [Decidable p] {x:Option α} (h:¬ p):z0d z p x=some z:=if_neg h
def ze8 (p:ze7):Bool:=bet p.kind 1 5&&bet p.railway 0 15&&(bif p.kind==3 then bet p.other 0 15&&(p.other !=p.railway) else p.other==(-1))
def zed (n:Int) (e:Edge):Bool:=bet e.a 0 (n-1)&&bet e.b 0 (n-1)&&(e.a !=e.b)&&bet e.railway 0 15&&bet e.minutes 1 100000&&bet e.km 0 10000
def za4 (x:zy):Int:=bif decide (512<x.places.length)||decide (2048<x.edges.length) then 2 else bif x.places.all ze8&&x.edges.all (zed x.places.length) then 0 else 1
theorem zk3 (φ:Nat) (p:ze7):z9c φ p=some (ze8 p,()):=by
 have hb :(((decide (p.kind<1)||decide (5<p.kind))||decide (p.railway<0))||decide (16<=p.railway)) = !(bet p.kind 1 5&&bet p.railway 0 15):=by
  rw [Bool.eq_iff_iff]; simp [bet]; omega
 unfold z9c ze8
 rw [hb]
 cases bet p.kind 1 5&&bet p.railway 0 15 with
 | false=>rfl
 | true=>
  rw [if_neg (by simp)]
  by_cases h:p.kind=3
  ·have :(decide (0<=p.other)&&decide (p.other<16))=bet p.other 0 15:=by rw [Bool.eq_iff_iff]; simp [bet]; omega
   rw [if_neg (by simp [h]),this]; simp [h]
  ·have h2 :(p.kind==3)=false:=by simpa using h
   rw [if_pos (by simp [h]),h2]; rfl
theorem y0y (n:Int) (e:Edge) :((((((decide ((min2 (min2 (min2 (e.a) (e.b)) (e.railway)) (e.km))<0)||decide (n<=(max2 (e.a) (e.b))))||(e.a==e.b))||decide (16<=e.railway))||decide (e.minutes<1))||decide (100000<e.minutes))||decide (10000<e.km)) = !zed n e:=by
 have hm:∀ x y z:Int,z<=max2 x y↔z<=x\/z<=y:=by intro x y z; unfold max2; split <;> omega
 have hok:zed n e=true↔((((((0<=e.a/\e.a<=n-1)/\0<=e.b/\e.b<=n-1)/\¬ e.a=e.b)/\0<=e.railway/\e.railway<=15)/\1<=e.minutes/\e.minutes<=100000)/\0<=e.km/\e.km<=10000):=by
  simp only [zed,w02,z64,bne_iff_ne,ne_eq]
 rw [Bool.eq_iff_iff,w0o,<- Bool.not_eq_true,hok]
 simp only [w0q,decide_eq_true_eq,yb3,hm,beq_iff_eq]
 omega
theorem y7g (x:zy) :(decide (512 <(x.places.length:Int))||decide (2048 <(x.edges.length:Int))) =(decide (512<x.places.length)||decide (2048<x.edges.length)):=by
 congr 1 <;>(apply decide_eq_decide.2; omega)
theorem zds (φ:Nat) (hφ:5000<φ) (x:zy):z6v φ x=some (za4 x,()):=by
 unfold z6v za4
 rw [y7g]
 cases h:decide (512<x.places.length)||decide (2048<x.edges.length) with
 | true=>rfl
 | false=>
  simp only [w0v,decide_eq_false_iff_not,Nat.not_lt] at h
  rw [if_neg (by simp),zw9 (fun n i=>z34 φ n (x.places.length:Int) x.places (x.places.length:Int) i x) (z1m φ φ (x.places.length:Int) x.edges (x.edges.length:Int) 0) (some (1,())) x.places (fun t=>!ze8 t) ?_ ?_ φ (by omega)]
  ·rw [zw9 (fun n i=>z1m φ n (x.places.length:Int) x.edges (x.edges.length:Int) i) (some (0,())) (some (1,())) x.edges (fun t=>!zed x.places.length t) ?_ ?_ φ (by omega)]
   ·simp only [List.any_eq_not_all_not,Bool.not_not]
    cases x.places.all ze8 <;> cases x.edges.all (zed x.places.length) <;> rfl
   ·intro n i hi
    rw [z1m,if_pos (by simp; omega),zb ⟨by omega,by omega⟩,y0y,W_id (by omega) (by omega)]
    cases zed x.places.length (gt x.edges i) <;> rfl
   ·intro n; rw [z1m,if_neg (by simp)]
  ·intro n i hi
   rw [z34,if_pos (by simp; omega),zb ⟨by omega,by omega⟩,zk3,w03,W_id (by omega) (by omega)]
   cases ze8 (gt x.places i) <;> rfl
  ·intro n; rw [z34,if_neg (by simp)]
theorem zn5 {x:zy} (h:za4 x=0):x.places.length<=512/\x.edges.length<=2048/\(∀ p∈x.places,ze8 p=true)/\∀ e∈x.edges,zed x.places.length e=true:=by
 unfold za4 at h
 cases h1:decide (512<x.places.length)||decide (2048<x.edges.length) with
 | true=>rw [h1] at h; cases h
 | false=>
  rw [h1] at h
  cases h2:x.places.all ze8&&x.edges.all (zed x.places.length) with
  | false=>rw [h2] at h; cases h
  | true=>
   simp only [w0v,decide_eq_false_iff_not,Nat.not_lt] at h1
   simp only [w02,w04] at h2
   exact⟨h1.1,h1.2,h2⟩
def y06:Int->List Int->Bool
 | _,[]=>true
 | p,h::t=>decide (p<h)&&decide (h<=745654)&&y06 h t
def zoi (s:Span):Bool:=decide (0<=s.from_)&&decide (s.from_<=s.to)&&decide (s.to<=1440)
def zv4 (c:z8a):Bool:=((List.range 7).all fun i=>zoi (c.open_ i))&&y06 (-1) c.holidays
theorem ybh (φ:Nat) (c:z8a):∀(n i:Nat) (p:Int),-1<=p->(i:Int)<=p+1->p<=745654->i<=c.holidays.length->745656<=(n:Int)+p->z29 φ n p c.holidays (c.holidays.length:Int) i=some (bif y06 p (c.holidays.drop i) then 0 else 1,()):=by
 intro n
 induction n with
 | zero=>intro i p _ _ _ _ _; omega
 | succ n ih=>
  intro i p hp hip hp2 hi hn
  by_cases h:i=c.holidays.length
  ·rw [h,z29,if_neg (by simp),List.drop_length]; rfl
  ·rw [z29,if_pos (by simp; omega),zb ⟨by omega,by omega⟩,yai _ _ (by omega)]
   by_cases hb:gt c.holidays i<=p\/745654<gt c.holidays i
   ·have :(decide (p<gt c.holidays i)&&decide (gt c.holidays i<=745654))=false:=by simp; omega
    rw [if_pos (by simpa using hb)]
    simp [y06,this]
   ·have h2 :(decide (p<gt c.holidays i)&&decide (gt c.holidays i<=745654))=true:=by simp; omega
    rw [if_neg (by simpa using hb),W_id (by omega) (by omega)]
    have:=ih (i+1) (gt c.holidays i) (by omega) (by omega) (by omega) (by omega) (by omega)
    rw [show ((i+1:Nat):Int) =(i:Int)+1 by omega] at this
    rw [this]
    simp [y06,h2]
theorem zqq (s:Span) :((decide (s.from_<0)||decide (s.to<s.from_))||decide (1440<s.to)) = !zoi s:=by
 rw [Bool.eq_iff_iff]; simp [zoi]
 try omega
theorem zid (φ:Nat) (hφ:800000<φ) (c:z8a):z82 φ c=some (bif zv4 c then 0 else 1,()):=by
 unfold z82
 refine z11 (fun n i (_:Unit)=>z2l φ n c.open_ i c) 7 (fun i _=>((List.range i).all fun j=>zoi (c.open_ j))=true) (fun o=>o=some (bif zv4 c then 0 else 1,())) ?_ ?_ φ () (by simp) (by omega)
 ·intro n i _ hi h hs
  rw [z2l,if_pos (by simp; omega),zb ⟨by omega,by omega⟩,w1b,zqq,W_id (by omega) (by omega)]
  cases ho:zoi (c.open_ i) with
  | true=>
   rw [if_neg (by simp)]
   exact hs () (by rw [zg0,h,ho]; rfl)
  | false=>
   have:zv4 c=false:=by
    unfold zv4
    have :((List.range 7).all fun j=>zoi (c.open_ j))=false:=by
     rw [List.all_eq_false]; exact⟨i,by simp; omega,by simp [ho]⟩
    rw [this]; rfl
   rw [if_pos (by simp),this]; rfl
 ·intro n _ h
  rw [z2l,if_neg (by simp)]
  unfold zv4
  rw [h,w1u]
  have:=ybh φ c φ 0 (-1) (by omega) (by omega) (by omega) (by omega) (by omega)
  simpa using this
theorem zig {α ρ:Type} [Inhabited α] (L:Nat->Bool->Int->Option ρ) (k:Bool->Option ρ) (l:List α) (p:α->Bool)
  (step:∀(n i:Nat) (s:Bool),i<l.length->L (n+1) s i=L n (s||p (gt l i)) ((i:Int)+1)) (done:∀ n s,L (n+1) s l.length=k s) (n:Nat) (s:Bool) (hn:l.length<n):L n s 0=k (s||l.any p):=by
 refine z11 (fun n i t=>L n t i) l.length (fun i t=>t =(s||(l.take i).any p)) (fun o=>o=k (s||l.any p)) ?_ ?_ n s (by simp) hn
 ·intro n i t hi ht hs
  rw [step n i t hi]
  exact hs _ (by rw [zh1 _ _ _ hi,ht,Bool.or_assoc])
 ·intro n t ht
  rw [w1l] at ht
  rw [done,ht]
def zmd (n:Int) (r:zgn):Bool:=(((!bet r.place 0 (n-1))||decide (r.low <(-1000)))||decide (r.high<r.low))||decide (1000<r.high)
def zhx (x:zy) (s:zde):Bool:=(!bet s.place 0 ((x.places.length:Int)-1))||((gt x.places s.place).kind !=4)
def zus (r:z4c):Bool:=!zv4 r.calendar||!yab r.key
def zlq (x:Pool):Bool:=
 ((((((x.railways.length:Int)==0)||x.readers.any (zmd x.network.places.length))||x.shippers.any (zhx x.network))||x.fleet.wagons.any (fun w=>decide ((x.network.places.length:Int)<=w.home)))||
 x.network.places.any (fun p=>decide ((x.railways.length:Int)<=p.railway)||decide ((x.railways.length:Int)<=p.other)))||x.network.edges.any (fun e=>decide ((x.railways.length:Int)<=e.railway))||x.railways.any zus
def zix (x:Pool):Bool:=(decide (256 <(x.readers.length:Int))||decide (256 <(x.shippers.length:Int)))||decide (16 <(x.railways.length:Int))
def z7y (x:Pool):Int:=if za4 x.network≠0 then za4 x.network else if z1e x.fleet≠0 then z1e x.fleet else bif zix x then 2 else bif zlq x then 1 else 0
theorem zb5 (φ:Nat) (hφ:800000<φ) (x:Pool):z13 φ x=some (z7y x,()):=by
 unfold z13 z7y
 rw [zds _ (by omega),w03]
 by_cases hn:za4 x.network=0
 case neg=>rw [if_pos (by simp [hn]),if_pos hn]
 rw [if_neg (by simp [hn]),if_neg (fun e:za4 x.network≠0=>e hn),zby _ (by omega),w03]
 by_cases hf:z1e x.fleet=0
 case neg=>rw [if_pos (by simp [hf]),if_pos hf]
 rw [if_neg (by simp [hf]),if_neg (fun e:z1e x.fleet≠0=>e hf)]
 cases hb:zix x with
 | true=>
  have e :(((decide (256 <(x.readers.length:Int))||decide (256 <(x.shippers.length:Int)))||decide (16 <(x.railways.length:Int))))=zix x:=rfl
  rw [e,hb]; rfl
 | false=>
  have hb':¬(((decide (256 <(x.readers.length:Int))||decide (256 <(x.shippers.length:Int)))||decide (16 <(x.railways.length:Int)))=true):=by
   rw [show (((decide (256 <(x.readers.length:Int))||decide (256 <(x.shippers.length:Int)))||decide (16 <(x.railways.length:Int))))=zix x from rfl,hb]; simp
  rw [if_neg hb']
  simp only [w0q,decide_eq_true_eq,not_or] at hb'
  obtain⟨n1,n2,_,_⟩:=zn5 hn
  obtain⟨f1,f2,_⟩:=z4w hf
  have hp:W ((x.network.places.length:Int)-1) =(x.network.places.length:Int)-1:=W_id (by omega) (by omega)
  have a1:=zig (fun n s i=>z1o φ n x.network.places (x.railways.length:Int) s x.readers (x.readers.length:Int) i x) (fun s=>z0r φ φ x.network.places (x.railways.length:Int) s x.shippers (x.shippers.length:Int) 0 x) x.readers (zmd x.network.places.length) (fun n i s hi=>by
   rw [z1o,if_pos (by simp; omega),zb ⟨by omega,by omega⟩,hp,W_id (by omega) (by omega)]
   unfold zmd
   cases s with
   | true=>rw [gz_f (by simp)]; rfl
   | false=>rw [gz_t rfl]; rfl) (fun n s=>by rw [z1o,if_neg (by simp)]) φ ((x.railways.length:Int)==0) (by omega)
  refine a1.trans ?_
  have a2:=fun s0=>zig (fun n s i=>z0r φ n x.network.places (x.railways.length:Int) s x.shippers (x.shippers.length:Int) i x) (fun s=>z0p φ φ x.network.places (x.railways.length:Int) s x.fleet.wagons (x.fleet.wagons.length:Int) 0 x) x.shippers (zhx x.network) (fun n i s hi=>by
   rw [z0r,if_pos (by simp; omega),zb ⟨by omega,by omega⟩,hp,W_id (by omega) (by omega)]
   unfold zhx
   cases s with
   | true=>rw [gz_f (by simp),w03,zb (by simp)]; rfl
   | false=>
    rw [gz_t rfl,z1c,w03]
    cases hbt:bet (gt x.shippers i).place 0 ((x.network.places.length:Int)-1) with
    | true=>rw [zb (fun _=>by have:=zlw hbt; omega)]; rfl
    | false=>rw [zb (by simp)]; rfl) (fun n s=>by rw [z0r,if_neg (by simp)]) φ s0 (by omega)
  refine(a2 _).trans ?_
  have a3:=fun s0=>zig (fun n s i=>z0p φ n x.network.places (x.railways.length:Int) s x.fleet.wagons (x.fleet.wagons.length:Int) i x) (fun s=>z0t φ φ (x.railways.length:Int) s x.network.places (x.network.places.length:Int) 0 x) x.fleet.wagons (fun w=>decide ((x.network.places.length:Int)<=w.home)) (fun n i s hi=>by
   rw [z0p,if_pos (by simp; omega),zb ⟨by omega,by omega⟩,W_id (by omega) (by omega)]) (fun n s=>by rw [z0p,if_neg (by simp)]) φ s0 (by omega)
  refine(a3 _).trans ?_
  have a4:=fun s0=>zig (fun n s i=>z0t φ n (x.railways.length:Int) s x.network.places (x.network.places.length:Int) i x) (fun s=>z0q φ φ (x.railways.length:Int) s x.network.edges (x.network.edges.length:Int) 0 x) x.network.places (fun p=>decide ((x.railways.length:Int)<=p.railway)||decide ((x.railways.length:Int)<=p.other)) (fun n i s hi=>by
   rw [z0t,if_pos (by simp; omega),zb ⟨by omega,by omega⟩,W_id (by omega) (by omega),Bool.or_assoc]) (fun n s=>by rw [z0t,if_neg (by simp)]) φ s0 (by omega)
  refine(a4 _).trans ?_
  have a5:=fun s0=>zig (fun n s i=>z0q φ n (x.railways.length:Int) s x.network.edges (x.network.edges.length:Int) i x) (fun s=>z0s φ φ s x.railways (x.railways.length:Int) 0) x.network.edges (fun e=>decide ((x.railways.length:Int)<=e.railway)) (fun n i s hi=>by
   rw [z0q,if_pos (by simp; omega),zb ⟨by omega,by omega⟩,W_id (by omega) (by omega)]) (fun n s=>by rw [z0q,if_neg (by simp)]) φ s0 (by omega)
  refine(a5 _).trans ?_
  have a6:=fun s0=>zig (fun n s i=>z0s φ n s x.railways (x.railways.length:Int) i) (fun s=>if s=true then some (1,()) else some (0,())) x.railways zus (fun n i s hi=>by
   rw [z0s,if_pos (by simp; omega),zb ⟨by omega,by omega⟩,W_id (by omega) (by omega)]
   unfold zus
   cases s with
   | true=>rw [gz_f (by simp),w03,gz_f (by simp)]; rfl
   | false=>
    rw [gz_t rfl,zid _ hφ,w03]
    cases zv4 (gt x.railways i).calendar with
    | false=>rw [gz_f (by simp)]; rfl
    | true=>rw [gz_t (by simp),zpd _ (by omega)]; rfl) (fun n s=>by rw [z0s,if_neg (by simp)]) φ s0 (by omega)
  refine(a6 _).trans ?_
  show (if zlq x=true then some ((1:Int),()) else some (0,()))=_
  cases zlq x <;> rfl
theorem zxy {p:Pool} (h:z7y p=0):za4 p.network=0/\z1e p.fleet=0/\p.readers.length<=256/\p.shippers.length<=256/\p.railways.length<=16/\zlq p=false:=by
 unfold z7y at h
 by_cases hn:za4 p.network=0
 case neg=>rw [if_pos hn] at h; exact absurd h hn
 rw [if_neg (fun e:za4 p.network≠0=>e hn)] at h
 by_cases hf:z1e p.fleet=0
 case neg=>rw [if_pos hf] at h; exact absurd h hf
 rw [if_neg (fun e:z1e p.fleet≠0=>e hf)] at h
 cases hb:zix p with
 | true=>rw [hb] at h; cases h
 | false=>
  rw [hb] at h
  cases hd:zlq p with
  | true=>rw [hd] at h; cases h
  | false=>
   simp only [zix,w0v,decide_eq_false_iff_not] at hb
   exact⟨hn,hf,by omega,by omega,by omega,rfl⟩
end Px
end
