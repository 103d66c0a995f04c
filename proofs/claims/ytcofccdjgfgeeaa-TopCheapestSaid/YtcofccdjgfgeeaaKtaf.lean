/- A part of the proof of topCheapest_holds. Conditions: none. -/
import Derived.Test.YtcofccdjgfgeeaaKtae
import Derived.Test.YtcofccdjgfgeeaaProg
import Derived.Ground.SlsfProg
import Derived.Ground.NamesProg
import Derived.KernelRfl
set_option linter.unusedVariables false
set_option linter.unusedSimpArgs false
section
namespace Go.Proofs
open Go.Shelf
def Try.lays189_ren:Go.Shelf.Ren:=⟨fun|189=>69|125=>84|257=>83|128=>102|129=>91|294=>93|295=>94|296=>95|297=>96|298=>97|299=>98|216=>99|300=>100|301=>101|328=>111|329=>112|330=>113|331=>114|332=>115|215=>87|343=>118|n=>n,fun|28=>42|3=>3|46=>195|0=>0|51=>199|53=>97|4=>4|183=>209|182=>208|131=>55|5=>5|9=>9|218=>224|222=>228|228=>232|229=>233|n=>n,fun|n=>n⟩
theorem Try.lays189:Go.Proofs.Lays.n189 Try.prog Try.lays189_ren:={
 mixed:=by kernel_rfl
 f125:=Try.func84.trans (congrArg some (by kernel_rfl))
 f128:=Try.func102.trans (congrArg some (by kernel_rfl))
 f129:=Try.func91.trans (congrArg some (by kernel_rfl))
 f189:=Try.func69.trans (congrArg some (by kernel_rfl))
 f215:=Try.func87.trans (congrArg some (by kernel_rfl))
 f216:=Try.func99.trans (congrArg some (by kernel_rfl))
 f257:=Try.func83.trans (congrArg some (by kernel_rfl))
 f294:=Try.func93.trans (congrArg some (by kernel_rfl))
 f295:=Try.func94.trans (congrArg some (by kernel_rfl))
 f296:=Try.func95.trans (congrArg some (by kernel_rfl))
 f297:=Try.func96.trans (congrArg some (by kernel_rfl))
 f298:=Try.func97.trans (congrArg some (by kernel_rfl))
 f299:=Try.func98.trans (congrArg some (by kernel_rfl))
 f300:=Try.func100.trans (congrArg some (by kernel_rfl))
 f301:=Try.func101.trans (congrArg some (by kernel_rfl))
 f328:=Try.func111.trans (congrArg some (by kernel_rfl))
 f329:=Try.func112.trans (congrArg some (by kernel_rfl))
 f330:=Try.func113.trans (congrArg some (by kernel_rfl))
 f331:=Try.func114.trans (congrArg some (by kernel_rfl))
 f332:=Try.func115.trans (congrArg some (by kernel_rfl))
 f343:=Try.func118.trans (congrArg some (by kernel_rfl))
 t0:=Try.underlying0
 a0:=Try.isAgg0
 z0:=Try.sizeOf0
 v0:=Try.zeroValue0
 t3:=Try.underlying3
 a3:=Try.isAgg3
 z3:=Try.sizeOf3
 v3:=Try.zeroValue3
 t4:=Try.underlying4
 a4:=Try.isAgg4
 z4:=Try.sizeOf4
 v4:=Try.zeroValue4
 t5:=Try.underlying5
 a5:=Try.isAgg5
 z5:=Try.sizeOf5
 v5:=Try.zeroValue5
 t9:=Try.underlying9
 a9:=Try.isAgg9
 z9:=Try.sizeOf9
 v9:=Try.zeroValue9
 t28:=Try.underlying42
 a28:=Try.isAgg42
 z28:=Try.sizeOf42
 v28:=Try.zeroValue42
 t46:=Try.underlying195
 a46:=Try.isAgg195
 z46:=Try.sizeOf195
 v46:=Try.zeroValue195
 t51:=Try.underlying199
 a51:=Try.isAgg199
 z51:=Try.sizeOf199
 v51:=Try.zeroValue199
 t53:=Try.underlying97
 a53:=Try.isAgg97
 z53:=Try.sizeOf97
 v53:=Try.zeroValue97
 t131:=Try.underlying55
 a131:=Try.isAgg55
 z131:=Try.sizeOf55
 v131:=Try.zeroValue55
 t182:=Try.underlying208
 a182:=Try.isAgg208
 z182:=Try.sizeOf208
 v182:=Try.zeroValue208
 t183:=Try.underlying209
 a183:=Try.isAgg209
 z183:=Try.sizeOf209
 v183:=Try.zeroValue209
 t218:=Try.underlying224
 a218:=Try.isAgg224
 z218:=Try.sizeOf224
 v218:=Try.zeroValue224
 t222:=Try.underlying228
 a222:=Try.isAgg228
 z222:=Try.sizeOf228
 v222:=Try.zeroValue228
 t228:=Try.underlying232
 a228:=Try.isAgg232
 z228:=Try.sizeOf232
 v228:=Try.zeroValue232
 t229:=Try.underlying233
 a229:=Try.isAgg233
 z229:=Try.sizeOf233
 v229:=Try.zeroValue233 }
end Go.Proofs
end
section
set_option maxHeartbeats 4000000
set_option maxRecDepth 100000
namespace Px
open Go Go.RowKit Go.Proofs
def z72(φ:Nat):H TV (RTup TT [.val 27]):=.x
def zai(P:Program)(φ:Nat):Env TV:=⟨P,lk [],lk [],lk [],lk []⟩
theorem zmm(φ:Nat)(a):(zaj φ).F a=fnX TV (zai Try.prog φ) φ Try.f77 [1] [.val 27] (z72 φ) a:=by kernel_rfl
theorem zml(φ:Nat):fnO TV (zai Try.prog φ) φ Try.f77 [.val 27] (z72 φ):=by
 unfold fnO;show obl _ _ _ _ _ _ _ _;unfold z72
 repeat' (first|exact trivial |(refine⟨?_,?_⟩) |(intro _)|kernel_rfl)
theorem zmk[Dr](φ:Nat):z19 TV Try.prog 77 (zaj φ):=z1s (N:=zai Try.prog φ) (z09 trivial trivial trivial trivial) (z72 φ) Try.func77 (by kernel_rfl) (zmm φ) (zml φ)
def zu4:Msp TV:=⟨3,0,[],λl _=>zri l⟩
theorem y4j[Dr]:ya2 TV Try.prog 69 zu4:=λl _ l' sv h=>zu5 (ρ:=Try.lays189_ren) Try.lays189 h
def z6y(φ:Nat):H TV (RTup TT [.val 0]):=(.seq .x (.seq .x (.seq .x (.seq (.seq .x (.body (.loop ⟨[(84,[(1,.ptr 0 0),(3,.val 0),(20,.val 2),(21,.val 0),(22,.val 0)])],[.box 25 [.val 5]]⟩ (λn=>kk5 (z3a φ n)) (λzk7=>.x)))) (.seq (.seq .x (.body (.loop ⟨[(84,[(3,.val 0),(31,.val 4),(32,.val 0),(33,.val 0)])],[]⟩ (λn=>kk4 (z1t φ n)) (λzk13=>.x)))) .x)))))
def zaf(P:Program)(φ:Nat):Env TV:=⟨P,lk [(77,zaj φ)],lk [],lk [],lk []⟩
theorem zmg(φ:Nat)(a):(z6z φ).F a=fnX TV (zaf Try.prog φ) φ Try.f56 [5] [.val 0] (z6y φ) a:=by kernel_rfl
theorem zmf(φ:Nat):fnO TV (zaf Try.prog φ) φ Try.f56 [.val 0] (z6y φ):=by
 unfold fnO;show obl _ _ _ _ _ _ _ _;unfold z6y
 repeat' (first|exact trivial |(refine⟨?_,?_⟩) |(intro _)|kernel_rfl)
theorem zej[Dr](φ:Nat):z19 TV Try.prog 56 (z6z φ):=z1s (N:=zaf Try.prog φ) (z09 ⟨zmk φ,trivial⟩ trivial trivial trivial) (z6y φ) Try.func56 (by kernel_rfl) (zmg φ) (zmf φ)
def z6q(φ:Nat):H TV (RTup TT [.val 27]):=.x
def za9(P:Program)(φ:Nat):Env TV:=⟨P,lk [],lk [],lk [],lk []⟩
theorem zlu(φ:Nat)(a):(z3t φ).F a=fnX TV (za9 Try.prog φ) φ Try.f58 [0,0,0] [.val 27] (z6q φ) a:=by kernel_rfl
theorem zlt(φ:Nat):fnO TV (za9 Try.prog φ) φ Try.f58 [.val 27] (z6q φ):=by
 unfold fnO;show obl _ _ _ _ _ _ _ _;unfold z6q
 repeat' (first|exact trivial |(refine⟨?_,?_⟩) |(intro _)|kernel_rfl)
theorem z6r[Dr](φ:Nat):z19 TV Try.prog 58 (z3t φ):=z1s (N:=za9 Try.prog φ) (z09 trivial trivial trivial trivial) (z6q φ) Try.func58 (by kernel_rfl) (zlu φ) (zlt φ)
def z9k(φ:Nat):H TV (RTup TT [.val 0]):=(.seq .x (.seq .x (.seq .x (.seq .x (.seq (.seq .x (.body (.loop ⟨[(206,[(1,.ptr 0 0),(3,.ptr 1 0),(4,.func 78 [.ptr 1 0]),(41,.val 8),(42,.val 0),(43,.val 0)])],[.box 31 [.val 15],.box 45 [.val 0]]⟩ (λn=>kk5 (z3k φ n)) (λzk7=>(.seq .x (.seq .x (.seq (.body (.seq .x (.seq (.seq .x (.body (.loop ⟨[(206,[(1,.ptr 0 0),(3,.ptr 1 0),(4,.func 78 [.ptr 1 0]),(6,.ptr 2 0),(41,.val 8),(42,.val 0),(43,.val 0),(55,.own 3),(56,.val 0),(57,.val 0)])],[.box 31 [.val 15],.box 45 [.val 0],.box 141 [.val 7],.row 3 0]⟩ (λn z=>z25 φ (λa0 a1 a2 a3 a4=>zk7 (a0,a1,a2,a3,a4,())) n z.1 z.2.1 z.2.2.1 z.2.2.2.1 z.2.2.2.2.1 z.2.2.2.2.2.1 z.2.2.2.2.2.2.1 z.2.2.2.2.2.2.2.1 z.2.2.2.2.2.2.2.2.1) (λzk17=>.x)))) .x))) .x))))))) (.seq (.seq .x (.body (.loop ⟨[(206,[(1,.ptr 0 0),(3,.ptr 1 0),(4,.func 78 [.ptr 1 0]),(83,.val 10),(84,.val 0),(85,.val 0)])],[.box 31 [.val 15],.box 45 [.val 0]]⟩ (λn=>kk5 (z0f φ n)) (λzk27=>.x)))) (.seq (.seq .x (.body (.loop ⟨[(206,[(1,.ptr 0 0),(3,.ptr 1 0),(4,.func 78 [.ptr 1 0]),(120,.val 12),(121,.val 0),(122,.val 0)])],[.box 31 [.val 15],.box 45 [.val 0]]⟩ (λn=>kk5 (z0x φ n)) (λzk40=>.x)))) (.seq .x (.seq (.seq .x (.body (.loop ⟨[(206,[(3,.ptr 0 0),(4,.func 78 [.ptr 0 0]),(13,.ptr 1 0),(158,.val 14),(159,.val 0),(160,.val 0)])],[.box 45 [.val 0],.box 184 [.val 28]]⟩ (λn=>kk5 (z02 φ n)) (λzk49=>.x)))) .x)))))))))
def zcp(P:Program)(φ:Nat):Env TV:=⟨P,lk [(58,z3t φ)],lk [],lk [],lk []⟩
theorem zq8(φ:Nat)(a):(z6o φ).F a=fnX TV (zcp Try.prog φ) φ Try.f57 [15] [.val 0] (z9k φ) a:=by kernel_rfl
theorem zq7(φ:Nat):fnO TV (zcp Try.prog φ) φ Try.f57 [.val 0] (z9k φ):=by
 unfold fnO;show obl _ _ _ _ _ _ _ _;unfold z9k
 repeat' (first|exact trivial |(refine⟨?_,?_⟩) |(intro _)|kernel_rfl)
theorem zcq[Dr](φ:Nat):z19 TV Try.prog 57 (z6o φ):=z1s (N:=zcp Try.prog φ) (z09 ⟨z6r φ,trivial⟩ trivial trivial trivial) (z9k φ) Try.func57 (by kernel_rfl) (zq8 φ) (zq7 φ)
def z5s(φ:Nat):H TV (RTup TT [.val 0]):=(.seq .x (.seq (.seq .x (.body (.loop ⟨[(45,[(1,.ptr 0 0),(9,.val 21),(10,.val 0)])],[.box 109 [.val 23]]⟩ (λn=>kk3 (z2s φ n)) (λzk5=>.x)))) (.seq .x (.seq (.seq .x (.body (.loop ⟨[(45,[(5,.val 0),(30,.val 22),(31,.val 0),(32,.val 0)])],[]⟩ (λn=>kk4 (z2e φ n)) (λzk10=>.x)))) .x))))
def z91(P:Program)(φ:Nat):Env TV:=⟨P,lk [],lk [],lk [],lk []⟩
theorem zjw(φ:Nat)(a):(z92 φ).F a=fnX TV (z91 Try.prog φ) φ Try.f59 [23] [.val 0] (z5s φ) a:=by kernel_rfl
theorem zjv(φ:Nat):fnO TV (z91 Try.prog φ) φ Try.f59 [.val 0] (z5s φ):=by
 unfold fnO;show obl _ _ _ _ _ _ _ _;unfold z5s
 repeat' (first|exact trivial |(refine⟨?_,?_⟩) |(intro _)|kernel_rfl)
theorem zju[Dr](φ:Nat):z19 TV Try.prog 59 (z92 φ):=z1s (N:=z91 Try.prog φ) (z09 trivial trivial trivial trivial) (z5s φ) Try.func59 (by kernel_rfl) (zjw φ) (zjv φ)
def zb0(φ:Nat):H TV (RTup TT [.val 6,.val 6]):=.x
def zdx(P:Program)(φ:Nat):Env TV:=⟨P,lk [],lk [],lk [],lk []⟩
theorem zs7(φ:Nat)(a):(zdy φ).F a=fnX TV (zdx Try.prog φ) φ Try.f108 [6,6] [.val 6,.val 6] (zb0 φ) a:=by kernel_rfl
theorem zs6(φ:Nat):fnO TV (zdx Try.prog φ) φ Try.f108 [.val 6,.val 6] (zb0 φ):=by
 unfold fnO;show obl _ _ _ _ _ _ _ _;unfold zb0
 repeat' (first|exact trivial |(refine⟨?_,?_⟩) |(intro _)|kernel_rfl)
theorem zs5[Dr](φ:Nat):z19 TV Try.prog 108 (zdy φ):=z1s (N:=zdx Try.prog φ) (z09 trivial trivial trivial trivial) (zb0 φ) Try.func108 (by kernel_rfl) (zs7 φ) (zs6 φ)
def z3c(φ:Nat):H TV (RTup TT [.val 0]):=(.seq .x (.seq (.ins 1 91 (.seq .x (.seq (.join ⟨[(25,[(0,.val 6),(2,.val 0)]),(6,[])],[]⟩ (kk2 (z1n φ)) (.seq .x .x)) (.seq (.join ⟨[(25,[(0,.val 6),(2,.val 0)]),(6,[])],[]⟩ (kk2 (z1o φ)) (.seq .x .x)) (.seq (.join ⟨[(25,[(0,.val 6),(2,.val 0)]),(6,[])],[]⟩ (kk2 (z1b φ)) (.seq .x .x)) .x)))) .x) .x))
def z4h(P:Program)(φ:Nat):Env TV:=⟨P,lk [],lk [],lk [],lk []⟩
theorem zdw(φ:Nat)(a):(z4i φ).F a=fnX TV (z4h Try.prog φ) φ Try.f117 [6] [.val 0] (z3c φ) a:=by kernel_rfl
theorem zdv(φ:Nat):fnO TV (z4h Try.prog φ) φ Try.f117 [.val 0] (z3c φ):=by
 unfold fnO;show obl _ _ _ _ _ _ _ _;unfold z3c
 repeat' (first|exact trivial |(refine⟨?_,?_⟩) |(intro _)|kernel_rfl)
theorem zdu[Dr](φ:Nat):z19 TV Try.prog 117 (z4i φ):=z1s (N:=z4h Try.prog φ) (z09 trivial trivial trivial trivial) (z3c φ) Try.func117 (by kernel_rfl) (zdw φ) (zdv φ)
def zaz(φ:Nat):H TV (RTup TT [.val 6,.val 6]):=(.seq .x (.seq .x (.seq .x (.seq .x (.seq .x (.seq .x (.seq .x (.seq .x (.seq .x (.seq .x (.seq .x (.seq .x (.seq .x (.seq .x (.seq (.join ⟨[(135,[(2,.val 6),(8,.val 6),(9,.val 6),(10,.val 6),(11,.val 6),(13,.val 6),(14,.val 6),(15,.val 6)])],[]⟩ (kk8 (z5j φ)) (.body (.loop ⟨[(135,[(2,.val 6),(8,.val 6),(9,.val 6),(10,.val 6),(11,.val 6),(13,.val 6),(14,.val 6),(15,.val 6),(16,.val 6)])],[]⟩ (λn=>kk9 (z5i φ n)) (λzk40=>.x)))) (.seq .x (.seq .x (.seq .x (.seq (.join ⟨[(135,[(2,.val 6),(8,.val 6),(14,.val 6),(15,.val 6),(17,.val 6),(18,.val 6)])],[]⟩ (kk6 (z5k φ)) (.body (.loop ⟨[(135,[(2,.val 6),(8,.val 6),(9,.val 6),(10,.val 6),(14,.val 6),(15,.val 6),(16,.val 6),(17,.val 6),(18,.val 6)])],[]⟩ (λn=>kk9 (z5h φ n)) (λzk30=>.x)))) .x)))))))))))))))))))
def zds(P:Program)(φ:Nat):Env TV:=⟨P,lk [(117,z4i φ)],lk [],lk [],lk []⟩
theorem zs4(φ:Nat)(a):(zdt φ).F a=fnX TV (zds Try.prog φ) φ Try.f109 [6,6,6] [.val 6,.val 6] (zaz φ) a:=by kernel_rfl
theorem zs3(φ:Nat):fnO TV (zds Try.prog φ) φ Try.f109 [.val 6,.val 6] (zaz φ):=by
 unfold fnO;show obl _ _ _ _ _ _ _ _;unfold zaz
 repeat' (first|exact trivial |(refine⟨?_,?_⟩) |(intro _)|kernel_rfl)
theorem zs2[Dr](φ:Nat):z19 TV Try.prog 109 (zdt φ):=z1s (N:=zds Try.prog φ) (z09 ⟨zdu φ,trivial⟩ trivial trivial trivial) (zaz φ) Try.func109 (by kernel_rfl) (zs4 φ) (zs3 φ)
def zfa(φ:Nat):H TV (RTup TT [.val 6]):=(.seq .x (.seq .x (.seq .x (.seq (.seq (.ins 1 91 (.seq .x (.seq (.join ⟨[(25,[(0,.val 6),(2,.val 0)]),(33,[(0,.val 6),(1,.val 6),(5,.func 107 [.ptr 0 0]),(6,.val 6)])],[.box 97 [.val 6]]⟩ (kk6 (zaq φ)) (.seq .x .x)) (.seq (.join ⟨[(25,[(0,.val 6),(2,.val 0)]),(33,[(0,.val 6),(1,.val 6),(5,.func 107 [.ptr 0 0]),(6,.val 6)])],[.box 97 [.val 6]]⟩ (kk6 (z8v φ)) (.seq .x .x)) (.seq (.join ⟨[(25,[(0,.val 6),(2,.val 0)]),(33,[(0,.val 6),(1,.val 6),(5,.func 107 [.ptr 0 0]),(6,.val 6)])],[.box 97 [.val 6]]⟩ (kk6 (z8w φ)) (.seq .x .x)) .x)))) .x) (.body (.loop ⟨[(33,[(0,.val 6),(1,.val 6),(5,.func 107 [.ptr 0 0]),(6,.val 6),(10,.val 0),(11,.val 0)])],[.box 97 [.val 6]]⟩ (λn=>kk6 (z0r φ n)) (λzk30=>(.seq .x (.seq .x (.seq (.body (.seq .x (.seq .x (.seq (.ins 2 91 (.seq .x (.seq (.join ⟨[(25,[(0,.val 6),(2,.val 0)]),(33,[(0,.val 6),(1,.val 6),(5,.func 107 [.ptr 0 0]),(6,.val 6),(7,.val 0),(10,.val 0),(11,.val 0),(18,.val 6)])],[.box 97 [.val 6]]⟩ (λz=>z3h φ (λa0 a1 a2 a3 a4 a5=>zk30 (a0,a1,a2,a3,a4,a5,())) z.1 z.2.1 z.2.2.1 z.2.2.2.1 z.2.2.2.2.1 z.2.2.2.2.2.1 z.2.2.2.2.2.2.1 z.2.2.2.2.2.2.2.1 z.2.2.2.2.2.2.2.2.1 z.2.2.2.2.2.2.2.2.2.1) (.seq .x .x)) (.seq (.join ⟨[(25,[(0,.val 6),(2,.val 0)]),(33,[(0,.val 6),(1,.val 6),(5,.func 107 [.ptr 0 0]),(6,.val 6),(7,.val 0),(10,.val 0),(11,.val 0),(18,.val 6)])],[.box 97 [.val 6]]⟩ (λz=>z8x φ (λa0 a1 a2 a3 a4 a5=>zk30 (a0,a1,a2,a3,a4,a5,())) z.1 z.2.1 z.2.2.1 z.2.2.2.1 z.2.2.2.2.1 z.2.2.2.2.2.1 z.2.2.2.2.2.2.1 z.2.2.2.2.2.2.2.1 z.2.2.2.2.2.2.2.2.1 z.2.2.2.2.2.2.2.2.2.1) (.seq .x .x)) (.seq (.join ⟨[(25,[(0,.val 6),(2,.val 0)]),(33,[(0,.val 6),(1,.val 6),(5,.func 107 [.ptr 0 0]),(6,.val 6),(7,.val 0),(10,.val 0),(11,.val 0),(18,.val 6)])],[.box 97 [.val 6]]⟩ (λz=>z8y φ (λa0 a1 a2 a3 a4 a5=>zk30 (a0,a1,a2,a3,a4,a5,())) z.1 z.2.1 z.2.2.1 z.2.2.2.1 z.2.2.2.2.1 z.2.2.2.2.2.1 z.2.2.2.2.2.2.1 z.2.2.2.2.2.2.2.1 z.2.2.2.2.2.2.2.2.1 z.2.2.2.2.2.2.2.2.2.1) (.seq .x .x)) .x)))) .x) .x)))) .x))))))) .x))))
def zim(P:Program)(φ:Nat):Env TV:=⟨P,lk [(108,zdy φ),(109,zdt φ)],lk [],lk [],lk []⟩
theorem zzs(φ:Nat)(a):(zin φ).F a=fnX TV (zim Try.prog φ) φ Try.f79 [6,6] [.val 6] (zfa φ) a:=by kernel_rfl
theorem zzr(φ:Nat):fnO TV (zim Try.prog φ) φ Try.f79 [.val 6] (zfa φ):=by
 unfold fnO;show obl _ _ _ _ _ _ _ _;unfold zfa
 repeat' (first|exact trivial |(refine⟨?_,?_⟩) |(intro _)|kernel_rfl)
theorem zzq[Dr](φ:Nat):z19 TV Try.prog 79 (zin φ):=z1s (N:=zim Try.prog φ) (z09 ⟨zs5 φ,zs2 φ,trivial⟩ trivial trivial trivial) (zfa φ) Try.func79 (by kernel_rfl) (zzs φ) (zzr φ)
def zbe(φ:Nat):H TV (RTup TT [.val 27]):=.x
def zes(P:Program)(φ:Nat):Env TV:=⟨P,lk [(79,zin φ)],lk [],lk [],lk []⟩
theorem zu3(φ:Nat)(a):(zet φ).F a=fnX TV (zes Try.prog φ) φ Try.f60 [6] [.val 27] (zbe φ) a:=by kernel_rfl
theorem zu2(φ:Nat):fnO TV (zes Try.prog φ) φ Try.f60 [.val 27] (zbe φ):=by
 unfold fnO;show obl _ _ _ _ _ _ _ _;unfold zbe
 repeat' (first|exact trivial |(refine⟨?_,?_⟩) |(intro _)|kernel_rfl)
theorem zu1[Dr](φ:Nat):z19 TV Try.prog 60 (zet φ):=z1s (N:=zes Try.prog φ) (z09 ⟨zzq φ,trivial⟩ trivial trivial trivial) (zbe φ) Try.func60 (by kernel_rfl) (zu3 φ) (zu2 φ)
def z4y(φ:Nat):H TV (RTup TT [.val 0]):=(.seq .x (.seq .x (.seq .x (.seq .x (.seq .x (.seq .x (.seq (.seq .x (.body (.loop ⟨[(193,[(1,.ptr 0 0),(5,.val 2),(6,.val 0),(7,.val 27),(57,.val 17),(58,.val 0),(59,.val 0)])],[.box 36 [.val 26]]⟩ (λn=>kk7 (z1r φ n)) (λzk11=>.x)))) (.seq (.seq .x (.body (.loop ⟨[(193,[(1,.ptr 0 0),(5,.val 2),(6,.val 0),(7,.val 27),(92,.val 19),(93,.val 0),(94,.val 0)])],[.box 36 [.val 26]]⟩ (λn=>kk7 (z10 φ n)) (λzk20=>.x)))) (.seq (.seq .x (.body (.loop ⟨[(193,[(1,.ptr 0 0),(5,.val 2),(6,.val 0),(7,.val 27),(120,.val 10),(121,.val 0),(122,.val 0)])],[.box 36 [.val 26]]⟩ (λn=>kk7 (z11 φ n)) (λzk29=>.x)))) (.seq (.seq .x (.body (.loop ⟨[(193,[(1,.ptr 0 0),(6,.val 0),(7,.val 27),(135,.val 2),(136,.val 0),(137,.val 0)])],[.box 36 [.val 26]]⟩ (λn=>kk6 (z12 φ n)) (λzk36=>.x)))) (.seq (.seq .x (.body (.loop ⟨[(193,[(1,.ptr 0 0),(6,.val 0),(7,.val 27),(157,.val 4),(158,.val 0),(159,.val 0)])],[.box 36 [.val 26]]⟩ (λn=>kk6 (z13 φ n)) (λzk43=>.x)))) (.seq (.seq .x (.body (.loop ⟨[(193,[(7,.val 27),(172,.val 25),(173,.val 0),(174,.val 0)])],[]⟩ (λn=>kk4 (z14 φ n)) (λzk48=>.x)))) .x))))))))))))
def z7s(P:Program)(φ:Nat):Env TV:=⟨P,lk [(56,z6z φ),(57,z6o φ),(58,z3t φ),(59,z92 φ),(60,zet φ)],lk [],lk [],lk []⟩
theorem zhz(φ:Nat)(a):(z4z φ).F a=fnX TV (z7s Try.prog φ) φ Try.f36 [26] [.val 0] (z4y φ) a:=by kernel_rfl
theorem zhy(φ:Nat):fnO TV (z7s Try.prog φ) φ Try.f36 [.val 0] (z4y φ):=by
 unfold fnO;show obl _ _ _ _ _ _ _ _;unfold z4y
 repeat' (first|exact trivial |(refine⟨?_,?_⟩) |(intro _)|kernel_rfl)
theorem zca[Dr](φ:Nat):z19 TV Try.prog 36 (z4z φ):=z1s (N:=z7s Try.prog φ) (z09 ⟨zej φ,zcq φ,z6r φ,zju φ,zu1 φ,trivial⟩ trivial trivial trivial) (z4y φ) Try.func36 (by kernel_rfl) (zhz φ) (zhy φ)
def z4u(φ:Nat):H TV (RTup TT [.val 27]):=.x
def z7o(P:Program)(φ:Nat):Env TV:=⟨P,lk [],lk [],lk [],lk []⟩
theorem zhq(φ:Nat)(a):(z4v φ).F a=fnX TV (z7o Try.prog φ) φ Try.f61 [0,0,0] [.val 27] (z4u φ) a:=by kernel_rfl
theorem zhp(φ:Nat):fnO TV (z7o Try.prog φ) φ Try.f61 [.val 27] (z4u φ):=by
 unfold fnO;show obl _ _ _ _ _ _ _ _;unfold z4u
 repeat' (first|exact trivial |(refine⟨?_,?_⟩) |(intro _)|kernel_rfl)
theorem zc8[Dr](φ:Nat):z19 TV Try.prog 61 (z4v φ):=z1s (N:=z7o Try.prog φ) (z09 trivial trivial trivial trivial) (z4u φ) Try.func61 (by kernel_rfl) (zhq φ) (zhp φ)
def z5w(φ:Nat):H TV (RTup TT [.val 27]):=.x
def z97(P:Program)(φ:Nat):Env TV:=⟨P,lk [(61,z4v φ)],lk [],lk [],lk []⟩
theorem zk3(φ:Nat)(a):(z5x φ).F a=fnX TV (z97 Try.prog φ) φ Try.f37 [26,29] [.val 27] (z5w φ) a:=by kernel_rfl
theorem zk2(φ:Nat):fnO TV (z97 Try.prog φ) φ Try.f37 [.val 27] (z5w φ):=by
 unfold fnO;show obl _ _ _ _ _ _ _ _;unfold z5w
 repeat' (first|exact trivial |(refine⟨?_,?_⟩) |(intro _)|kernel_rfl)
theorem zdi[Dr](φ:Nat):z19 TV Try.prog 37 (z5x φ):=z1s (N:=z97 Try.prog φ) (z09 ⟨zc8 φ,trivial⟩ trivial trivial trivial) (z5w φ) Try.func37 (by kernel_rfl) (zk3 φ) (zk2 φ)
def z6k(φ:Nat):H TV (RTup TT [.val 27]):=.x
def za2(P:Program)(φ:Nat):Env TV:=⟨P,lk [(61,z4v φ)],lk [],lk [],lk []⟩
theorem zlk(φ:Nat)(a):(z6l φ).F a=fnX TV (za2 Try.prog φ) φ Try.f38 [26,30] [.val 27] (z6k φ) a:=by kernel_rfl
theorem zlj(φ:Nat):fnO TV (za2 Try.prog φ) φ Try.f38 [.val 27] (z6k φ):=by
 unfold fnO;show obl _ _ _ _ _ _ _ _;unfold z6k
 repeat' (first|exact trivial |(refine⟨?_,?_⟩) |(intro _)|kernel_rfl)
theorem ze2[Dr](φ:Nat):z19 TV Try.prog 38 (z6l φ):=z1s (N:=za2 Try.prog φ) (z09 ⟨zc8 φ,trivial⟩ trivial trivial trivial) (z6k φ) Try.func38 (by kernel_rfl) (zlk φ) (zlj φ)
def z71(φ:Nat):H TV (RTup TT [.val 34,.val 0]):=(.seq .x (.seq .x (.seq (.seq .x (.body (.loop ⟨[(77,[(2,.ptr 0 0),(4,.ptr 1 0),(19,.val 22),(20,.val 0),(21,.val 0)])],[.box 25 [.val 5],.box 131 [.own 2,.raw (.map none)],.row 42 22]⟩ (λn=>kk5 (z3b φ n)) (λzk9=>.x)))) (.seq .x (.seq .x (.seq (.seq .x (.body (.loop ⟨[(77,[(4,.ptr 0 0),(8,.func 68 [.ptr 0 0,.ptr 1 0]),(44,.val 4),(45,.val 0),(46,.val 0)])],[.box 131 [.own 2,.own 3],.box 25 [.val 5],.nst 42 3 22 none,.map 32 0 0]⟩ (λn=>kk6 (z06 φ n)) (λzk16=>(.seq .x (.seq .x (.seq (.body (.seq .x (.seq (.ins 6 68 (.seq .x (.seq .x (.seq (.join ⟨[(56,[(2,.val 0),(3,.ptr 0 0),(4,.ptr 1 0),(8,.ptr 2 0),(9,.val 0),(10,.val 27)]),(77,[(4,.ptr 0 0),(8,.func 68 [.ptr 0 0,.ptr 1 0]),(9,.val 0),(10,.ptr 3 0),(44,.val 4),(45,.val 0),(46,.val 0)])],[.box 131 [.own 4,.own 5],.box 25 [.val 5],.box 152 [.val 32],.box 139 [.val 3],.nst 42 3 22 none,.map 32 0 0]⟩ (λz=>z3v φ (λa0 a1 a2 a3 a4 a5=>zk16 (a0,a1,a2,a3,a4,a5,())) z.1 z.2.1 z.2.2.1 z.2.2.2.1 z.2.2.2.2.1 z.2.2.2.2.2.1 z.2.2.2.2.2.2.1 z.2.2.2.2.2.2.2.1 z.2.2.2.2.2.2.2.2.1 z.2.2.2.2.2.2.2.2.2.1 z.2.2.2.2.2.2.2.2.2.2.1 z.2.2.2.2.2.2.2.2.2.2.2.1) (.seq .x (.cond (.foc (3,some 0) (0,none) .x) .x))) .x))) .x) (.ins 6 68 (.seq .x (.seq .x (.seq (.join ⟨[(56,[(2,.val 0),(3,.ptr 0 0),(4,.ptr 1 0),(8,.ptr 2 0),(9,.val 0),(10,.val 27)]),(77,[(4,.ptr 0 0),(8,.func 68 [.ptr 0 0,.ptr 1 0]),(44,.val 4),(45,.val 0),(46,.val 0)])],[.box 131 [.own 3,.own 4],.box 25 [.val 5],.box 152 [.val 32],.nst 42 3 22 none,.map 32 0 0]⟩ (λz=>z3x φ (λa0 a1 a2 a3 a4 a5=>zk16 (a0,a1,a2,a3,a4,a5,())) z.1 z.2.1 z.2.2.1 z.2.2.2.1 z.2.2.2.2.1 z.2.2.2.2.2.1 z.2.2.2.2.2.2.1 z.2.2.2.2.2.2.2.1 z.2.2.2.2.2.2.2.2.1 z.2.2.2.2.2.2.2.2.2.1) (.seq .x (.cond (.foc (3,some 0) (0,none) .x) .x))) .x))) .x)))) .x))))))) (.seq (.seq .x (.body (.loop ⟨[(77,[(4,.ptr 0 0),(67,.own 1),(68,.val 0),(69,.val 0)])],[.box 131 [.own 1,.own 2],.nst 42 3 22 none,.map 32 0 0]⟩ (λn=>kk4 (z1u φ n)) (λzk56=>(.seq .x (.seq .x (.seq (.body (.seq (.foc (67,none) (69,none) .x) .x)) .x))))))) .x)))))))
def zag(P:Program)(φ:Nat):Env TV:=⟨P,lk [(56,z6z φ)],lk [(69,zu4)],lk [],lk []⟩
theorem zmj(φ:Nat)(a):(zah φ).F a=fnX TV (zag Try.prog φ) φ Try.f44 [5,22] [.val 34,.val 0] (z71 φ) a:=by kernel_rfl
theorem zmi(φ:Nat):fnO TV (zag Try.prog φ) φ Try.f44 [.val 34,.val 0] (z71 φ):=by
 unfold fnO;show obl _ _ _ _ _ _ _ _;unfold z71
 repeat' (first|exact trivial |(refine⟨?_,?_⟩) |(intro _)|kernel_rfl)
theorem zmh[Dr](φ:Nat):z19 TV Try.prog 44 (zah φ):=z1s (N:=zag Try.prog φ) (z09 ⟨zej φ,trivial⟩ ⟨(y4j),trivial⟩ trivial trivial) (z71 φ) Try.func44 (by kernel_rfl) (zmj φ) (zmi φ)
def z73(φ:Nat):H TV (RTup TT [.val 22]):=(.seq .x (.seq .x (.seq .x (.seq (.seq .x (.body (.loop ⟨[(118,[(2,.val 0),(3,.ptr 0 0),(4,.ptr 1 0),(7,.own 2),(8,.own 3),(23,.val 0),(24,.val 0)])],[.box 25 [.val 5],.box 131 [.val 34],.row 3 0,.fix 4 27]⟩ (λn=>kk7 (z2w φ n)) (λzk11=>.x)))) (.seq .x (.body (.loop ⟨[(118,[(3,.ptr 0 0),(4,.ptr 1 0),(7,.own 2),(8,.own 3)])],[.box 25 [.val 5],.box 131 [.val 34],.row 3 0,.fix 4 27]⟩ (λn=>kk4 (z07 φ n)) (λzk16=>(.body (.seq .x (.seq (.seq .x (.body (.loop ⟨[(118,[(3,.ptr 0 0),(4,.ptr 1 0),(7,.own 2),(8,.own 3),(10,.val 0),(35,.val 0),(36,.val 0)])],[.box 25 [.val 5],.box 131 [.val 34],.row 3 0,.fix 4 27]⟩ (λn z=>z1v φ (λa0 a1 a2 a3=>zk16 (a0,a1,a2,a3,())) n z.1 z.2.1 z.2.2.1 z.2.2.2.1 z.2.2.2.2.1 z.2.2.2.2.2.1 z.2.2.2.2.2.2.1) (λzk24=>.x)))) (.seq .x (.seq .x (.seq .x (.body (.loop ⟨[(118,[(3,.ptr 0 0),(4,.ptr 1 0),(7,.own 2),(8,.own 3),(10,.val 0),(78,.val 22),(79,.val 0),(80,.val 0)])],[.box 25 [.val 5],.box 131 [.val 34],.row 3 0,.fix 4 27]⟩ (λn z=>z1w φ (λa0 a1 a2 a3=>zk16 (a0,a1,a2,a3,())) n z.1 z.2.1 z.2.2.1 z.2.2.2.1 z.2.2.2.2.1 z.2.2.2.2.2.1 z.2.2.2.2.2.2.1 z.2.2.2.2.2.2.2.1) (λzk33=>.x)))))))))))))))))
def zak(P:Program)(φ:Nat):Env TV:=⟨P,lk [],lk [],lk [],lk []⟩
theorem zmp(φ:Nat)(a):(zal φ).F a=fnX TV (zak Try.prog φ) φ Try.f45 [5,34,0] [.val 22] (z73 φ) a:=by kernel_rfl
theorem zmo(φ:Nat):fnO TV (zak Try.prog φ) φ Try.f45 [.val 22] (z73 φ):=by
 unfold fnO;show obl _ _ _ _ _ _ _ _;unfold z73
 repeat' (first|exact trivial |(refine⟨?_,?_⟩) |(intro _)|kernel_rfl)
theorem zmn[Dr](φ:Nat):z19 TV Try.prog 45 (zal φ):=z1s (N:=zak Try.prog φ) (z09 trivial trivial trivial trivial) (z73 φ) Try.func45 (by kernel_rfl) (zmp φ) (zmo φ)
def z55(φ:Nat):H TV (RTup TT [.val 0,.val 0]):=.x
def z7w(P:Program)(φ:Nat):Env TV:=⟨P,lk [(44,zah φ),(45,zal φ)],lk [],lk [],lk []⟩
theorem zi7(φ:Nat)(a):(z7x φ).F a=fnX TV (z7w Try.prog φ) φ Try.f21 [5,0,0] [.val 0,.val 0] (z55 φ) a:=by kernel_rfl
theorem zi6(φ:Nat):fnO TV (z7w Try.prog φ) φ Try.f21 [.val 0,.val 0] (z55 φ):=by
 unfold fnO;show obl _ _ _ _ _ _ _ _;unfold z55
 repeat' (first|exact trivial |(refine⟨?_,?_⟩) |(intro _)|kernel_rfl)
theorem zi5[Dr](φ:Nat):z19 TV Try.prog 21 (z7x φ):=z1s (N:=z7w Try.prog φ) (z09 ⟨zmh φ,zmn φ,trivial⟩ trivial trivial trivial) (z55 φ) Try.func21 (by kernel_rfl) (zi7 φ) (zi6 φ)
def z6p(φ:Nat):H TV (RTup TT [.val 27]):=.x
def za7(P:Program)(φ:Nat):Env TV:=⟨P,lk [],lk [],lk [],lk []⟩
theorem zls(φ:Nat)(a b):(za8 φ).F a b=fnXc TV (za7 Try.prog φ) φ Try.f82 [13] [.b (.val 0),.b (.val 0)] [.val 27] (z6p φ) a b:=by kernel_rfl
theorem zlr(φ:Nat):fnO TV (za7 Try.prog φ) φ Try.f82 [.val 27] (z6p φ):=by
 unfold fnO;show obl _ _ _ _ _ _ _ _;unfold z6p
 repeat' (first|exact trivial |(refine⟨?_,?_⟩) |(intro _)|kernel_rfl)
theorem zlq[Dr](φ:Nat):zyl TV Try.prog 82 (za8 φ):=y93 (N:=za7 Try.prog φ) (z09 trivial trivial trivial trivial) (z6p φ) Try.func82 (by kernel_rfl) (zls φ) (zlr φ)
def z9l(φ:Nat):H TV (RTup TT [.val 0,.val 0]):=(.seq .x (.seq .x (.seq .x (.seq (.ins 3 81 (.seq .x (.seq (.seq .x (.body (.loop ⟨[(19,[(0,.val 14),(1,.func 82 [.ptr 0 0,.ptr 1 0]),(7,.val 0),(8,.val 0)]),(35,[(3,.ptr 2 0)])],[.box 3 [.val 0],.box 3 [.val 0],.box 31 [.val 15]]⟩ (λn=>kk6 (z3s φ n)) (λzk13=>.x)))) .x)) .x) .x))))
def zcr(P:Program)(φ:Nat):Env TV:=⟨P,lk [(57,z6o φ),(58,z3t φ)],lk [],lk [(82,za8 φ)],lk []⟩
theorem zqb(φ:Nat)(a):(zcs φ).F a=fnX TV (zcr Try.prog φ) φ Try.f64 [15,0,0] [.val 0,.val 0] (z9l φ) a:=by kernel_rfl
theorem zqa(φ:Nat):fnO TV (zcr Try.prog φ) φ Try.f64 [.val 0,.val 0] (z9l φ):=by
 unfold fnO;show obl _ _ _ _ _ _ _ _;unfold z9l
 repeat' (first|exact trivial |(refine⟨?_,?_⟩) |(intro _)|kernel_rfl)
theorem zq9[Dr](φ:Nat):z19 TV Try.prog 64 (zcs φ):=z1s (N:=zcr Try.prog φ) (z09 ⟨zcq φ,z6r φ,trivial⟩ trivial ⟨zlq φ,trivial⟩ trivial) (z9l φ) Try.func64 (by kernel_rfl) (zqb φ) (zqa φ)
def z9m(φ:Nat):H TV (RTup TT [.val 12,.val 0]):=(.seq .x (.seq .x (.seq .x (.seq .x (.seq (.seq .x (.body (.loop ⟨[(96,[(1,.val 0),(2,.ptr 0 0),(7,.ptr 1 0),(27,.val 0)])],[.box 31 [.val 15],.box 192 [.val 35]]⟩ (λn=>kk4 (z49 φ n)) (λzk9=>.x)))) (.seq .x (.seq (.seq .x (.body (.loop ⟨[(96,[(1,.val 0),(2,.ptr 0 0),(7,.ptr 1 0),(9,.val 27)])],[.box 31 [.val 15],.box 192 [.val 35]]⟩ (λn=>kk4 (z26 φ n)) (λzk14=>(.seq .x (.body (.seq .x (.seq .x (.body (.loop ⟨[(96,[(1,.val 0),(2,.ptr 0 0),(7,.ptr 1 0),(9,.val 27),(37,.val 12),(38,.val 0),(39,.val 0)])],[.box 31 [.val 15],.box 192 [.val 35]]⟩ (λn z=>z27 φ (λa0 a1 a2 a3=>zk14 (a0,a1,a2,a3,())) n z.1 z.2.1 z.2.2.1 z.2.2.2.1 z.2.2.2.2.1 z.2.2.2.2.2.1 z.2.2.2.2.2.2.1) (λzk22=>.x))))))))))) (.seq .x (.seq (.seq .x (.body (.loop ⟨[(96,[(1,.val 0),(7,.ptr 0 0),(13,.own 1),(77,.val 0),(78,.val 0)])],[.box 192 [.val 35],.row 143 11]⟩ (λn=>kk5 (z29 φ n)) (λzk28=>.x)))) .x)))))))))
def zcu(P:Program)(φ:Nat):Env TV:=⟨P,lk [(57,z6o φ),(58,z3t φ)],lk [],lk [],lk []⟩
theorem zqe(φ:Nat)(a):(zcv φ).F a=fnX TV (zcu Try.prog φ) φ Try.f65 [15,0] [.val 12,.val 0] (z9m φ) a:=by kernel_rfl
theorem zqd(φ:Nat):fnO TV (zcu Try.prog φ) φ Try.f65 [.val 12,.val 0] (z9m φ):=by
 unfold fnO;show obl _ _ _ _ _ _ _ _;unfold z9m
 repeat' (first|exact trivial |(refine⟨?_,?_⟩) |(intro _)|kernel_rfl)
theorem zqc[Dr](φ:Nat):z19 TV Try.prog 65 (zcv φ):=z1s (N:=zcu Try.prog φ) (z09 ⟨zcq φ,z6r φ,trivial⟩ trivial trivial trivial) (z9m φ) Try.func65 (by kernel_rfl) (zqe φ) (zqd φ)
def z4w(φ:Nat):H TV (RTup TT [.val 27]):=.x
def z7p(P:Program)(φ:Nat):Env TV:=⟨P,lk [],lk [],lk [],lk []⟩
theorem zht(φ:Nat)(a b):(z7q φ).F a b=fnXc TV (z7p Try.prog φ) φ Try.f67 [11] [.b (.val 29)] [.val 27] (z4w φ) a b:=by kernel_rfl
theorem zhs(φ:Nat):fnO TV (z7p Try.prog φ) φ Try.f67 [.val 27] (z4w φ):=by
 unfold fnO;show obl _ _ _ _ _ _ _ _;unfold z4w
 repeat' (first|exact trivial |(refine⟨?_,?_⟩) |(intro _)|kernel_rfl)
theorem zhr[Dr](φ:Nat):zyl TV Try.prog 67 (z7q φ):=y93 (N:=z7p Try.prog φ) (z09 trivial trivial trivial trivial) (z4w φ) Try.func67 (by kernel_rfl) (zht φ) (zhs φ)
def z6m(φ:Nat):H TV (RTup TT [.val 0,.val 27]):=(.seq .x (.seq .x (.seq .x (.seq (.join ⟨[(97,[(3,.ptr 0 0),(4,.ptr 1 0),(5,.ptr 2 0),(8,.val 0)])],[.box 36 [.val 26],.box 49 [.val 29],.box 51 [.val 30]]⟩ (kk4 (z1j φ)) (.seq .x .x)) (.seq .x (.seq (.ins 2 66 (.seq .x (.seq (.seq .x (.body (.loop ⟨[(19,[(0,.val 12),(1,.func 67 [.ptr 0 0]),(7,.val 0),(8,.val 0)]),(97,[(4,.ptr 0 0),(5,.ptr 1 0),(8,.val 0),(12,.val 12)])],[.box 49 [.val 29],.box 51 [.val 30]]⟩ (λn=>kk7 (z2t φ n)) (λzk18=>.x)))) .x)) .x) .x))))))
def za3(P:Program)(φ:Nat):Env TV:=⟨P,lk [(21,z7x φ),(64,zcs φ),(65,zcv φ)],lk [],lk [(67,z7q φ)],lk []⟩
theorem zlm(φ:Nat)(a):(z6n φ).F a=fnX TV (za3 Try.prog φ) φ Try.f43 [26,29,30] [.val 0,.val 27] (z6m φ) a:=by kernel_rfl
theorem zll(φ:Nat):fnO TV (za3 Try.prog φ) φ Try.f43 [.val 0,.val 27] (z6m φ):=by
 unfold fnO;show obl _ _ _ _ _ _ _ _;unfold z6m
 repeat' (first|exact trivial |(refine⟨?_,?_⟩) |(intro _)|kernel_rfl)
theorem ze4[Dr](φ:Nat):z19 TV Try.prog 43 (z6n φ):=z1s (N:=za3 Try.prog φ) (z09 ⟨zi5 φ,zq9 φ,zqc φ,trivial⟩ trivial ⟨zhr φ,trivial⟩ trivial) (z6m φ) Try.func43 (by kernel_rfl) (zlm φ) (zll φ)
def z8b(φ:Nat):H TV (RTup TT [.val 0,.val 27,.val 0]):=.x
def zbh(P:Program)(φ:Nat):Env TV:=⟨P,lk [(36,z4z φ),(37,z5x φ),(38,z6l φ),(43,z6n φ)],lk [],lk [],lk []⟩
theorem znm(φ:Nat)(a):(zbi φ).F a=fnX TV (zbh Try.prog φ) φ Try.f20 [26,29,30] [.val 0,.val 27,.val 0] (z8b φ) a:=by kernel_rfl
theorem znl(φ:Nat):fnO TV (zbh Try.prog φ) φ Try.f20 [.val 0,.val 27,.val 0] (z8b φ):=by
 unfold fnO;show obl _ _ _ _ _ _ _ _;unfold z8b
 repeat' (first|exact trivial |(refine⟨?_,?_⟩) |(intro _)|kernel_rfl)
theorem znk[Dr](φ:Nat):z19 TV Try.prog 20 (zbi φ):=z1s (N:=zbh Try.prog φ) (z09 ⟨zca φ,zdi φ,ze2 φ,ze4 φ,trivial⟩ trivial trivial trivial) (z8b φ) Try.func20 (by kernel_rfl) (znm φ) (znl φ)
def z9i(φ:Nat):H TV (RTup TT [.val 40,.val 0]):=(.seq .x (.seq .x (.seq .x (.seq (.seq .x (.body (.loop ⟨[(99,[(1,.val 36),(2,.val 37),(3,.ptr 0 0),(6,.ptr 1 0),(9,.val 0),(10,.val 0),(22,.val 36),(23,.val 0),(24,.val 0)])],[.box 36 [.val 26],.box 64 [.own 2,.own 3],.row 3 0,.row 77 38]⟩ (λn=>kk10 (z24 φ n)) (λzk15=>.x)))) (.seq (.seq .x (.body (.loop ⟨[(99,[(1,.val 36),(2,.val 37),(3,.ptr 0 0),(6,.ptr 1 0),(9,.val 0),(10,.val 0),(45,.val 37),(46,.val 0),(47,.val 0)])],[.box 36 [.val 26],.box 64 [.own 2,.own 3],.row 3 0,.row 77 38]⟩ (λn=>kk10 (z1c φ n)) (λzk27=>.x)))) (.seq .x (.seq .x (.seq (.join ⟨[(99,[(6,.ptr 0 0)])],[.box 64 [.own 1,.own 2],.row 3 0,.row 77 38]⟩ (kk2 (z0w φ)) (.seq .x (.body (.rf 17 0 62 (.seq .x (.seq (.seq .x (.body (.loop ⟨[(112,[(0,.own 0),(1,.ptr 1 0),(2,.ptr 2 0),(3,.ptr 3 0),(5,.val 0),(6,.val 0),(22,.val 36),(23,.val 0),(24,.val 0)]),(100,[(6,.ptr 4 0),(99,.own 0)])],[.emp,.box 37 [.val 36],.box 38 [.val 37],.box 36 [.val 26],.box 64 [.own 5,.own 6],.row 3 0,.row 77 38]⟩ (λn=>kk10 (z1d φ n)) (λzk42=>(.seq .x (.seq .x (.seq (.body (.seq .x (.seq .x (.body (.loop ⟨[(112,[(0,.own 0),(1,.ptr 1 0),(2,.ptr 2 0),(3,.ptr 3 0),(5,.val 0),(6,.val 0),(7,.val 0),(8,.ptr 4 0),(22,.val 36),(23,.val 0),(24,.val 0),(29,.val 37),(30,.val 0),(31,.val 0)]),(100,[(6,.ptr 5 0),(99,.own 0)])],[.emp,.box 37 [.val 36],.box 38 [.val 37],.box 36 [.val 26],.box 49 [.val 29],.box 64 [.own 6,.own 7],.row 3 0,.row 77 38]⟩ (λn z=>z0v φ (λa0 a1 a2 a3 a4 a5 a6 a7 a8 a9=>zk42 (a0,a1,a2,a3,a4,a5,a6,a7,a8,a9,())) n z.1 z.2.1 z.2.2.1 z.2.2.2.1 z.2.2.2.2.1 z.2.2.2.2.2.1 z.2.2.2.2.2.2.1 z.2.2.2.2.2.2.2.1 z.2.2.2.2.2.2.2.2.1 z.2.2.2.2.2.2.2.2.2.1 z.2.2.2.2.2.2.2.2.2.2.1 z.2.2.2.2.2.2.2.2.2.2.2.1 z.2.2.2.2.2.2.2.2.2.2.2.2.1 z.2.2.2.2.2.2.2.2.2.2.2.2.2.1 z.2.2.2.2.2.2.2.2.2.2.2.2.2.2.1) (λzk58=>(.seq .x (.seq .x (.seq (.body (.seq .x (.seq .x (.seq (.yl 15 17 0 .x .x) .x)))) .x))))))))) .x))))))) (.seq (.seq .x (.body (.loop ⟨[(112,[(0,.own 0),(1,.ptr 1 0),(5,.val 0),(6,.val 0),(63,.val 37),(64,.val 0),(65,.val 0)]),(100,[(6,.ptr 2 0),(99,.own 0)])],[.emp,.box 37 [.val 36],.box 64 [.own 3,.own 4],.row 3 0,.row 77 38]⟩ (λn=>kk8 (z0n φ n)) (λzk68=>(.seq .x (.seq .x (.seq (.body (.seq .x (.seq .x (.seq (.yl 11 17 0 .x .x) .x)))) .x))))))) (.seq (.seq .x (.body (.loop ⟨[(112,[(0,.own 0),(5,.val 0),(6,.val 0),(88,.val 36),(89,.val 0),(90,.val 0)]),(100,[(6,.ptr 1 0),(99,.own 0)])],[.emp,.box 64 [.own 2,.own 3],.row 3 0,.row 77 38]⟩ (λn=>kk7 (z1e φ n)) (λzk76=>(.seq .x (.seq .x (.seq (.body (.seq .x (.seq (.yl 7 17 0 .x .x) .x))) .x))))))) (.yl 6 17 0 .x .x))))))))) .x))))))))
def zcm(P:Program)(φ:Nat):Env TV:=⟨P,lk [(36,z4z φ),(37,z5x φ),(38,z6l φ),(43,z6n φ)],lk [],lk [],lk []⟩
theorem zq2(φ:Nat)(a):(z9j φ).F a=fnX TV (zcm Try.prog φ) φ Try.f17 [26,36,37] [.val 40,.val 0] (z9i φ) a:=by kernel_rfl
theorem zq1(φ:Nat):fnO TV (zcm Try.prog φ) φ Try.f17 [.val 40,.val 0] (z9i φ):=by
 unfold fnO;show obl _ _ _ _ _ _ _ _;unfold z9i
 repeat' (first|exact trivial |(refine⟨?_,?_⟩) |(intro _)|kernel_rfl)
theorem zgi[Dr](φ:Nat):z19 TV Try.prog 17 (z9j φ):=z1s (N:=zcm Try.prog φ) (z09 ⟨zca φ,zdi φ,ze2 φ,ze4 φ,trivial⟩ trivial trivial trivial) (z9i φ) Try.func17 (by kernel_rfl) (zq2 φ) (zq1 φ)
def z8e(φ:Nat):H TV (RTup TT [.val 27]):=.x
def zbn(P:Program)(φ:Nat):Env TV:=⟨P,lk [],lk [],lk [],lk []⟩
theorem znv(φ:Nat)(a):(z5n φ).F a=fnX TV (zbn Try.prog φ) φ Try.f42 [0,0,0] [.val 27] (z8e φ) a:=by kernel_rfl
theorem znu(φ:Nat):fnO TV (zbn Try.prog φ) φ Try.f42 [.val 27] (z8e φ):=by
 unfold fnO;show obl _ _ _ _ _ _ _ _;unfold z8e
 repeat' (first|exact trivial |(refine⟨?_,?_⟩) |(intro _)|kernel_rfl)
theorem zbo[Dr](φ:Nat):z19 TV Try.prog 42 (z5n φ):=z1s (N:=zbn Try.prog φ) (z09 trivial trivial trivial trivial) (z8e φ) Try.func42 (by kernel_rfl) (znv φ) (znu φ)
def zb4(φ:Nat):H TV (RTup TT [.val 0]):=(.seq .x (.seq .x (.seq .x (.seq (.seq .x (.body (.loop ⟨[(79,[(1,.ptr 0 0),(3,.val 0),(19,.val 22),(20,.val 0),(21,.val 0)])],[.box 64 [.val 40]]⟩ (λn=>kk5 (z50 φ n)) (λzk7=>.x)))) (.seq (.seq .x (.body (.loop ⟨[(79,[(1,.ptr 0 0),(3,.val 0),(33,.val 39),(34,.val 0),(35,.val 0)])],[.box 64 [.val 40]]⟩ (λn=>kk5 (z2k φ n)) (λzk14=>.x)))) .x)))))
def ze7(P:Program)(φ:Nat):Env TV:=⟨P,lk [(42,z5n φ)],lk [],lk [],lk []⟩
theorem zsz(φ:Nat)(a):(z8r φ).F a=fnX TV (ze7 Try.prog φ) φ Try.f19 [40] [.val 0] (zb4 φ) a:=by kernel_rfl
theorem zsy(φ:Nat):fnO TV (ze7 Try.prog φ) φ Try.f19 [.val 0] (zb4 φ):=by
 unfold fnO;show obl _ _ _ _ _ _ _ _;unfold zb4
 repeat' (first|exact trivial |(refine⟨?_,?_⟩) |(intro _)|kernel_rfl)
theorem ze8[Dr](φ:Nat):z19 TV Try.prog 19 (z8r φ):=z1s (N:=ze7 Try.prog φ) (z09 ⟨zbo φ,trivial⟩ trivial trivial trivial) (zb4 φ) Try.func19 (by kernel_rfl) (zsz φ) (zsy φ)
end Px
end
section
set_option maxHeartbeats 4000000
set_option maxRecDepth 100000
namespace Px
open Go Go.RowKit Go.Proofs
theorem zgn(φ:Nat)(k47 :((List Int)->(List Arc)->(List Int)->(List Int)->(List Int)->(List (List Int))->(List (List Int))->(List Int)->(List Int)->Option (Flow×Int×Unit)))(x224 :(List Int))(x225 :(List Arc))(x226 :(List Int))(x227 :(List Int))(x228 :(List ze))(x229 :(List Int))(x230 :(List Int))(x231 :(List Int))(x232 :(List (List Int)))(x233 :(List (List Int)))(x234 :(List Int))(x235 :(List Int)):z6g (z2b φ k47 x224 x225 x226 x227 x228 x229 x230 x231 x232 x233 x234 x235) (z98 φ k47 x224 x225 x226 x227 x228 x229 x230 x231 x232 x233 x234 x235):=by
 unfold z2b;unfold z98
 repeat' (first|exact z6g.one|exact z6g.nil|refine z6g.cons ?_ ?_|refine z6g.ck ?_|exact z6g.same (n:=2) rfl|exact z6g.same (n:=3) rfl|exact z6g.same (n:=4) rfl|exact z6g.same (n:=6) rfl|refine z6g.bind λ_=>?_)
theorem zgo(φ:Nat)(k47 :((List Int)->(List Arc)->(List Int)->(List Int)->(List Int)->(List (List Int))->(List (List Int))->(List Int)->(List Int)->Option (Flow×Int×Unit)))(x279:Int)(x280 :(List Int))(x281 :(List Arc))(x282 :(List Int))(x283 :(List Int))(x284 :(List Int))(x285 :(List (List Int)))(x286 :(List (List Int)))(x287 :(List Int))(x288 :(List Int))(x289 :(List ze))(x290 :(List Int))(x291 :(List Int)):z6g (z32 φ k47 x279 x280 x281 x282 x283 x284 x285 x286 x287 x288 x289 x290 x291) (z99 φ k47 x279 x280 x281 x282 x283 x284 x285 x286 x287 x288 x289 x290 x291):=by
 refine⟨λr h=>?_⟩;unfold z32 at h;unfold z99
 repeat (with_reducible (replace h:=ckS h);obtain⟨_,h⟩:=h)
 change Good r _
 repeat' (with_reducible first|assumption|exact Good.nil|refine Good.one ?_|refine Good.cons ?_ ?_|refine Good.ck ?_ ?_)
theorem zgp(φ:Nat)(x293:Int)(x294:zh)(x295 :(List Int))(x296 :(List Int)):z6g (z4n φ x293 x294 x295 x296) (z9a φ x293 x294 x295 x296):=by
 refine⟨λr h=>?_⟩;unfold z4n at h;unfold z9a
 repeat (first|unfold z8|unfold z0b|unfold zg|unfold z15|unfold z52|unfold z16|unfold z08|unfold z2u|unfold z7t|unfold zy|unfold z2v|unfold z1h|unfold z6s|unfold z0l)
 repeat (with_reducible (replace h:=ckS h);obtain⟨_,h⟩:=h)
 change Good r _
 repeat' (with_reducible first|assumption|exact Good.nil|refine Good.one ?_|refine Good.cons ?_ ?_|refine Good.ck ?_ ?_)
def zb5(φ:Nat):H TV (RTup TT [.val 41,.val 0]):=(.seq .x (.seq .x (.seq (.ins 1 40 (.seq .x (.seq .x (.seq (.join ⟨[(73,[(1,.ptr 0 0),(4,.ptr 1 0)]),(27,[(2,.ptr 2 0)])],[.box 64 [.val 40],.box 126 [.val 22,.val 39,.own 3,.own 4,.own 5,.own 6,.own 7],.box 68 [.own 8,.own 9],.row 3 0,.row 3 0,.row 3 0,.nst 42 3 22 none,.nst 42 3 22 none,.row 3 0,.row 3 0]⟩ (kk10 (z8d φ)) (.alt ⟨[(73,[(1,.ptr 0 0),(3,.val 0)]),(27,[(2,.ptr 1 0)])],[.box 64 [.val 40],.box 68 [.own 2,.own 3],.row 3 0,.row 3 0]⟩ (kk4 (z4n φ)) (kk4 (z9a φ)))) (.seq (.seq .x (.body (.loop ⟨[(73,[(4,.ptr 0 0),(28,.val 39),(29,.val 0),(30,.val 0)]),(27,[(2,.ptr 1 0)])],[.box 126 [.val 22,.val 39,.own 2,.own 3,.own 4,.own 5,.own 6],.box 68 [.own 7,.own 8],.row 3 0,.row 3 0,.row 3 0,.nst 42 3 22 none,.nst 42 3 22 none,.row 3 0,.row 3 0]⟩ (λn=>kk12 (z1a φ n)) (λzk26=>(.seq .x (.seq .x (.seq (.body (.seq .x (.seq (.foc (4,some 5) (6,some 0) .x) (.foc (4,some 6) (6,some 1) .x)))) .x))))))) .x)))) .x) (.seq (.seq (.join ⟨[(27,[(2,.ptr 0 0),(5,.ptr 1 0),(16,.val 27)])],[.box 68 [.own 2,.own 3],.box 126 [.val 22,.val 39,.own 4,.own 5,.own 6,.own 7,.own 8],.row 3 0,.row 3 0,.row 3 0,.row 3 0,.row 3 0,.nst 42 3 22 none,.nst 42 3 22 none]⟩ (kk10 (zbm φ)) (.ins 1 41 (.seq .x (.seq (.body (.loop ⟨[(19,[(0,.ptr 0 0)]),(27,[(2,.ptr 1 0),(5,.ptr 0 0)])],[.box 126 [.val 22,.val 39,.own 2,.own 3,.own 4,.own 5,.own 6],.box 68 [.own 7,.own 8],.row 3 0,.row 3 0,.row 3 0,.nst 42 3 22 none,.nst 42 3 22 none,.row 3 0,.row 3 0]⟩ (λn=>kk9 (z2l φ n)) (λzk47=>(.seq (.seq (.join ⟨[(19,[(0,.ptr 0 0),(6,.val 27)]),(27,[(2,.ptr 1 0),(5,.ptr 0 0)])],[.box 126 [.val 22,.val 39,.own 2,.own 3,.own 4,.own 5,.own 6],.box 68 [.own 7,.own 8],.row 3 0,.row 3 0,.row 3 0,.nst 42 3 22 none,.nst 42 3 22 none,.row 3 0,.row 3 0]⟩ (λz=>z22 φ (λa0 a1 a2 a3 a4 a5 a6 a7 a8=>zk47 (a0,a1,a2,a3,a4,a5,a6,a7,a8,())) z.1 z.2.1 z.2.2.1 z.2.2.2.1 z.2.2.2.2.1 z.2.2.2.2.2.1 z.2.2.2.2.2.2.1 z.2.2.2.2.2.2.2.1 z.2.2.2.2.2.2.2.2.1 z.2.2.2.2.2.2.2.2.2.1) (.ins 1 63 (.seq .x (.seq (.ins 1 80 (.seq .x (.body (.seq .x (.seq (.join ⟨[(121,[(0,.ptr 0 0),(2,.ptr 1 0),(3,.ptr 2 0),(4,.ptr 3 0),(5,.val 0)]),(193,[(0,.ptr 0 0)]),(19,[(0,.ptr 0 0)]),(27,[(2,.ptr 4 0),(5,.ptr 0 0)])],[.box 126 [.val 22,.val 39,.own 5,.own 6,.own 7,.own 8,.own 9],.box 42 [.own 10],.box 42 [.own 11],.box 185 [.own 12],.box 68 [.own 13,.own 14],.row 3 0,.row 3 0,.row 3 0,.nst 42 3 22 none,.nst 42 3 22 none,.row 3 0,.row 3 0,.row 189 43,.row 3 0,.row 3 0]⟩ (λz=>zz φ (λa0 a1 a2 a3 a4 a5 a6 a7 a8=>zk47 (a0,a1,a2,a3,a4,a5,a6,a7,a8,())) z.1 z.2.1 z.2.2.1 z.2.2.2.1 z.2.2.2.2.1 z.2.2.2.2.2.1 z.2.2.2.2.2.2.1 z.2.2.2.2.2.2.2.1 z.2.2.2.2.2.2.2.2.1 z.2.2.2.2.2.2.2.2.2.1 z.2.2.2.2.2.2.2.2.2.2.1 z.2.2.2.2.2.2.2.2.2.2.2.1 z.2.2.2.2.2.2.2.2.2.2.2.2.1) (.alt ⟨[(121,[(0,.ptr 0 0),(2,.ptr 1 0),(3,.ptr 2 0),(4,.ptr 3 0),(5,.val 0)]),(193,[(0,.ptr 0 0)]),(19,[(0,.ptr 0 0)]),(27,[(2,.ptr 4 0),(5,.ptr 0 0)])],[.box 126 [.val 22,.val 39,.own 5,.own 6,.own 7,.own 8,.own 9],.box 42 [.own 10],.box 42 [.own 11],.box 185 [.own 12],.box 68 [.own 13,.own 14],.row 3 0,.row 3 0,.row 3 0,.nst 42 3 22 none,.nst 42 3 22 none,.row 3 0,.row 3 0,.row 189 43,.row 3 0,.row 3 0]⟩ (λz=>z32 φ (λa0 a1 a2 a3 a4 a5 a6 a7 a8=>zk47 (a0,a1,a2,a3,a4,a5,a6,a7,a8,())) z.1 z.2.1 z.2.2.1 z.2.2.2.1 z.2.2.2.2.1 z.2.2.2.2.2.1 z.2.2.2.2.2.2.1 z.2.2.2.2.2.2.2.1 z.2.2.2.2.2.2.2.2.1 z.2.2.2.2.2.2.2.2.2.1 z.2.2.2.2.2.2.2.2.2.2.1 z.2.2.2.2.2.2.2.2.2.2.2.1 z.2.2.2.2.2.2.2.2.2.2.2.2.1) (λz=>z99 φ (λa0 a1 a2 a3 a4 a5 a6 a7 a8=>zk47 (a0,a1,a2,a3,a4,a5,a6,a7,a8,())) z.1 z.2.1 z.2.2.1 z.2.2.2.1 z.2.2.2.2.1 z.2.2.2.2.2.1 z.2.2.2.2.2.2.1 z.2.2.2.2.2.2.2.1 z.2.2.2.2.2.2.2.2.1 z.2.2.2.2.2.2.2.2.2.1 z.2.2.2.2.2.2.2.2.2.2.1 z.2.2.2.2.2.2.2.2.2.2.2.1 z.2.2.2.2.2.2.2.2.2.2.2.2.1))) (.seq (.seq .x (.body (.loop ⟨[(121,[(0,.ptr 0 0),(2,.ptr 1 0),(3,.ptr 2 0),(4,.ptr 3 0),(5,.val 0),(23,.val 0),(24,.val 0)]),(193,[(0,.ptr 0 0)]),(19,[(0,.ptr 0 0)]),(27,[(2,.ptr 4 0),(5,.ptr 0 0)])],[.box 126 [.val 22,.val 39,.own 5,.own 6,.own 7,.own 8,.own 9],.box 42 [.own 10],.box 42 [.own 11],.box 185 [.own 12],.box 68 [.own 13,.own 14],.row 3 0,.row 3 0,.row 3 0,.nst 42 3 22 none,.nst 42 3 22 none,.row 3 0,.row 3 0,.row 189 43,.row 3 0,.row 3 0]⟩ (λn z=>z1g φ (λa0 a1 a2 a3 a4 a5 a6 a7 a8=>zk47 (a0,a1,a2,a3,a4,a5,a6,a7,a8,())) n z.1 z.2.1 z.2.2.1 z.2.2.2.1 z.2.2.2.2.1 z.2.2.2.2.2.1 z.2.2.2.2.2.2.1 z.2.2.2.2.2.2.2.1 z.2.2.2.2.2.2.2.2.1 z.2.2.2.2.2.2.2.2.2.1 z.2.2.2.2.2.2.2.2.2.2.1 z.2.2.2.2.2.2.2.2.2.2.2.1 z.2.2.2.2.2.2.2.2.2.2.2.2.1 z.2.2.2.2.2.2.2.2.2.2.2.2.2.1 z.2.2.2.2.2.2.2.2.2.2.2.2.2.2.1) (λzk100=>.x)))) (.seq .x (.seq .x (.seq (.body (.loop ⟨[(121,[(0,.ptr 0 0),(2,.ptr 1 0),(3,.ptr 2 0),(4,.ptr 3 0),(5,.val 0),(7,.own 4)]),(193,[(0,.ptr 0 0)]),(19,[(0,.ptr 0 0)]),(27,[(2,.ptr 5 0),(5,.ptr 0 0)])],[.box 126 [.val 22,.val 39,.own 6,.own 7,.own 8,.own 9,.own 10],.box 42 [.own 11],.box 42 [.own 12],.box 185 [.own 13],.fix 4 27,.box 68 [.own 14,.own 15],.row 3 0,.row 3 0,.row 3 0,.nst 42 3 22 none,.nst 42 3 22 none,.row 3 0,.row 3 0,.row 189 43,.row 3 0,.row 3 0]⟩ (λn z=>z3u φ (λa0 a1 a2 a3 a4 a5 a6 a7 a8=>zk47 (a0,a1,a2,a3,a4,a5,a6,a7,a8,())) n z.1 z.2.1 z.2.2.1 z.2.2.2.1 z.2.2.2.2.1 z.2.2.2.2.2.1 z.2.2.2.2.2.2.1 z.2.2.2.2.2.2.2.1 z.2.2.2.2.2.2.2.2.1 z.2.2.2.2.2.2.2.2.2.1 z.2.2.2.2.2.2.2.2.2.2.1 z.2.2.2.2.2.2.2.2.2.2.2.1 z.2.2.2.2.2.2.2.2.2.2.2.2.1 z.2.2.2.2.2.2.2.2.2.2.2.2.2.1) (λzk115=>(.body (.seq .x (.seq (.seq .x (.body (.loop ⟨[(121,[(0,.ptr 0 0),(2,.ptr 1 0),(3,.ptr 2 0),(4,.ptr 3 0),(5,.val 0),(7,.own 4),(8,.ptr 5 0),(47,.val 0),(48,.val 0)]),(193,[(0,.ptr 0 0)]),(19,[(0,.ptr 0 0)]),(27,[(2,.ptr 6 0),(5,.ptr 0 0)])],[.box 126 [.val 22,.val 39,.own 7,.own 8,.own 9,.own 10,.own 11],.box 42 [.own 12],.box 42 [.own 13],.box 185 [.own 14],.fix 4 27,.box 3 [.val 0],.box 68 [.own 15,.own 16],.row 3 0,.row 3 0,.row 3 0,.nst 42 3 22 none,.nst 42 3 22 none,.row 3 0,.row 3 0,.row 189 43,.row 3 0,.row 3 0]⟩ (λn z=>z0y φ (λa0 a1 a2 a3 a4 a5 a6 a7 a8=>zk47 (a0,a1,a2,a3,a4,a5,a6,a7,a8,())) (λa0 a1 a2 a3 a4 a5 a6 a7 a8 a9 a10 a11 a12 a13=>zk115 (a0,a1,a2,a3,a4,a5,a6,a7,a8,a9,a10,a11,a12,a13,())) n z.1 z.2.1 z.2.2.1 z.2.2.2.1 z.2.2.2.2.1 z.2.2.2.2.2.1 z.2.2.2.2.2.2.1 z.2.2.2.2.2.2.2.1 z.2.2.2.2.2.2.2.2.1 z.2.2.2.2.2.2.2.2.2.1 z.2.2.2.2.2.2.2.2.2.2.1 z.2.2.2.2.2.2.2.2.2.2.2.1 z.2.2.2.2.2.2.2.2.2.2.2.2.1 z.2.2.2.2.2.2.2.2.2.2.2.2.2.1 z.2.2.2.2.2.2.2.2.2.2.2.2.2.2.1 z.2.2.2.2.2.2.2.2.2.2.2.2.2.2.2.1 z.2.2.2.2.2.2.2.2.2.2.2.2.2.2.2.2.1) (λzk133=>.x)))) (.seq .x (.seq .x (.seq .x (.body (.rf 80 0 110 (.seq (.seq (.foc (1,some 1005) (2,some 0) .x) (.body (.loop ⟨[(137,[(0,.own 0),(1,.ptr 1 0),(2,.ptr 2 0),(17,.own 3),(18,.val 0),(19,.val 0)]),(122,[(0,.ptr 4 0),(2,.ptr 5 0),(3,.ptr 6 0),(4,.ptr 7 0),(5,.val 0),(7,.own 8),(8,.ptr 9 0),(121,.own 0)]),(193,[(0,.ptr 4 0)]),(19,[(0,.ptr 4 0)]),(27,[(2,.ptr 10 0),(5,.ptr 4 0)])],[.emp,.box 122 [.ptr 4 0],.box 3 [.val 0],.row 3 0,.box 126 [.val 22,.val 39,.own 11,.own 12,.own 13,.own 14,.own 15],.box 42 [.own 16],.box 42 [.own 17],.box 185 [.own 18],.fix 4 27,.box 3 [.val 0],.box 68 [.own 19,.own 20],.row 3 0,.row 3 0,.row 3 0,.nst 42 3 22 (some 3),.nst 42 3 22 none,.row 3 0,.row 3 0,.row 189 43,.row 3 0,.row 3 0]⟩ (λn z=>z0g φ (λa0 a1 a2 a3 a4 a5 a6 a7 a8 a9 a10 a11 a12 a13=>zk115 (a0,a1,a2,a3,a4,a5,a6,a7,a8,a9,a10,a11,a12,a13,())) n z.1 z.2.1 z.2.2.1 z.2.2.2.1 z.2.2.2.2.1 z.2.2.2.2.2.1 z.2.2.2.2.2.2.1 z.2.2.2.2.2.2.2.1 z.2.2.2.2.2.2.2.2.1 z.2.2.2.2.2.2.2.2.2.1 z.2.2.2.2.2.2.2.2.2.2.1 z.2.2.2.2.2.2.2.2.2.2.2.1 z.2.2.2.2.2.2.2.2.2.2.2.2.1 z.2.2.2.2.2.2.2.2.2.2.2.2.2.1 z.2.2.2.2.2.2.2.2.2.2.2.2.2.2.1 z.2.2.2.2.2.2.2.2.2.2.2.2.2.2.2.1 z.2.2.2.2.2.2.2.2.2.2.2.2.2.2.2.2.1 z.2.2.2.2.2.2.2.2.2.2.2.2.2.2.2.2.2.1 z.2.2.2.2.2.2.2.2.2.2.2.2.2.2.2.2.2.2.1 z.2.2.2.2.2.2.2.2.2.2.2.2.2.2.2.2.2.2.2.1) (λzk257=>(.seq .x (.seq .x (.seq (.body (.seq .x (.seq .x (.seq .x (.seq (.yl 28 80 0 .x .x) .x))))) .x))))))) (.seq (.foc (1,some 1006) (2,some 0) .x) (.body (.loop ⟨[(137,[(0,.own 0),(1,.ptr 1 0),(2,.ptr 2 0),(79,.own 3),(80,.val 0),(81,.val 0)]),(122,[(0,.ptr 4 0),(2,.ptr 5 0),(3,.ptr 6 0),(4,.ptr 7 0),(5,.val 0),(7,.own 8),(8,.ptr 9 0),(121,.own 0)]),(193,[(0,.ptr 4 0)]),(19,[(0,.ptr 4 0)]),(27,[(2,.ptr 10 0),(5,.ptr 4 0)])],[.emp,.box 122 [.ptr 4 0],.box 3 [.val 0],.row 3 0,.box 126 [.val 22,.val 39,.own 11,.own 12,.own 13,.own 14,.own 15],.box 42 [.own 16],.box 42 [.own 17],.box 185 [.own 18],.fix 4 27,.box 3 [.val 0],.box 68 [.own 19,.own 20],.row 3 0,.row 3 0,.row 3 0,.nst 42 3 22 none,.nst 42 3 22 (some 3),.row 3 0,.row 3 0,.row 189 43,.row 3 0,.row 3 0]⟩ (λn z=>z0h φ (λa0 a1 a2 a3 a4 a5 a6 a7 a8 a9 a10 a11 a12 a13=>zk115 (a0,a1,a2,a3,a4,a5,a6,a7,a8,a9,a10,a11,a12,a13,())) n z.1 z.2.1 z.2.2.1 z.2.2.2.1 z.2.2.2.2.1 z.2.2.2.2.2.1 z.2.2.2.2.2.2.1 z.2.2.2.2.2.2.2.1 z.2.2.2.2.2.2.2.2.1 z.2.2.2.2.2.2.2.2.2.1 z.2.2.2.2.2.2.2.2.2.2.1 z.2.2.2.2.2.2.2.2.2.2.2.1 z.2.2.2.2.2.2.2.2.2.2.2.2.1 z.2.2.2.2.2.2.2.2.2.2.2.2.2.1 z.2.2.2.2.2.2.2.2.2.2.2.2.2.2.1 z.2.2.2.2.2.2.2.2.2.2.2.2.2.2.2.1 z.2.2.2.2.2.2.2.2.2.2.2.2.2.2.2.2.1 z.2.2.2.2.2.2.2.2.2.2.2.2.2.2.2.2.2.1 z.2.2.2.2.2.2.2.2.2.2.2.2.2.2.2.2.2.2.1 z.2.2.2.2.2.2.2.2.2.2.2.2.2.2.2.2.2.2.2.1) (λzk278=>(.seq .x (.seq .x (.seq (.body (.seq .x (.seq .x (.seq (.yl 40 80 0 .x .x) .x)))) .x))))))))))))))))))) (.seq (.join ⟨[(121,[(2,.ptr 0 0),(3,.ptr 1 0),(4,.ptr 2 0)]),(193,[(0,.ptr 3 0)]),(19,[(0,.ptr 3 0)]),(27,[(2,.ptr 4 0),(5,.ptr 3 0)])],[.box 42 [.own 5],.box 42 [.own 6],.box 185 [.own 7],.box 126 [.val 22,.val 39,.own 8,.own 9,.own 10,.own 11,.own 12],.box 68 [.own 13,.own 14],.row 3 0,.row 3 0,.row 189 43,.row 3 0,.row 3 0,.row 3 0,.nst 42 3 22 none,.nst 42 3 22 none,.row 3 0,.row 3 0]⟩ (λz=>z0q φ (λa0 a1 a2 a3 a4 a5 a6 a7 a8=>zk47 (a0,a1,a2,a3,a4,a5,a6,a7,a8,())) z.1 z.2.1 z.2.2.1 z.2.2.2.1 z.2.2.2.2.1 z.2.2.2.2.2.1 z.2.2.2.2.2.2.1 z.2.2.2.2.2.2.2.1 z.2.2.2.2.2.2.2.2.1 z.2.2.2.2.2.2.2.2.2.1 z.2.2.2.2.2.2.2.2.2.2.1 z.2.2.2.2.2.2.2.2.2.2.2.1) (.alt ⟨[(121,[(2,.ptr 0 0),(3,.ptr 1 0),(4,.ptr 2 0)]),(193,[(0,.ptr 3 0)]),(19,[(0,.ptr 3 0)]),(27,[(2,.ptr 4 0),(5,.ptr 3 0)])],[.box 42 [.own 5],.box 42 [.own 6],.box 185 [.own 7],.box 126 [.val 22,.val 39,.own 8,.own 9,.own 10,.own 11,.own 12],.box 68 [.own 13,.own 14],.row 3 0,.row 3 0,.row 189 43,.row 3 0,.row 3 0,.row 3 0,.nst 42 3 22 none,.nst 42 3 22 none,.row 3 0,.row 3 0]⟩ (λz=>z2b φ (λa0 a1 a2 a3 a4 a5 a6 a7 a8=>zk47 (a0,a1,a2,a3,a4,a5,a6,a7,a8,())) z.1 z.2.1 z.2.2.1 z.2.2.2.1 z.2.2.2.2.1 z.2.2.2.2.2.1 z.2.2.2.2.2.2.1 z.2.2.2.2.2.2.2.1 z.2.2.2.2.2.2.2.2.1 z.2.2.2.2.2.2.2.2.2.1 z.2.2.2.2.2.2.2.2.2.2.1 z.2.2.2.2.2.2.2.2.2.2.2.1) (λz=>z98 φ (λa0 a1 a2 a3 a4 a5 a6 a7 a8=>zk47 (a0,a1,a2,a3,a4,a5,a6,a7,a8,())) z.1 z.2.1 z.2.2.1 z.2.2.2.1 z.2.2.2.2.1 z.2.2.2.2.2.1 z.2.2.2.2.2.2.1 z.2.2.2.2.2.2.2.1 z.2.2.2.2.2.2.2.2.1 z.2.2.2.2.2.2.2.2.2.1 z.2.2.2.2.2.2.2.2.2.2.1 z.2.2.2.2.2.2.2.2.2.2.2.1))) .x))))))))) .x) (.seq .x (.seq (.seq .x (.body (.loop ⟨[(193,[(0,.ptr 0 0),(3,.own 1),(4,.own 2),(5,.own 3),(6,.val 0),(7,.val 0),(21,.own 1),(22,.val 0),(23,.val 0)]),(19,[(0,.ptr 0 0)]),(27,[(2,.ptr 4 0),(5,.ptr 0 0)])],[.box 126 [.val 22,.val 39,.own 5,.own 6,.own 7,.own 8,.own 9],.row 3 0,.row 3 0,.row 189 43,.box 68 [.own 10,.own 11],.row 3 0,.row 3 0,.row 3 0,.nst 42 3 22 none,.nst 42 3 22 none,.row 3 0,.row 3 0]⟩ (λn z=>z0o φ (λa0 a1 a2 a3 a4 a5 a6 a7 a8=>zk47 (a0,a1,a2,a3,a4,a5,a6,a7,a8,())) n z.1 z.2.1 z.2.2.1 z.2.2.2.1 z.2.2.2.2.1 z.2.2.2.2.2.1 z.2.2.2.2.2.2.1 z.2.2.2.2.2.2.2.1 z.2.2.2.2.2.2.2.2.1 z.2.2.2.2.2.2.2.2.2.1 z.2.2.2.2.2.2.2.2.2.2.1 z.2.2.2.2.2.2.2.2.2.2.2.1 z.2.2.2.2.2.2.2.2.2.2.2.2.1 z.2.2.2.2.2.2.2.2.2.2.2.2.2.1 z.2.2.2.2.2.2.2.2.2.2.2.2.2.2.1 z.2.2.2.2.2.2.2.2.2.2.2.2.2.2.2.1) (λzk163=>.x)))) (.seq .x (.seq (.seq .x (.body (.loop ⟨[(193,[(0,.ptr 0 0),(4,.own 1),(5,.own 2),(6,.val 0),(7,.val 0),(57,.own 3),(58,.val 0),(59,.val 0)]),(19,[(0,.ptr 0 0)]),(27,[(2,.ptr 4 0),(5,.ptr 0 0)])],[.box 126 [.val 22,.val 39,.own 5,.own 6,.own 7,.own 8,.own 9],.row 3 0,.row 189 43,.row 3 0,.box 68 [.own 10,.own 11],.row 3 0,.row 3 0,.row 3 0,.nst 42 3 22 none,.nst 42 3 22 none,.row 3 0,.row 3 0]⟩ (λn z=>z0z φ (λa0 a1 a2 a3 a4 a5 a6 a7 a8=>zk47 (a0,a1,a2,a3,a4,a5,a6,a7,a8,())) n z.1 z.2.1 z.2.2.1 z.2.2.2.1 z.2.2.2.2.1 z.2.2.2.2.2.1 z.2.2.2.2.2.2.1 z.2.2.2.2.2.2.2.1 z.2.2.2.2.2.2.2.2.1 z.2.2.2.2.2.2.2.2.2.1 z.2.2.2.2.2.2.2.2.2.2.1 z.2.2.2.2.2.2.2.2.2.2.2.1 z.2.2.2.2.2.2.2.2.2.2.2.2.1 z.2.2.2.2.2.2.2.2.2.2.2.2.2.1 z.2.2.2.2.2.2.2.2.2.2.2.2.2.2.1 z.2.2.2.2.2.2.2.2.2.2.2.2.2.2.2.1) (λzk180=>.x)))) (.seq .x (.seq (.body (.loop ⟨[(193,[(0,.ptr 0 0),(4,.own 1),(5,.own 2),(6,.val 0),(12,.val 0),(13,.val 0)]),(19,[(0,.ptr 0 0)]),(27,[(2,.ptr 3 0),(5,.ptr 0 0)])],[.box 126 [.val 22,.val 39,.own 4,.own 5,.own 6,.own 7,.own 8],.row 3 0,.row 189 43,.box 68 [.own 9,.own 10],.row 3 0,.row 3 0,.row 3 0,.nst 42 3 22 none,.nst 42 3 22 none,.row 3 0,.row 3 0]⟩ (λn z=>z0p φ (λa0 a1 a2 a3 a4 a5 a6 a7 a8=>zk47 (a0,a1,a2,a3,a4,a5,a6,a7,a8,())) n z.1 z.2.1 z.2.2.1 z.2.2.2.1 z.2.2.2.2.1 z.2.2.2.2.2.1 z.2.2.2.2.2.2.1 z.2.2.2.2.2.2.2.1 z.2.2.2.2.2.2.2.2.1 z.2.2.2.2.2.2.2.2.2.1 z.2.2.2.2.2.2.2.2.2.2.1 z.2.2.2.2.2.2.2.2.2.2.2.1 z.2.2.2.2.2.2.2.2.2.2.2.2.1 z.2.2.2.2.2.2.2.2.2.2.2.2.2.1) (λzk195=>.x))) (.seq .x (.seq .x (.seq .x (.seq (.seq .x (.body (.loop ⟨[(193,[(0,.ptr 0 0),(4,.own 1),(5,.own 2),(12,.val 0),(13,.val 0)]),(19,[(0,.ptr 0 0)]),(27,[(2,.ptr 3 0),(5,.ptr 0 0)])],[.box 126 [.val 22,.val 39,.own 4,.own 5,.own 6,.own 7,.own 8],.row 3 0,.row 189 43,.box 68 [.own 9,.own 10],.row 3 0,.row 3 0,.row 3 0,.nst 42 3 22 none,.nst 42 3 22 none,.row 3 0,.row 3 0]⟩ (λn z=>z2a φ (λa0 a1 a2 a3 a4 a5 a6 a7 a8=>zk47 (a0,a1,a2,a3,a4,a5,a6,a7,a8,())) n z.1 z.2.1 z.2.2.1 z.2.2.2.1 z.2.2.2.2.1 z.2.2.2.2.2.1 z.2.2.2.2.2.2.1 z.2.2.2.2.2.2.2.1 z.2.2.2.2.2.2.2.2.1 z.2.2.2.2.2.2.2.2.2.1 z.2.2.2.2.2.2.2.2.2.2.1 z.2.2.2.2.2.2.2.2.2.2.2.1 z.2.2.2.2.2.2.2.2.2.2.2.2.1) (λzk209=>(.seq .x (.seq (.join ⟨[(193,[(0,.ptr 0 0),(4,.own 1),(5,.own 2),(12,.val 0),(13,.val 0)]),(19,[(0,.ptr 0 0)]),(27,[(2,.ptr 3 0),(5,.ptr 0 0)])],[.box 126 [.val 22,.val 39,.own 4,.own 5,.own 6,.own 7,.own 8],.row 3 0,.row 189 43,.box 68 [.own 9,.own 10],.row 3 0,.row 3 0,.row 3 0,.nst 42 3 22 none,.nst 42 3 22 none,.row 3 0,.row 3 0]⟩ (λz=>z4o φ (λa0 a1 a2 a3 a4 a5 a6 a7 a8 a9 a10 a11 a12=>zk209 (a0,a1,a2,a3,a4,a5,a6,a7,a8,a9,a10,a11,a12,())) z.1 z.2.1 z.2.2.1 z.2.2.2.1 z.2.2.2.2.1 z.2.2.2.2.2.1 z.2.2.2.2.2.2.1 z.2.2.2.2.2.2.2.1 z.2.2.2.2.2.2.2.2.1 z.2.2.2.2.2.2.2.2.2.1 z.2.2.2.2.2.2.2.2.2.2.1 z.2.2.2.2.2.2.2.2.2.2.2.1 z.2.2.2.2.2.2.2.2.2.2.2.2.1) (.body .x)) .x)))))) .x)))))))))))) .x)) .x) .x)))) (.seq (.seq .x (.body (.loop ⟨[(19,[(10,.own 0),(11,.val 0),(12,.val 0)]),(27,[(2,.ptr 1 0),(5,.ptr 2 0)])],[.row 3 0,.box 68 [.own 3,.own 4],.box 126 [.val 22,.val 39,.own 5,.own 0,.own 6,.own 7,.own 8],.row 3 0,.row 3 0,.row 3 0,.row 3 0,.nst 42 3 22 none,.nst 42 3 22 none]⟩ (λn=>kk11 (z2m φ n)) (λzk70=>.x)))) .x))) .x)) .x) .x))))
def zea(P:Program)(φ:Nat):Env TV:=⟨P,lk [(19,z8r φ)],lk [],lk [],lk []⟩
theorem zt2(φ:Nat)(a):(zeb φ).F a=fnX TV (zea Try.prog φ) φ Try.f18 [40] [.val 41,.val 0] (zb5 φ) a:=by kernel_rfl
theorem zt1(φ:Nat):fnO TV (zea Try.prog φ) φ Try.f18 [.val 41,.val 0] (zb5 φ):=by
 unfold fnO;show obl _ _ _ _ _ _ _ _;unfold zb5
 repeat' (first|exact trivial |(refine⟨?_,?_⟩) |(intro _) |(as_aux_lemma=>kernel_rfl)|exact zgn ..|exact zgo ..|exact zgp ..)
theorem zt0[Dr](φ:Nat):z19 TV Try.prog 18 (zeb φ):=z1s (N:=zea Try.prog φ) (z09 ⟨ze8 φ,trivial⟩ trivial trivial trivial) (zb5 φ) Try.func18 (by kernel_rfl) (zt2 φ) (zt1 φ)
end Px
end
section
set_option maxHeartbeats 4000000
set_option maxRecDepth 100000
namespace Px
open Go Go.RowKit Go.Proofs
def z6v(φ:Nat):H TV (RTup TT [.val 27]):=(.seq .x (.seq .x (.seq .x (.seq (.seq .x (.body (.loop ⟨[(72,[(3,.ptr 0 0),(5,.own 1),(22,.val 39),(23,.val 0),(24,.val 0)])],[.box 68 [.val 41],.row 3 0]⟩ (λn=>kk5 (z2g φ n)) (λzk8=>.x)))) (.seq (.seq .x (.body (.loop ⟨[(72,[(63,.own 0),(64,.val 0),(65,.val 0)])],[.row 3 0]⟩ (λn=>kk3 (z17 φ n)) (λzk13=>.x)))) .x)))))
def zaa(P:Program)(φ:Nat):Env TV:=⟨P,lk [(42,z5n φ)],lk [],lk [],lk []⟩
theorem zly(φ:Nat)(a):(z6w φ).F a=fnX TV (zaa Try.prog φ) φ Try.f50 [40,41] [.val 27] (z6v φ) a:=by kernel_rfl
theorem zlx(φ:Nat):fnO TV (zaa Try.prog φ) φ Try.f50 [.val 27] (z6v φ):=by
 unfold fnO;show obl _ _ _ _ _ _ _ _;unfold z6v
 repeat' (first|exact trivial |(refine⟨?_,?_⟩) |(intro _)|kernel_rfl)
theorem zec[Dr](φ:Nat):z19 TV Try.prog 50 (z6w φ):=z1s (N:=zaa Try.prog φ) (z09 ⟨zbo φ,trivial⟩ trivial trivial trivial) (z6v φ) Try.func50 (by kernel_rfl) (zly φ) (zlx φ)
def zd0(φ:Nat):H TV (RTup TT [.val 0,.val 0]):=(.seq .x (.seq .x (.seq .x (.seq .x (.seq (.seq .x (.body (.loop ⟨[(45,[(3,.ptr 0 0),(7,.val 0),(21,.val 39),(22,.val 0),(23,.val 0)])],[.box 68 [.val 41]]⟩ (λn=>kk5 (z3f φ n)) (λzk10=>.x)))) .x)))))
def zft(P:Program)(φ:Nat):Env TV:=⟨P,lk [(19,z8r φ),(50,z6w φ)],lk [],lk [],lk []⟩
theorem zv7(φ:Nat)(a):(zd1 φ).F a=fnX TV (zft Try.prog φ) φ Try.f28 [40,41] [.val 0,.val 0] (zd0 φ) a:=by kernel_rfl
theorem zv6(φ:Nat):fnO TV (zft Try.prog φ) φ Try.f28 [.val 0,.val 0] (zd0 φ):=by
 unfold fnO;show obl _ _ _ _ _ _ _ _;unfold zd0
 repeat' (first|exact trivial |(refine⟨?_,?_⟩) |(intro _)|kernel_rfl)
theorem zlw[Dr](φ:Nat):z19 TV Try.prog 28 (zd1 φ):=z1s (N:=zft Try.prog φ) (z09 ⟨ze8 φ,zec φ,trivial⟩ trivial trivial trivial) (zd0 φ) Try.func28 (by kernel_rfl) (zv7 φ) (zv6 φ)
def z6i(φ:Nat):H TV (RTup TT [.val 47,.val 0]):=(.seq .x (.seq .x (.seq .x (.seq .x (.seq .x (.seq .x (.seq .x (.seq (.seq .x (.body (.loop ⟨[(93,[(1,.val 36),(2,.val 37),(6,.ptr 0 0),(9,.ptr 1 0),(43,.val 39),(44,.val 0),(45,.val 0)])],[.box 44 [.own 2,.val 0,.val 22],.box 68 [.val 41],.row 60 45]⟩ (λn=>kk9 (z0i φ n)) (λzk16=>.x)))) .x))))))))
def za0(P:Program)(φ:Nat):Env TV:=⟨P,lk [(17,z9j φ),(18,zeb φ),(28,zd1 φ)],lk [],lk [],lk []⟩
theorem zli(φ:Nat)(a):(z4k φ).F a=fnX TV (za0 Try.prog φ) φ Try.f11 [26,36,37] [.val 47,.val 0] (z6i φ) a:=by kernel_rfl
theorem zlh(φ:Nat):fnO TV (za0 Try.prog φ) φ Try.f11 [.val 47,.val 0] (z6i φ):=by
 unfold fnO;show obl _ _ _ _ _ _ _ _;unfold z6i
 repeat' (first|exact trivial |(refine⟨?_,?_⟩) |(intro _)|kernel_rfl)
theorem za1[Dr](φ:Nat):z19 TV Try.prog 11 (z4k φ):=z1s (N:=za0 Try.prog φ) (z09 ⟨zgi φ,zt0 φ,zlw φ,trivial⟩ trivial trivial trivial) (z6i φ) Try.func11 (by kernel_rfl) (zli φ) (zlh φ)
def z4f(φ:Nat):H TV (RTup TT [.val 55]):=(.seq .x (.seq .x (.seq (.seq .x (.body (.loop ⟨[(28,[(0,.val 0),(3,.own 0),(4,.val 0)])],[.row 152 32]⟩ (λn=>kk3 (z66 φ n)) (λzk5=>.x)))) .x)))
def z76(P:Program)(φ:Nat):Env TV:=⟨P,lk [],lk [],lk [],lk []⟩
theorem zh7(φ:Nat)(a):(z77 φ).F a=fnX TV (z76 Try.prog φ) φ Try.f51 [0] [.val 55] (z4f φ) a:=by kernel_rfl
theorem zh6(φ:Nat):fnO TV (z76 Try.prog φ) φ Try.f51 [.val 55] (z4f φ):=by
 unfold fnO;show obl _ _ _ _ _ _ _ _;unfold z4f
 repeat' (first|exact trivial |(refine⟨?_,?_⟩) |(intro _)|kernel_rfl)
theorem zh5[Dr](φ:Nat):z19 TV Try.prog 51 (z77 φ):=z1s (N:=z76 Try.prog φ) (z09 trivial trivial trivial trivial) (z4f φ) Try.func51 (by kernel_rfl) (zh7 φ) (zh6 φ)
def z57(φ:Nat):H TV (RTup TT [.val 5]):=(.seq .x (.seq .x (.seq (.seq .x (.body (.loop ⟨[(93,[(0,.val 0),(2,.ptr 0 0),(3,.ptr 1 0),(4,.val 0)])],[.box 25 [.own 2,.own 3],.box 25 [.own 4,.own 5],.row 137 1,.row 139 3,.row 137 1,.row 139 3]⟩ (λn=>kk6 (z7a φ n)) (λzk8=>.x)))) (.seq .x (.seq (.seq .x (.body (.loop ⟨[(93,[(0,.val 0),(2,.ptr 0 0),(3,.ptr 1 0),(5,.val 55),(6,.val 0)])],[.box 25 [.own 2,.own 3],.box 25 [.own 4,.own 5],.row 137 1,.row 139 3,.row 137 1,.row 139 3]⟩ (λn=>kk7 (z67 φ n)) (λzk17=>.x)))) .x)))))
def z82(P:Program)(φ:Nat):Env TV:=⟨P,lk [(51,z77 φ)],lk [],lk [],lk []⟩
theorem zih(φ:Nat)(a):(z83 φ).F a=fnX TV (z82 Try.prog φ) φ Try.f29 [0] [.val 5] (z57 φ) a:=by kernel_rfl
theorem zig(φ:Nat):fnO TV (z82 Try.prog φ) φ Try.f29 [.val 5] (z57 φ):=by
 unfold fnO;show obl _ _ _ _ _ _ _ _;unfold z57
 repeat' (first|exact trivial |(refine⟨?_,?_⟩) |(intro _)|kernel_rfl)
theorem zif[Dr](φ:Nat):z19 TV Try.prog 29 (z83 φ):=z1s (N:=z82 Try.prog φ) (z09 ⟨zh5 φ,trivial⟩ trivial trivial trivial) (z57 φ) Try.func29 (by kernel_rfl) (zih φ) (zig φ)
def z79(φ:Nat):H TV (RTup TT [.val 15]):=(.seq .x (.seq .x (.seq (.seq .x (.body (.loop ⟨[(38,[(0,.val 0),(1,.val 0),(4,.ptr 0 0),(5,.ptr 1 0),(6,.val 0)])],[.box 31 [.own 2,.own 3,.own 4,.own 5],.box 31 [.own 6,.own 7,.own 8,.own 9],.row 141 7,.row 154 9,.row 143 11,.row 145 13,.row 141 7,.row 154 9,.row 143 11,.row 145 13]⟩ (λn=>kk11 (z81 φ n)) (λzk14=>.x)))) .x)))
def zao(P:Program)(φ:Nat):Env TV:=⟨P,lk [],lk [],lk [],lk []⟩
theorem zn2(φ:Nat)(a):(zap φ).F a=fnX TV (zao Try.prog φ) φ Try.f30 [0,0] [.val 15] (z79 φ) a:=by kernel_rfl
theorem zn1(φ:Nat):fnO TV (zao Try.prog φ) φ Try.f30 [.val 15] (z79 φ):=by
 unfold fnO;show obl _ _ _ _ _ _ _ _;unfold z79
 repeat' (first|exact trivial |(refine⟨?_,?_⟩) |(intro _)|kernel_rfl)
theorem zn0[Dr](φ:Nat):z19 TV Try.prog 30 (zap φ):=z1s (N:=zao Try.prog φ) (z09 trivial trivial trivial trivial) (z79 φ) Try.func30 (by kernel_rfl) (zn2 φ) (zn1 φ)
def z8f(φ:Nat):H TV (RTup TT [.val 57]):=.x
def zbv(P:Program)(φ:Nat):Env TV:=⟨P,lk [],lk [],lk [],lk []⟩
theorem zo2(φ:Nat)(a):(zbw φ).F a=fnX TV (zbv Try.prog φ) φ Try.f75 [49,57] [.val 57] (z8f φ) a:=by kernel_rfl
theorem zo1(φ:Nat):fnO TV (zbv Try.prog φ) φ Try.f75 [.val 57] (z8f φ):=by
 unfold fnO;show obl _ _ _ _ _ _ _ _;unfold z8f
 repeat' (first|exact trivial |(refine⟨?_,?_⟩) |(intro _)|kernel_rfl)
theorem zo0[Dr](φ:Nat):z19 TV Try.prog 75 (zbw φ):=z1s (N:=zbv Try.prog φ) (z09 trivial trivial trivial trivial) (z8f φ) Try.func75 (by kernel_rfl) (zo2 φ) (zo1 φ)
end Px
end
section
set_option maxHeartbeats 4000000
set_option maxRecDepth 100000
namespace Px
open Go Go.RowKit Go.Proofs
def z8j(φ:Nat):H TV (RTup TT [.val 57]):=(.seq .x (.seq .x (.seq .x (.seq .x (.seq (.body (.loop ⟨[(38,[(0,.val 57),(3,.own 0)])],[.row 5 56]⟩ (λn=>kk2 (z41 φ n)) (λzk4=>.x))) (.seq .x (.seq (.seq .x (.body (.loop ⟨[(38,[(3,.own 0),(4,.val 6),(5,.val 0)])],[.row 5 56]⟩ (λn=>kk3 (z38 φ n)) (λzk8=>.x)))) .x)))))))
def zc0(P:Program)(φ:Nat):Env TV:=⟨P,lk [],lk [],lk [],lk []⟩
theorem zoa(φ:Nat)(a):(zc1 φ).F a=fnX TV (zc0 Try.prog φ) φ Try.f88 [57] [.val 57] (z8j φ) a:=by kernel_rfl
theorem zo9(φ:Nat):fnO TV (zc0 Try.prog φ) φ Try.f88 [.val 57] (z8j φ):=by
 unfold fnO;show obl _ _ _ _ _ _ _ _;unfold z8j
 repeat' (first|exact trivial |(refine⟨?_,?_⟩) |(intro _)|kernel_rfl)
theorem zo8[Dr](φ:Nat):z19 TV Try.prog 88 (zc1 φ):=z1s (N:=zc0 Try.prog φ) (z09 trivial trivial trivial trivial) (z8j φ) Try.func88 (by kernel_rfl) (zoa φ) (zo9 φ)
def zb8(φ:Nat):H TV (RTup TT [.val 58]):=.x
def zeo(P:Program)(φ:Nat):Env TV:=⟨P,lk [],lk [],lk [],lk []⟩
theorem ztp(φ:Nat)(a):(zb9 φ).F a=fnX TV (zeo Try.prog φ) φ Try.f106 [58,0] [.val 58] (zb8 φ) a:=by kernel_rfl
theorem zto(φ:Nat):fnO TV (zeo Try.prog φ) φ Try.f106 [.val 58] (zb8 φ):=by
 unfold fnO;show obl _ _ _ _ _ _ _ _;unfold zb8
 repeat' (first|exact trivial |(refine⟨?_,?_⟩) |(intro _)|kernel_rfl)
theorem zjl[Dr](φ:Nat):z19 TV Try.prog 106 (zb9 φ):=z1s (N:=zeo Try.prog φ) (z09 trivial trivial trivial trivial) (zb8 φ) Try.func106 (by kernel_rfl) (ztp φ) (zto φ)
def z60(φ:Nat):H TV (RTup TT [.val 59]):=(.seq .x (.seq .x (.seq (.seq .x (.body (.loop ⟨[(102,[(0,.val 57),(2,.ptr 0 0),(3,.ptr 1 0),(4,.val 0)])],[.box 216 [.val 59],.box 216 [.val 59]]⟩ (λn=>kk4 (z2y φ n)) (λzk6=>.x)))) (.seq (.seq .x (.body (.loop ⟨[(102,[(2,.ptr 0 0),(3,.ptr 1 0),(5,.val 0)])],[.box 216 [.val 59],.box 216 [.val 59]]⟩ (λn=>kk3 (z1i φ n)) (λzk10=>.x)))) .x))))
def z9c(P:Program)(φ:Nat):Env TV:=⟨P,lk [(106,zb9 φ)],lk [],lk [],lk []⟩
theorem zkg(φ:Nat)(a):(z9d φ).F a=fnX TV (z9c Try.prog φ) φ Try.f104 [57] [.val 59] (z60 φ) a:=by kernel_rfl
theorem zkf(φ:Nat):fnO TV (z9c Try.prog φ) φ Try.f104 [.val 59] (z60 φ):=by
 unfold fnO;show obl _ _ _ _ _ _ _ _;unfold z60
 repeat' (first|exact trivial |(refine⟨?_,?_⟩) |(intro _)|kernel_rfl)
theorem zke[Dr](φ:Nat):z19 TV Try.prog 104 (z9d φ):=z1s (N:=z9c Try.prog φ) (z09 ⟨zjl φ,trivial⟩ trivial trivial trivial) (z60 φ) Try.func104 (by kernel_rfl) (zkg φ) (zkf φ)
def z56(φ:Nat):H TV (RTup TT [.val 59]):=.x
def z7z(P:Program)(φ:Nat):Env TV:=⟨P,lk [],lk [],lk [],lk []⟩
theorem zie(φ:Nat)(a):(z80 φ).F a=fnX TV (z7z Try.prog φ) φ Try.f105 [] [.val 59] (z56 φ) a:=by kernel_rfl
theorem zid(φ:Nat):fnO TV (z7z Try.prog φ) φ Try.f105 [.val 59] (z56 φ):=by
 unfold fnO;show obl _ _ _ _ _ _ _ _;unfold z56
 repeat' (first|exact trivial |(refine⟨?_,?_⟩) |(intro _)|kernel_rfl)
theorem zic[Dr](φ:Nat):z19 TV Try.prog 105 (z80 φ):=z1s (N:=z7z Try.prog φ) (z09 trivial trivial trivial trivial) (z56 φ) Try.func105 (by kernel_rfl) (zie φ) (zid φ)
def z9r(φ:Nat):H TV (RTup TT [.val 60]):=(.seq .x (.seq .x (.seq .x (.seq .x (.seq (.seq .x (.body (.loop ⟨[(126,[(2,.ptr 0 0),(4,.ptr 1 0),(5,.ptr 2 0),(6,.ptr 3 0),(7,.ptr 4 0),(8,.val 0)])],[.box 200 [.val 60],.box 200 [.val 60],.box 216 [.val 59],.box 216 [.val 59],.box 200 [.val 60]]⟩ (λn=>kk6 (z36 φ n)) (λzk11=>.x)))) (.seq (.seq .x (.body (.loop ⟨[(126,[(2,.ptr 0 0),(4,.ptr 1 0),(7,.ptr 2 0),(15,.val 0)])],[.box 200 [.val 60],.box 200 [.val 60],.box 200 [.val 60]]⟩ (λn=>kk4 (z37 φ n)) (λzk22=>.x)))) .x))))))
def zd6(P:Program)(φ:Nat):Env TV:=⟨P,lk [(104,z9d φ),(105,z80 φ),(106,zb9 φ)],lk [],lk [],lk []⟩
theorem zr6(φ:Nat)(a):(zd7 φ).F a=fnX TV (zd6 Try.prog φ) φ Try.f89 [60,57] [.val 60] (z9r φ) a:=by kernel_rfl
theorem zr5(φ:Nat):fnO TV (zd6 Try.prog φ) φ Try.f89 [.val 60] (z9r φ):=by
 unfold fnO;show obl _ _ _ _ _ _ _ _;unfold z9r
 repeat' (first|exact trivial |(refine⟨?_,?_⟩) |(intro _)|kernel_rfl)
theorem zr4[Dr](φ:Nat):z19 TV Try.prog 89 (zd7 φ):=z1s (N:=zd6 Try.prog φ) (z09 ⟨zke φ,zic φ,zjl φ,trivial⟩ trivial trivial trivial) (z9r φ) Try.func89 (by kernel_rfl) (zr6 φ) (zr5 φ)
def zd4(φ:Nat):H TV (RTup TT [.val 61]):=(.seq .x (.seq .x (.seq .x (.seq (.seq .x (.body (.loop ⟨[(42,[(2,.ptr 0 0),(3,.ptr 1 0),(4,.val 57),(5,.val 0)])],[.box 157 [.val 61],.box 200 [.val 60]]⟩ (λn=>kk4 (z6d φ n)) (λzk7=>.x)))) (.seq .x (.seq (.seq .x (.body (.loop ⟨[(42,[(2,.ptr 0 0),(3,.ptr 1 0),(6,.ptr 2 0),(7,.val 0)])],[.box 157 [.val 61],.box 200 [.val 60],.box 157 [.val 61]]⟩ (λn=>kk4 (z47 φ n)) (λzk13=>.x)))) .x))))))
def zfy(P:Program)(φ:Nat):Env TV:=⟨P,lk [(88,zc1 φ),(89,zd7 φ)],lk [],lk [],lk []⟩
theorem zw0(φ:Nat)(a):(zfz φ).F a=fnX TV (zfy Try.prog φ) φ Try.f74 [57] [.val 61] (zd4 φ) a:=by kernel_rfl
theorem zvz(φ:Nat):fnO TV (zfy Try.prog φ) φ Try.f74 [.val 61] (zd4 φ):=by
 unfold fnO;show obl _ _ _ _ _ _ _ _;unfold zd4
 repeat' (first|exact trivial |(refine⟨?_,?_⟩) |(intro _)|kernel_rfl)
theorem zvy[Dr](φ:Nat):z19 TV Try.prog 74 (zfz φ):=z1s (N:=zfy Try.prog φ) (z09 ⟨zo8 φ,zr4 φ,trivial⟩ trivial trivial trivial) (zd4 φ) Try.func74 (by kernel_rfl) (zw0 φ) (zvz φ)
def z8h(φ:Nat):H TV (RTup TT [.val 61]):=.x
def zbz(P:Program)(φ:Nat):Env TV:=⟨P,lk [(75,zbw φ),(74,zfz φ)],lk [],lk [],lk []⟩
theorem zo7(φ:Nat)(a):(z8i φ).F a=fnX TV (zbz Try.prog φ) φ Try.f53 [49,57] [.val 61] (z8h φ) a:=by kernel_rfl
theorem zo6(φ:Nat):fnO TV (zbz Try.prog φ) φ Try.f53 [.val 61] (z8h φ):=by
 unfold fnO;show obl _ _ _ _ _ _ _ _;unfold z8h
 repeat' (first|exact trivial |(refine⟨?_,?_⟩) |(intro _)|kernel_rfl)
theorem zfl[Dr](φ:Nat):z19 TV Try.prog 53 (z8i φ):=z1s (N:=zbz Try.prog φ) (z09 ⟨zo0 φ,zvy φ,trivial⟩ trivial trivial trivial) (z8h φ) Try.func53 (by kernel_rfl) (zo7 φ) (zo6 φ)
def z8g(φ:Nat):H TV (RTup TT [.val 6]):=(.seq .x (.seq .x (.seq (.seq .x (.body (.loop ⟨[(17,[(1,.ptr 0 0),(3,.val 6),(4,.val 0)])],[.box 157 [.val 61]]⟩ (λn=>kk3 (z40 φ n)) (λzk5=>.x)))) .x)))
def zbx(P:Program)(φ:Nat):Env TV:=⟨P,lk [],lk [],lk [],lk []⟩
theorem zo5(φ:Nat)(a):(zby φ).F a=fnX TV (zbx Try.prog φ) φ Try.f76 [61] [.val 6] (z8g φ) a:=by kernel_rfl
theorem zo4(φ:Nat):fnO TV (zbx Try.prog φ) φ Try.f76 [.val 6] (z8g φ):=by
 unfold fnO;show obl _ _ _ _ _ _ _ _;unfold z8g
 repeat' (first|exact trivial |(refine⟨?_,?_⟩) |(intro _)|kernel_rfl)
theorem zo3[Dr](φ:Nat):z19 TV Try.prog 76 (zby φ):=z1s (N:=zbx Try.prog φ) (z09 trivial trivial trivial trivial) (z8g φ) Try.func76 (by kernel_rfl) (zo5 φ) (zo4 φ)
def z8m(φ:Nat):H TV (RTup TT [.val 6,.val 0]):=.x
def zc4(P:Program)(φ:Nat):Env TV:=⟨P,lk [(53,z8i φ),(76,zby φ)],lk [],lk [],lk []⟩
theorem zog(φ:Nat)(a):(zc5 φ).F a=fnX TV (zc4 Try.prog φ) φ Try.f54 [57] [.val 6,.val 0] (z8m φ) a:=by kernel_rfl
theorem zof(φ:Nat):fnO TV (zc4 Try.prog φ) φ Try.f54 [.val 6,.val 0] (z8m φ):=by
 unfold fnO;show obl _ _ _ _ _ _ _ _;unfold z8m
 repeat' (first|exact trivial |(refine⟨?_,?_⟩) |(intro _)|kernel_rfl)
theorem zoe[Dr](φ:Nat):z19 TV Try.prog 54 (zc5 φ):=z1s (N:=zc4 Try.prog φ) (z09 ⟨zfl φ,zo3 φ,trivial⟩ trivial trivial trivial) (z8m φ) Try.func54 (by kernel_rfl) (zog φ) (zof φ)
def z62(φ:Nat):H TV (RTup TT [.val 6]):=(.seq .x (.seq .x (.seq .x (.seq (.frz [(6,none)] .x) .x))))
def z9g(P:Program)(φ:Nat):Env TV:=⟨P,lk [(53,z8i φ),(54,zc5 φ)],lk [],lk [],lk []⟩
theorem zkm(φ:Nat)(a):(z9h φ).F a=fnX TV (z9g Try.prog φ) φ Try.f32 [57,0] [.val 6] (z62 φ) a:=by kernel_rfl
theorem zkl(φ:Nat):fnO TV (z9g Try.prog φ) φ Try.f32 [.val 6] (z62 φ):=by
 unfold fnO;show obl _ _ _ _ _ _ _ _;unfold z62
 repeat' (first|exact trivial |(refine⟨?_,?_⟩) |(intro _)|kernel_rfl)
theorem zkk[Dr](φ:Nat):z19 TV Try.prog 32 (z9h φ):=z1s (N:=z9g Try.prog φ) (z09 ⟨zfl φ,zoe φ,trivial⟩ trivial trivial trivial) (z62 φ) Try.func32 (by kernel_rfl) (zkm φ) (zkl φ)
def z9t(φ:Nat):H TV (RTup TT [.val 6]):=(.seq .x (.seq .x (.seq (.body (.loop ⟨[(26,[(0,.val 6),(1,.val 6),(2,.val 6),(7,.val 6)])],[]⟩ (λn=>kk4 (z2n φ n)) (λzk8=>(.seq .x (.seq (.body (.seq (.join ⟨[(26,[(0,.val 6),(1,.val 6),(2,.val 6),(7,.val 6)])],[]⟩ (λz=>z75 φ (λa0 a1 a2 a3=>zk8 (a0,a1,a2,a3,())) z.1 z.2.1 z.2.2.1 z.2.2.2.1) (.seq .x .x)) .x)) .x))))) .x)))
def zd9(P:Program)(φ:Nat):Env TV:=⟨P,lk [],lk [],lk [],lk []⟩
theorem zr9(φ:Nat)(a):(zda φ).F a=fnX TV (zd9 Try.prog φ) φ Try.f73 [6,6,6] [.val 6] (z9t φ) a:=by kernel_rfl
theorem zr8(φ:Nat):fnO TV (zd9 Try.prog φ) φ Try.f73 [.val 6] (z9t φ):=by
 unfold fnO;show obl _ _ _ _ _ _ _ _;unfold z9t
 repeat' (first|exact trivial |(refine⟨?_,?_⟩) |(intro _)|kernel_rfl)
theorem zr7[Dr](φ:Nat):z19 TV Try.prog 73 (zda φ):=z1s (N:=zd9 Try.prog φ) (z09 trivial trivial trivial trivial) (z9t φ) Try.func73 (by kernel_rfl) (zr9 φ) (zr8 φ)
def zd8(φ:Nat):H TV (RTup TT [.val 6]):=(.seq .x (.seq .x (.seq (.seq .x (.body (.loop ⟨[(22,[(0,.val 6),(1,.val 6),(5,.val 6)])],[]⟩ (λn=>kk3 (z42 φ n)) (λzk6=>(.seq .x (.seq (.body (.seq (.join ⟨[(22,[(0,.val 6),(1,.val 6),(5,.val 6)])],[]⟩ (λz=>z9s φ (λa0 a1 a2=>zk6 (a0,a1,a2,())) z.1 z.2.1 z.2.2.1) (.seq .x .x)) .x)) .x)))))) .x)))
def zg0(P:Program)(φ:Nat):Env TV:=⟨P,lk [(73,zda φ)],lk [],lk [],lk []⟩
theorem zw3(φ:Nat)(a):(zg1 φ).F a=fnX TV (zg0 Try.prog φ) φ Try.f52 [6,6] [.val 6] (zd8 φ) a:=by kernel_rfl
theorem zw2(φ:Nat):fnO TV (zg0 Try.prog φ) φ Try.f52 [.val 6] (zd8 φ):=by
 unfold fnO;show obl _ _ _ _ _ _ _ _;unfold zd8
 repeat' (first|exact trivial |(refine⟨?_,?_⟩) |(intro _)|kernel_rfl)
theorem zw1[Dr](φ:Nat):z19 TV Try.prog 52 (zg1 φ):=z1s (N:=zg0 Try.prog φ) (z09 ⟨zr7 φ,trivial⟩ trivial trivial trivial) (zd8 φ) Try.func52 (by kernel_rfl) (zw3 φ) (zw2 φ)
def z8l(φ:Nat):H TV (RTup TT [.val 6,.val 0]):=.x
def zc2(P:Program)(φ:Nat):Env TV:=⟨P,lk [(52,zg1 φ)],lk [],lk [],lk []⟩
theorem zod(φ:Nat)(a):(zc3 φ).F a=fnX TV (zc2 Try.prog φ) φ Try.f31 [6] [.val 6,.val 0] (z8l φ) a:=by kernel_rfl
theorem zoc(φ:Nat):fnO TV (zc2 Try.prog φ) φ Try.f31 [.val 6,.val 0] (z8l φ):=by
 unfold fnO;show obl _ _ _ _ _ _ _ _;unfold z8l
 repeat' (first|exact trivial |(refine⟨?_,?_⟩) |(intro _)|kernel_rfl)
theorem zob[Dr](φ:Nat):z19 TV Try.prog 31 (zc3 φ):=z1s (N:=zc2 Try.prog φ) (z09 ⟨zw1 φ,trivial⟩ trivial trivial trivial) (z8l φ) Try.func31 (by kernel_rfl) (zod φ) (zoc φ)
def z61(φ:Nat):H TV (RTup TT [.val 23]):=(.seq .x (.seq .x (.seq (.seq .x (.body (.loop ⟨[(13,[(0,.ptr 0 0),(1,.ptr 1 0),(2,.val 0)])],[.box 109 [.val 21,.own 2],.box 109 [.val 21,.own 3],.row 3 0,.row 3 0]⟩ (λn=>kk5 (z2z φ n)) (λzk6=>.x)))) .x)))
def z9e(P:Program)(φ:Nat):Env TV:=⟨P,lk [],lk [],lk [],lk []⟩
theorem zkj(φ:Nat)(a):(z9f φ).F a=fnX TV (z9e Try.prog φ) φ Try.f33 [] [.val 23] (z61 φ) a:=by kernel_rfl
theorem zki(φ:Nat):fnO TV (z9e Try.prog φ) φ Try.f33 [.val 23] (z61 φ):=by
 unfold fnO;show obl _ _ _ _ _ _ _ _;unfold z61
 repeat' (first|exact trivial |(refine⟨?_,?_⟩) |(intro _)|kernel_rfl)
theorem zkh[Dr](φ:Nat):z19 TV Try.prog 33 (z9f φ):=z1s (N:=z9e Try.prog φ) (z09 trivial trivial trivial trivial) (z61 φ) Try.func33 (by kernel_rfl) (zkj φ) (zki φ)
def zbc(φ:Nat):H TV (RTup TT [.val 26]):=(.seq .x (.seq .x (.seq (.seq .x (.body (.loop ⟨[(55,[(0,.val 57),(1,.val 0),(6,.ptr 0 0),(7,.ptr 1 0),(8,.val 0)])],[.box 36 [.own 2,.own 3,.own 4,.own 5,.own 6,.own 7,.own 8,.own 9,.own 10],.box 36 [.val 2,.val 4,.val 8,.val 10,.val 12,.val 14,.own 11,.own 12,.own 13],.row 137 1,.row 139 3,.row 141 7,.row 154 9,.row 143 11,.row 145 13,.row 102 16,.row 104 18,.row 112 24,.row 102 16,.row 104 18,.row 112 24]⟩ (λn=>kk21 (z2o φ n)) (λzk27=>.x)))) .x)))
def zep(P:Program)(φ:Nat):Env TV:=⟨P,lk [(29,z83 φ),(30,zap φ),(32,z9h φ),(31,zc3 φ),(33,z9f φ)],lk [],lk [],lk []⟩
theorem zts(φ:Nat)(a):(zbd φ).F a=fnX TV (zep Try.prog φ) φ Try.f13 [57,0,0] [.val 26] (zbc φ) a:=by kernel_rfl
theorem ztr(φ:Nat):fnO TV (zep Try.prog φ) φ Try.f13 [.val 26] (zbc φ):=by
 unfold fnO;show obl _ _ _ _ _ _ _ _;unfold zbc
 repeat' (first|exact trivial |(refine⟨?_,?_⟩) |(intro _)|kernel_rfl)
theorem zjm[Dr](φ:Nat):z19 TV Try.prog 13 (zbd φ):=z1s (N:=zep Try.prog φ) (z09 ⟨zif φ,zn0 φ,zkk φ,zob φ,zkh φ,trivial⟩ trivial trivial trivial) (zbc φ) Try.func13 (by kernel_rfl) (zts φ) (ztr φ)
def z5b(φ:Nat):H TV (RTup TT [.val 27]):=.x
def z88(P:Program)(φ:Nat):Env TV:=⟨P,lk [(13,zbd φ),(11,z4k φ)],lk [],lk [],lk []⟩
theorem zj0(φ:Nat)(a):(z89 φ).F a=fnX TV (z88 Try.prog φ) φ Try.f12 [] [.val 27] (z5b φ) a:=by kernel_rfl
theorem ziz(φ:Nat):fnO TV (z88 Try.prog φ) φ Try.f12 [.val 27] (z5b φ):=by
 unfold fnO;show obl _ _ _ _ _ _ _ _;unfold z5b
 repeat' (first|exact trivial |(refine⟨?_,?_⟩) |(intro _)|kernel_rfl)
theorem ziy[Dr](φ:Nat):z19 TV Try.prog 12 (z89 φ):=z1s (N:=z88 Try.prog φ) (z09 ⟨zjm φ,za1 φ,trivial⟩ trivial trivial trivial) (z5b φ) Try.func12 (by kernel_rfl) (zj0 φ) (ziz φ)
def zbf(φ:Nat):H TV (RTup TT [.val 0,.val 27]):=(.seq .x (.seq .x (.seq .x (.seq (.seq .x (.body (.loop ⟨[(174,[(1,.val 36),(2,.val 37),(3,.val 46),(4,.ptr 0 0),(10,.own 1),(11,.own 2),(28,.val 0),(29,.val 0)])],[.box 36 [.val 26],.row 3 0,.row 3 0]⟩ (λn=>kk8 (z2q φ n)) (λzk13=>.x)))) (.seq (.seq .x (.body (.loop ⟨[(174,[(1,.val 36),(2,.val 37),(3,.val 46),(4,.ptr 0 0),(10,.own 1),(11,.own 2),(42,.val 0),(43,.val 0)])],[.box 36 [.val 26],.row 3 0,.row 3 0]⟩ (λn=>kk8 (z2r φ n)) (λzk22=>.x)))) (.seq .x (.seq (.seq .x (.body (.loop ⟨[(174,[(1,.val 36),(2,.val 37),(4,.ptr 0 0),(10,.own 1),(11,.own 2),(14,.val 0),(55,.val 46),(56,.val 0),(57,.val 0)])],[.box 36 [.val 26],.row 3 0,.row 3 0]⟩ (λn=>kk9 (z4a φ n)) (λzk32=>.x)))) (.seq (.seq .x (.body (.loop ⟨[(174,[(2,.val 37),(11,.own 0),(14,.val 0),(156,.val 0),(157,.val 0)])],[.row 3 0]⟩ (λn=>kk5 (z23 φ n)) (λzk39=>.x)))) .x))))))))
def zew(P:Program)(φ:Nat):Env TV:=⟨P,lk [(20,zbi φ)],lk [],lk [],lk []⟩
theorem zuh(φ:Nat)(a):(zex φ).F a=fnX TV (zew Try.prog φ) φ Try.f14 [26,36,37,46] [.val 0,.val 27] (zbf φ) a:=by kernel_rfl
theorem zug(φ:Nat):fnO TV (zew Try.prog φ) φ Try.f14 [.val 0,.val 27] (zbf φ):=by
 unfold fnO;show obl _ _ _ _ _ _ _ _;unfold zbf
 repeat' (first|exact trivial |(refine⟨?_,?_⟩) |(intro _)|kernel_rfl)
theorem zuf[Dr](φ:Nat):z19 TV Try.prog 14 (zex φ):=z1s (N:=zew Try.prog φ) (z09 ⟨znk φ,trivial⟩ trivial trivial trivial) (zbf φ) Try.func14 (by kernel_rfl) (zuh φ) (zug φ)
def z58(φ:Nat):H TV (RTup TT [.row 3 0]):=.x
def z84(P:Program)(φ:Nat):Env TV:=⟨P,lk [],lk [],lk [],lk []⟩
theorem zir(φ:Nat)(a):(z85 φ).F a=fnX TV (z84 Try.prog φ) φ Try.f55 [22] [.row 3 0] (z58 φ) a:=by kernel_rfl
theorem ziq(φ:Nat):fnO TV (z84 Try.prog φ) φ Try.f55 [.row 3 0] (z58 φ):=by
 unfold fnO;show obl _ _ _ _ _ _ _ _;unfold z58
 repeat' (first|exact trivial |(refine⟨?_,?_⟩) |(intro _)|kernel_rfl)
theorem zio[Dr](φ:Nat):z19 TV Try.prog 55 (z85 φ):=z1s (N:=z84 Try.prog φ) (z09 trivial trivial trivial trivial) (z58 φ) Try.func55 (by kernel_rfl) (zir φ) (ziq φ)
def z8c(φ:Nat):H TV (RTup TT [.val 22,.val 27]):=(.seq .x (.seq .x (.seq .x (.seq (.seq .x (.body (.loop ⟨[(140,[(1,.val 36),(3,.val 46),(8,.own 0),(10,.own 1),(11,.val 0),(24,.val 39),(25,.val 0),(26,.val 0)])],[.row 3 0,.row 3 0]⟩ (λn=>kk8 (zx φ n)) (λzk14=>(.seq .x (.seq .x (.seq (.body (.seq .x (.seq .x (.seq (.join ⟨[(140,[(1,.val 36),(3,.val 46),(8,.own 0),(10,.own 1),(11,.val 0),(13,.ptr 2 0),(14,.val 0),(24,.val 39),(25,.val 0),(26,.val 0)])],[.row 3 0,.row 3 0,.box 77 [.val 38]]⟩ (λz=>z2f φ (λa0 a1 a2 a3 a4 a5 a6 a7=>zk14 (a0,a1,a2,a3,a4,a5,a6,a7,())) z.1 z.2.1 z.2.2.1 z.2.2.2.1 z.2.2.2.2.1 z.2.2.2.2.2.1 z.2.2.2.2.2.2.1 z.2.2.2.2.2.2.2.1 z.2.2.2.2.2.2.2.2.1 z.2.2.2.2.2.2.2.2.2.1) (.body .x)) .x)))) .x))))))) .x))))
def zbj(P:Program)(φ:Nat):Env TV:=⟨P,lk [(55,z85 φ)],lk [],lk [],lk []⟩
theorem znp(φ:Nat)(a):(zbk φ).F a=fnX TV (zbj Try.prog φ) φ Try.f34 [40,36,37,46] [.val 22,.val 27] (z8c φ) a:=by kernel_rfl
theorem zno(φ:Nat):fnO TV (zbj Try.prog φ) φ Try.f34 [.val 22,.val 27] (z8c φ):=by
 unfold fnO;show obl _ _ _ _ _ _ _ _;unfold z8c
 repeat' (first|exact trivial |(refine⟨?_,?_⟩) |(intro _)|kernel_rfl)
theorem znn[Dr](φ:Nat):z19 TV Try.prog 34 (zbk φ):=z1s (N:=zbj Try.prog φ) (z09 ⟨zio φ,trivial⟩ trivial trivial trivial) (z8c φ) Try.func34 (by kernel_rfl) (znp φ) (zno φ)
def z9n(φ:Nat):H TV (RTup TT [.val 0]):=(.seq .x (.seq .x (.seq .x (.seq .x (.seq (.seq .x (.body (.loop ⟨[(87,[(2,.ptr 0 0),(3,.ptr 1 0),(28,.val 22),(29,.val 0),(30,.val 0)])],[.box 64 [.val 40],.box 68 [.val 41]]⟩ (λn=>kk5 (z31 φ n)) (λzk10=>.x)))) (.seq (.seq .x (.body (.loop ⟨[(87,[(3,.ptr 0 0),(39,.val 39),(40,.val 0),(41,.val 0)])],[.box 68 [.val 41]]⟩ (λn=>kk4 (z1f φ n)) (λzk16=>.x)))) .x))))))
def zcx(P:Program)(φ:Nat):Env TV:=⟨P,lk [(19,z8r φ),(50,z6w φ),(42,z5n φ)],lk [],lk [],lk []⟩
theorem zqh(φ:Nat)(a):(zcy φ).F a=fnX TV (zcx Try.prog φ) φ Try.f35 [40,41] [.val 0] (z9n φ) a:=by kernel_rfl
theorem zqg(φ:Nat):fnO TV (zcx Try.prog φ) φ Try.f35 [.val 0] (z9n φ):=by
 unfold fnO;show obl _ _ _ _ _ _ _ _;unfold z9n
 repeat' (first|exact trivial |(refine⟨?_,?_⟩) |(intro _)|kernel_rfl)
theorem zqf[Dr](φ:Nat):z19 TV Try.prog 35 (zcy φ):=z1s (N:=zcx Try.prog φ) (z09 ⟨ze8 φ,zec φ,zbo φ,trivial⟩ trivial trivial trivial) (z9n φ) Try.func35 (by kernel_rfl) (zqh φ) (zqg φ)
def z5t(φ:Nat):H TV (RTup TT [.val 0]):=.x
def z94(P:Program)(φ:Nat):Env TV:=⟨P,lk [(17,z9j φ),(34,zbk φ),(35,zcy φ),(28,zd1 φ)],lk [],lk [],lk []⟩
theorem zjy(φ:Nat)(a):(z5u φ).F a=fnX TV (z94 Try.prog φ) φ Try.f15 [26,36,37,47] [.val 0] (z5t φ) a:=by kernel_rfl
theorem zjx(φ:Nat):fnO TV (z94 Try.prog φ) φ Try.f15 [.val 0] (z5t φ):=by
 unfold fnO;show obl _ _ _ _ _ _ _ _;unfold z5t
 repeat' (first|exact trivial |(refine⟨?_,?_⟩) |(intro _)|kernel_rfl)
theorem zdg[Dr](φ:Nat):z19 TV Try.prog 15 (z5u φ):=z1s (N:=z94 Try.prog φ) (z09 ⟨zgi φ,znn φ,zqf φ,zlw φ,trivial⟩ trivial trivial trivial) (z5t φ) Try.func15 (by kernel_rfl) (zjy φ) (zjx φ)
def z5v(φ:Nat):H TV (RTup TT [.val 47,.val 0]):=.x
def z95(P:Program)(φ:Nat):Env TV:=⟨P,lk [(15,z5u φ),(11,z4k φ)],lk [],lk [],lk []⟩
theorem zk1(φ:Nat)(a):(z96 φ).F a=fnX TV (z95 Try.prog φ) φ Try.f16 [26,36,37,47] [.val 47,.val 0] (z5v φ) a:=by kernel_rfl
theorem zk0(φ:Nat):fnO TV (z95 Try.prog φ) φ Try.f16 [.val 47,.val 0] (z5v φ):=by
 unfold fnO;show obl _ _ _ _ _ _ _ _;unfold z5v
 repeat' (first|exact trivial |(refine⟨?_,?_⟩) |(intro _)|kernel_rfl)
theorem zjz[Dr](φ:Nat):z19 TV Try.prog 16 (z96 φ):=z1s (N:=z95 Try.prog φ) (z09 ⟨zdg φ,za1 φ,trivial⟩ trivial trivial trivial) (z5v φ) Try.func16 (by kernel_rfl) (zk1 φ) (zk0 φ)
def z59(φ:Nat):H TV (RTup TT [.val 27]):=(.seq .x (.seq .x (.seq .x (.seq (.seq .x (.body (.loop ⟨[(196,[(0,.val 57),(1,.val 0),(2,.val 36),(3,.val 37),(4,.val 46),(57,.val 36),(58,.val 0),(59,.val 0)])],[]⟩ (λn=>kk8 (z1z φ n)) (λzk15=>.x)))) (.seq (.seq .x (.body (.loop ⟨[(196,[(0,.val 57),(1,.val 0),(2,.val 36),(3,.val 37),(4,.val 46),(72,.val 37),(73,.val 0),(74,.val 0)])],[]⟩ (λn=>kk8 (z20 φ n)) (λzk24=>.x)))) (.seq .x (.seq .x (.seq .x (.seq .x (.seq .x (.seq .x (.seq .x (.seq .x (.seq (.seq .x (.body (.loop ⟨[(196,[(16,.ptr 0 0),(22,.ptr 1 0),(180,.val 0),(181,.val 0)])],[.box 44 [.val 47],.box 44 [.val 47]]⟩ (λn=>kk4 (z0s φ n)) (λzk35=>.x)))) .x))))))))))))))
def z86(P:Program)(φ:Nat):Env TV:=⟨P,lk [(12,z89 φ),(13,zbd φ),(11,z4k φ),(14,zex φ),(15,z5u φ),(16,z96 φ)],lk [],lk [],lk []⟩
theorem zix(φ:Nat)(a):(z5a φ).F a=fnX TV (z86 Try.prog φ) φ Try.f4 [57,0,36,37,46] [.val 27] (z59 φ) a:=by kernel_rfl
theorem ziw(φ:Nat):fnO TV (z86 Try.prog φ) φ Try.f4 [.val 27] (z59 φ):=by
 unfold fnO;show obl _ _ _ _ _ _ _ _;unfold z59
 repeat' (first|exact trivial |(refine⟨?_,?_⟩) |(intro _)|kernel_rfl)
theorem ziv[Dr](φ:Nat):z19 TV Try.prog 4 (z5a φ):=z1s (N:=z86 Try.prog φ) (z09 ⟨ziy φ,zjm φ,za1 φ,zuf φ,zdg φ,zjz φ,trivial⟩ trivial trivial trivial) (z59 φ) Try.func4 (by kernel_rfl) (zix φ) (ziw φ)
end Px
end
section
namespace Px
open Go
theorem y2o{σ ρ:Type}(L:Nat->Int->σ->Option ρ)(len:Nat)(Inv:Nat->σ->Prop)(G:Option ρ->Prop)
  (step:∀n i s,i<len->Inv i s->(∀s',Inv (i+1) s'->G (L n ((i:Int)+1) s'))->G (L (n+1) i s))
  (done:∀n s,Inv len s->G (L (n+1) len s)):∀n i s,i<=len->Inv i s->len-i<n->G (L n i s):=by
 intro n
 induction n with
 |zero=>intro i s _ _ h;omega
 |succ n ih=>
  intro i s hi hI hn;by_cases h:i=len
  .subst h;exact done n s hI
  .refine step n i s (by omega) hI λs' hs'=>?_
   have:=ih (i+1) s' (by omega) hs' (by omega);simpa using this
theorem zw{σ ρ:Type}(L:Nat->Int->σ->Option ρ)(len:Nat)(Inv:Nat->σ->Prop)(G:Option ρ->Prop)
  (step:∀n i s,i<len->Inv i s->(∀s',Inv (i+1) s'->G (L n ((i:Int)+1) s'))->G (L (n+1) i s))
  (done:∀n s,Inv len s->G (L (n+1) len s)) (n:Nat) (s:σ) (h:Inv 0 s) (hn:len<n):G (L n 0 s):=by
 simpa using y2o L len Inv G step done n 0 s (w3q _) h (by omega)
theorem yf8(x:Int):W x=if x % 18446744073709551616 >= 9223372036854775808 then x % 18446744073709551616-18446744073709551616 else x % 18446744073709551616:=by simp[W,IntKind.wrap,IntKind.bits,IntKind.signed]
theorem zyo(x:Int):U x=x % 18446744073709551616:=by simp[U,IntKind.wrap,IntKind.bits,IntKind.signed]
theorem W_id{x:Int}(h : -9223372036854775808<=x)(h':x<=9223372036854775807):W x=x:=by rw[yf8];split<;>omega
theorem U_id{x:Int}(h:0<=x)(h':x<=18446744073709551615):U x=x:=by rw[zyo];omega
theorem zg8{α:Type}[Inhabited α](ok:α->Bool)(l:List α)(i:Nat)(h:i<l.length):(l.take (i+1)).all ok =((l.take i).all ok&&ok (gt l (i:Int))):=by rw[w2t h,w4p];simp[gt,h]
theorem zg9{α:Type}[Inhabited α](ok:α->Bool)(l:List α)(i:Nat)(h:i<l.length):(l.take (i+1)).any ok =((l.take i).any ok||ok (gt l (i:Int))):=by rw[w2t h,List.any_append];simp[gt,h]
theorem z2p{α:Type}[Inhabited α](l:List α)(i:Nat)(h:i<l.length):l.take (i+1)=l.take i++[gt l (i:Int)]:=by rw[w2t h];simp[gt,h]
theorem z8s{α:Type}[Inhabited α]{l:List α}{i:Int}(h0:0<=i)(h:i<(l.length:Int)):gt l i∈l:=by
 have hlt:i.toNat<l.length:=by omega
 simp[gt,hlt]
theorem z3l{α:Type}[Inhabited α]{l:List α}{i:Nat}(h:i<l.length):gt l (i:Int)=l[i]:=by simp[gt,h]
theorem yat{α:Type}[Inhabited α](l:List α)(i:Nat)(h:i<l.length):l.drop i=gt l (i:Int)::l.drop (i+1):=by rw[z3l h,List.getElem_cons_drop]
theorem ydw{α:Type}[Inhabited α]{l:List α}{x:α}(h:x∈l):∃i:Nat,i<l.length/\gt l (i:Int)=x:=by obtain⟨i,hi,e⟩:=w2k h;exact⟨i,hi,by rw[z3l hi,e]⟩
theorem z01{α:Type}[Inhabited α](l:List α)(i j:Int)(x:α)(hi:0<=i)(h:i<(l.length:Int))(hj:0<=j):gt (zu l i x) j=if j=i then x else gt l j:=by
 unfold gt zu;by_cases e:j=i
 .subst e;have:j.toNat<l.length:=by omega
  simp[List.getD,w1s,this]
 .have:i.toNat≠j.toNat:=by omega
  simp[List.getD,w1s,this,e]
theorem zed{α:Type}[Inhabited α](n:Nat)(x:α)(j:Int)(hj:0<=j)(h:j<n):gt (List.replicate n x) j=x:=by
 have:j.toNat<n:=by omega
 simp[gt,List.getD,w30,this]
theorem z7v{α:Type}[Inhabited α](l m:List α)(j:Int)(h0:0<=j)(h:j<(l.length:Int)):gt (l++m) j=gt l j:=by
 have:j.toNat<l.length:=by omega
 simp[gt,List.getD,w23,this]
theorem z6c{α:Type}[Inhabited α](l m:List α)(j:Int)(h :(l.length:Int)<=j):gt (l++m) j=gt m (j-l.length):=by
 have:¬j.toNat<l.length:=by omega
 have e :(j-l.length).toNat=j.toNat-l.length:=by omega
 simp[gt,List.getD,w23,this,e]
theorem zkw{α ρ:Type}[Inhabited α](L:Nat->Int->Int->Option ρ)(k:Int->Option ρ)(l:List α)(ok:α->Bool)
  (step:∀(n i:Nat)(s:Int),i<l.length->L (n+1) i s=L n ((i:Int)+1) (bif ok (gt l i) then s else 1)) (done:∀n s,L (n+1) l.length s=k s) :
  ∀n s,l.length<n->L n 0 s=k (bif l.all ok then s else 1):=by
 intro n s hn;refine y2o L l.length (λi t=>t=bif (l.take i).all ok then s else 1) (λo=>o=k (bif l.all ok then s else 1)) ?_ ?_ n 0 s (w3q _) (by simp) (by omega)
 .intro n i t hi ht hs;rw[step n i t hi];refine hs _ ?_;rw[zg8 ok l i hi,ht];cases (l.take i).all ok<;>cases ok (gt l (i:Int))<;>simp
 .intro n t ht;rw[done,ht,w1z]
theorem y2n{α ρ:Type}[Inhabited α](L:Nat->Int->Option ρ)(k:Option ρ)(l:List α)(p:α->Bool)(g:α->Option ρ)
  (step:∀n i:Nat,i<l.length->L (n+1) i=bif p (gt l i) then g (gt l i) else L n ((i:Int)+1)) (done:∀n,L (n+1) l.length=k) :
  ∀n,l.length<n->L n 0=match l.find? p with|some x=>g x|none=>k:=by
 intro n hn;refine zw (λn i(_:Unit)=>L n i) l.length (λi _=>∀x∈l.take i,p x=false) (λo=>o=match l.find? p with|some x=>g x|none=>k) ?_ ?_ n () (by simp) hn
 .intro n i _ hi hI hs;simp only[step n i hi];cases e:p (gt l (i:Int)) with
  |false=>
   refine hs () ?_;rw[z2p l i hi];intro x hx;rcases w0k.1 hx with h|h
   .exact hI x h
   .simp at h;rw[h];exact e
  |true=>
   have:l.find? p=some (gt l (i:Int)):=by
    have h1:l=l.take i++(gt l (i:Int)::l.drop (i+1)):=by rw[z3l hi,List.getElem_cons_drop,w25]
    generalize gt l (i:Int)=y at *;rw[h1,List.find?_append,List.find?_eq_none.2 (λx hx=>by simp[hI x hx])];simp[w4q,e]
   rw[this];rfl
 .intro n _ hI;simp only[done];rw[w1z] at hI;rw[List.find?_eq_none.2 (λx hx=>by simp[hI x hx])]
theorem y6h{α ρ:Type}(l:List α)(p:α->Bool)(r k:ρ):(match l.find? p with|some _=>r|none=>k)=bif l.any p then r else k:=by
 induction l with
 |nil=>rfl
 |cons x l ih=>
  rw[w4q,w4f];cases p x
  .simpa using ih
  .rfl
theorem zxp{α ρ:Type}[Inhabited α](L:Nat->Int->Option ρ)(k r:Option ρ)(l:List α)(p:α->Bool)
  (step:∀n i:Nat,i<l.length->L (n+1) i=bif p (gt l i) then r else L n ((i:Int)+1)) (done:∀n,L (n+1) l.length=k)
  (n:Nat) (hn:l.length<n):L n 0=bif l.any p then r else k:=by
 rw[y2n L k l p (λ_=>r) step done n hn,y6h]
def bet(a b c:Int):Bool:=decide (b<=a)&&decide (a<=c)
theorem z64{a b c:Int}: bet a b c=true↔b<=a/\a<=c:=by simp[bet]
theorem zl8{a b c:Int}(h:bet a b c=true):b<=a/\a<=c:=z64.1 h
theorem mk_t(n:Int)(b:Nat)(h0:0<=n)(h:n<=100000)(hb:b<=1000000):zb n b:=by refine⟨h0,?_,by omega⟩;have :(b:Int)*n<=1000000*100000:=w2v (by omega) h h0 (by omega);omega
theorem ybs{x y z:Int}: min2 x y<z↔x<z\/y<z:=by unfold min2;split<;>omega
end Px
end
section
namespace Px
def sumN:Nat->(Nat->Int)->Int
 |0,_=>0
 |n+1,f=>sumN n f+f n
theorem zd:∀{n:Nat}{f g:Nat->Int},(∀i,i<n->f i=g i)->sumN n f=sumN n g
 |0,_,_,_=>rfl
 |n+1,f,g,h=>by rw[sumN,sumN,zd (n:=n) λi hi=>h i (by omega),h n (by omega)]
theorem z7d(f g:Nat->Int):∀n:Nat,sumN n (λi=>f i+g i)=sumN n f+sumN n g
 |0=>rfl
 |n+1=>by simp only[sumN,z7d f g n];omega
theorem z7e(f g:Nat->Int):∀n:Nat,sumN n (λi=>f i-g i)=sumN n f-sumN n g
 |0=>rfl
 |n+1=>by simp only[sumN,z7e f g n];omega
theorem zhd(c:Int)(f:Nat->Int):∀n:Nat,sumN n (λi=>c*f i)=c*sumN n f
 |0=>by simp[sumN]
 |n+1=>by simp only[sumN,zhd c f n,w33]
theorem zdf:∀{n:Nat}{f g:Nat->Int},(∀i,i<n->f i<=g i)->sumN n f<=sumN n g
 |0,_,_,_=>w1i _
 |n+1,f,g,h=>by
  have h1:=zdf (n:=n) λi hi=>h i (by omega)
  have h2:=h n (by omega);simp only[sumN];omega
theorem z2i(n:Nat):sumN n (λ_=>0)=0:=by
 induction n with
 |zero=>rfl
 |succ n ih=>simp only[sumN,ih];rfl
theorem z1y{n:Nat}{f:Nat->Int}(h:∀i,i<n->0<=f i):0<=sumN n f:=by have:=zdf (f:=λ_=>0) (g:=f) h;rw[z2i] at this;exact this
theorem z7f(f:Nat->Nat->Int):∀n k:Nat,sumN n (λi=>sumN k (λj=>f i j))=sumN k (λj=>sumN n (λi=>f i j))
 |0,k=>(z2i k).symm
 |n+1,k=>by simp only[sumN,z7f f n k];rw[<- z7d]
theorem z4g(f:Nat->Int)(v:Nat):∀k:Nat,sumN k (λw=>if w=v then f w else 0)=if v<k then f v else 0
 |0=>rfl
 |k+1=>by
  simp only[sumN,z4g f v k];by_cases h:v<k
  .rw[if_pos h,if_neg (by omega),if_pos (by omega)];omega
  .by_cases e:k=v
   .subst e;rw[if_neg h,if_pos rfl,if_pos (by omega)];omega
   .rw[if_neg h,if_neg e,if_neg (by omega)];rfl
theorem zua{k:Nat}(f:Nat->Int){v:Nat}(h:v<k):sumN k (λw=>if v=w then f w else 0)=f v:=by have:=z4g f v k;rw[if_pos h] at this;rw[<- this];exact zd λi _=>by by_cases e:v=i<;>simp[e,eq_comm]
theorem zis{k:Nat}{f g:Nat->Int}{v:Nat}{d:Int}(hv:v<k)(h:∀i,i<k->f i<=g i)(hd:f v+d<=g v):sumN k f+d<=sumN k g:=by
 have h1:sumN k (λi=>f i+(if i=v then(λ_=>d) i else 0))<=sumN k g:=zdf λi hi=>by
  by_cases e:i=v
  .subst e;rw[if_pos rfl];exact hd
  .rw[if_neg e];have:=h i hi;omega
 rw[z7d,z4g,if_pos hv] at h1;exact h1
structure Nw where
 k:Nat
 m:Nat
 fr:Nat->Nat
 to:Nat->Nat
 cap:Nat->Int
 cost:Nat->Int
structure Nw.Ok(N:Nw):Prop where
 fr:∀i,i<N.m->N.fr i<N.k
 to:∀i,i<N.m->N.to i<N.k
 ne:∀i,i<N.m->N.fr i≠N.to i
def Nw.outS(N:Nw)(x:Nat->Int)(v:Nat):Int:=sumN N.m λi=>if N.fr i=v then x i else 0
def Nw.inS(N:Nw)(x:Nat->Int)(v:Nat):Int:=sumN N.m λi=>if N.to i=v then x i else 0
def Nw.exc(N:Nw)(b x:Nat->Int)(v:Nat):Int:=b v-N.outS x v+N.inS x v
def Nw.costS(N:Nw)(x:Nat->Int):Int:=sumN N.m λi=>x i*N.cost i
structure Nw.Feas(N:Nw)(b x:Nat->Int):Prop where
 bnd:∀i,i<N.m->0<=x i/\x i<=N.cap i
 exc:∀v,v<N.k->N.exc b x v=0
theorem zkx(a:Int)(c:Prop)[Decidable c](b:Int):a*(if c then b else 0)=if c then a*b else 0:=by
 split
 .rfl
 .exact w4b a
theorem Nw.pot{N:Nw}(h:N.Ok)(p x:Nat->Int):sumN N.k (λv=>p v*(N.outS x v-N.inS x v))=sumN N.m λi=>(p (N.fr i)-p (N.to i))*x i:=by
 have h1:sumN N.k (λv=>p v*N.outS x v)=sumN N.m λi=>p (N.fr i)*x i:=by
  refine(zd (g:=λv=>sumN N.m λi=>if N.fr i=v then p v*x i else 0) λv hv=>?_).trans ?_
  .rw[Nw.outS,<- zhd];exact zd λi _=>zkx _ _ _
  .rw[z7f];exact zd λi hi=>zua (λv=>p v*x i) (h.fr i hi)
 have h2:sumN N.k (λv=>p v*N.inS x v)=sumN N.m λi=>p (N.to i)*x i:=by
  refine(zd (g:=λv=>sumN N.m λi=>if N.to i=v then p v*x i else 0) λv hv=>?_).trans ?_
  .rw[Nw.inS,<- zhd];exact zd λi _=>zkx _ _ _
  .rw[z7f];exact zd λi hi=>zua (λv=>p v*x i) (h.to i hi)
 refine(zd (g:=λv=>p v*N.outS x v-p v*N.inS x v) λv _=>w4v _ _ _).trans ?_;rw[z7e,h1,h2,<- z7e];exact zd λi _=>(w46 _ _ _).symm
def Nw.rc(N:Nw)(p:Nat->Int)(i:Nat):Int:=N.cost i+p (N.fr i)-p (N.to i)
def Nw.Tight(N:Nw)(x p:Nat->Int):Prop:=∀i,i<N.m->(x i<N.cap i->0<=N.rc p i)/\(0<x i->N.rc p i<=0)
theorem ydz{a b:Int}(h1:a<=0)(h2:b<=0):0<=a*b:=by
 have:=w1d (a:=-a) (b:=-b) (by omega) (by omega)
 rwa [Int.neg_mul_neg] at this
theorem Nw.dual{N:Nw}(h:N.Ok){b x y p:Nat->Int}(hx:N.Feas b x)(hy:N.Feas b y)(ht:N.Tight x p):N.costS x<=N.costS y:=by
 have e1:=Nw.pot h p x;have e2:=Nw.pot h p y;have e3:sumN N.k (λv=>p v*(N.outS x v-N.inS x v))=sumN N.k (λv=>p v*(N.outS y v-N.inS y v)):=zd λv hv=>by have h1:=hx.exc v hv;have h2:=hy.exc v hv;unfold Nw.exc at h1 h2;rw[show N.outS x v-N.inS x v=N.outS y v-N.inS y v by omega]
 have e4:0<=sumN N.m λi=>(y i-x i)*N.rc p i:=z1y λi hi=>by
  obtain⟨t1,t2⟩:=ht i hi;have b1:=hx.bnd i hi;have b2:=hy.bnd i hi;by_cases c1:x i<N.cap i
  .by_cases c2:0<x i
   .rw[show N.rc p i=0 by have:=t1 c1;have:=t2 c2;omega];simp
   .exact w1d (by omega) (t1 c1)
  .by_cases c2:0<x i
   .exact ydz (by omega) (t2 c2)
   .rw[show y i-x i=0 by omega];simp
 have e5 :(sumN N.m λi=>(y i-x i)*N.rc p i)=N.costS y-N.costS x+((sumN N.m λi=>(p (N.fr i)-p (N.to i))*y i)-sumN N.m λi=>(p (N.fr i)-p (N.to i))*x i):=by
  unfold Nw.costS;rw[<- z7e,<- z7e,<- z7d];refine zd λi _=>?_
  unfold Nw.rc;rw[w46,w4v,w4v,w33,w33,w46,w46];rw[w29 (p (N.fr i)) (y i),w29 (p (N.fr i)) (x i),w29 (p (N.to i)) (y i),w29 (p (N.to i)) (x i)];omega
 omega
structure Nw.Step(N:Nw)(x:Nat->Int)(u w i:Nat)(c r:Int):Prop where
 lt:i<N.m
 way:N.fr i=u/\N.to i=w/\x i<N.cap i/\c=N.cost i/\r=N.cap i-x i\/N.to i=u/\N.fr i=w/\0<x i/\c=- N.cost i/\r=x i
structure Nw.Inv(N:Nw)(b x left p:Nat->Int):Prop where
 bnd:∀i,i<N.m->0<=x i/\x i<=N.cap i
 exc:∀v,v<N.k->left v=N.exc b x v
 red:N.Tight x p
 pos:∀v,v<N.k->0<=b v->0<=left v/\left v<=b v
 neg:∀v,v<N.k->b v<=0->b v<=left v/\left v<=0
theorem Nw.Inv.step{N:Nw}{b x left p:Nat->Int}(h:N.Inv b x left p){u w i:Nat}{c r:Int}(hs:N.Step x u w i c r):0<=c+p u-p w/\0<r:=by
 obtain⟨t1,t2⟩:=h.red i hs.lt;unfold Nw.rc at t1 t2;rcases hs.way with⟨rfl,rfl,e1,rfl,rfl⟩|⟨rfl,rfl,e1,rfl,rfl⟩
 .have:=t1 e1;omega
 .have:=t2 e1;omega
theorem Nw.cut{N:Nw}(hN:N.Ok){b x left p y:Nat->Int}(h:N.Inv b x left p)(hy:N.Feas b y)(hb:sumN N.k b=0)(R:Nat->Bool)(src:∀v,v<N.k->0<left v->R v=true)
  (cl:∀u w i c r,N.Step x u w i c r->R u=true->R w=true) (hR:∀v,v<N.k->R v=true->0<=left v):∀v,v<N.k->left v=0:=by
 let q:Nat->Int:=λv=>bif R v then 1 else 0
 have e1:=Nw.pot hN q x;have e2:=Nw.pot hN q y;have e3:sumN N.k (λv=>q v*left v) =(sumN N.m λi=>(q (N.fr i)-q (N.to i))*y i)-sumN N.m λi=>(q (N.fr i)-q (N.to i))*x i:=by
  rw[<- e1,<- e2,<- z7e];refine zd λv hv=>?_
  have h1:=h.exc v hv;have h2:=hy.exc v hv;unfold Nw.exc at h1 h2;rw[h1,<- w4v];congr 1;omega
 have e4:sumN N.k (λv=>q v*left v)<=0:=by
  rw[e3,<- z7e];have:sumN N.m (λi=>(q (N.fr i)-q (N.to i))*y i-(q (N.fr i)-q (N.to i))*x i)<=sumN N.m (λ_=>0):=zdf λi hi=>by
   have b1:=h.bnd i hi;have b2:=hy.bnd i hi;rw[<- w4v];cases c1:R (N.fr i)<;>cases c2:R (N.to i)<;>simp only[q,c1,c2,cond_true,cond_false]
   .omega
   .have:x i=0:=by
     by_cases g:0<x i
     .have:=cl (N.to i) (N.fr i) i (- N.cost i) (x i) ⟨hi,.inr ⟨rfl,rfl,g,rfl,rfl⟩⟩ c2
      rw[c1] at this;cases this
     .omega
    omega
   .have:x i=N.cap i:=by
     by_cases g:x i<N.cap i
     .have:=cl (N.fr i) (N.to i) i (N.cost i) (N.cap i-x i) ⟨hi,.inl ⟨rfl,rfl,g,rfl,rfl⟩⟩ c1
      rw[c2] at this;cases this
     .omega
    omega
   .omega
  rw[z2i] at this;exact this
 have np:∀v,v<N.k->left v<=0:=by
  intro v hv;by_cases g:0<left v
  .have hr:=src v hv g;have:=zis (f:=λ_=>0) (g:=λv=>q v*left v) (d:=left v) hv (λw hw=>by
    simp only[q];cases c:R w
    .simp
    .simpa using hR w hw c) (by simp[q,hr])
   rw[z2i] at this;omega
  .omega
 have tot:sumN N.k left=0:=by
  have h1:=Nw.pot hN (λ_=>1) x;have h2:sumN N.m (λi=>((1:Int)-1)*x i)=0:=by rw[<- z2i N.m];exact zd λi _=>by simp
  rw[h2] at h1;rw[<- hb];have:sumN N.k left=sumN N.k (λv=>b v-1*(N.outS x v-N.inS x v)):=zd λv hv=>by rw[h.exc v hv];unfold Nw.exc;omega
  rw[this,z7e,h1];omega
 intro v hv;by_cases g:left v<0
 .have:=zis (f:=left) (g:=λ_=>0) (d:=- left v) hv np (by omega)
  rw[z2i,tot] at this;omega
 .have:=np v hv;omega
end Px
end
section
namespace Px
open Go
theorem z8t{α σ ρ:Type}[Inhabited α](L:Nat->Int->σ->Option ρ)(k:σ->Option ρ)(r:Option ρ)(l:List α)(ok:α->Bool)(f:σ->α->σ)(Inv:Nat->σ->Prop)
  (step:∀(n i:Nat)(s:σ),i<l.length->Inv i s->L (n+1) i s =(bif ok (gt l i) then L n ((i:Int)+1) (f s (gt l i)) else r)/\(ok (gt l i)=true->Inv (i+1) (f s (gt l i)))) (done:∀n s,Inv l.length s->L (n+1) l.length s=k s)
  (n:Nat) (s:σ) (h0:Inv 0 s) (hn:l.length<n):L n 0 s =(bif l.all ok then k (l.foldl f s) else r)/\(l.all ok=true->Inv l.length (l.foldl f s)):=by
 refine zw L l.length (λi t=>(l.take i).all ok=true/\t =(l.take i).foldl f s/\Inv i t) (λo=>o =(bif l.all ok then k (l.foldl f s) else r)/\(l.all ok=true->Inv l.length (l.foldl f s))) ?_ ?_ n s ⟨by simp,by simp,h0⟩ hn
 .intro n i t hi ⟨ha,ht,hI⟩ hs;obtain⟨e1,e2⟩:=step n i t hi hI;rw[e1];cases hok:ok (gt l (i:Int)) with
  |true=>refine hs _ ⟨by rw[zg8 ok l i hi,ha,hok];rfl,?_,e2 hok⟩;rw[z2p l i hi,w3t,<- ht];rfl
  |false=>
   have:l.all ok=false:=by rw[List.all_eq_false];exact⟨gt l (i:Int),z8s (by omega) (by omega),by rw[hok];simp⟩
   rw[this];exact⟨rfl,λh=>by cases h⟩
 .intro n t ⟨ha,ht,hI⟩;rw[w1z] at ha ht;subst ht;rw[ha];exact⟨done n _ hI,λ_=>hI⟩
theorem z6t(φ:Nat)(a b c:Int):z3g φ a b c=some (bet a b c,()):=rfl
def ztl(s:Int):Bool:=bet s (-1000000000) 1000000000
def zny(k:Int)(a:Arc):Bool:=!((((!bet a.from_ 0 (k-1)||!bet a.to 0 (k-1))||a.from_==a.to)||!bet a.cap 0 1000000000)||!bet a.cost 0 1000000000)
def sumL(l:List Int):Int:=l.foldl (λs x=>s+x) 0
def zpu(n:zh):Int:=
 bif decide (256<n.supply.length)||decide (2048<n.arcs.length) then 2 else
 bif n.supply.all ztl then(bif n.arcs.all (zny n.supply.length) then(bif sumL n.supply !=0 then 360 else 0) else 1) else 1
theorem zlv(φ:Nat)(n:zh)(s:Int)(hs:n.supply.length<=256)(ha:n.arcs.length<=2048)(m:Nat)(hm:n.arcs.length<m):
  z2k φ m s n.arcs (n.arcs.length:Int) 0 n=bif n.arcs.all (zny n.supply.length) then(if(s:Int) !=0 then some (360,()) else some (0,())) else some (1,()):=by
 have hp:W ((n.supply.length:Int)-1) =(n.supply.length:Int)-1:=W_id (by omega) (by omega);have:=z8t (λm i(_:Unit)=>z2k φ m s n.arcs (n.arcs.length:Int) i n) (λ_=>if(s:Int) !=0 then some (360,()) else some (0,())) (some (1,())) n.arcs (zny n.supply.length) (λu _=>u) (λ_ _=>True) ?_ ?_ m () trivial hm
 .exact this.1
 .intro m i u hi _;refine⟨?_,λ_=>trivial⟩;have hW:W ((i:Int)+1) =(i:Int)+1:=W_id (by omega) (by omega);rw[z2k,if_pos (by simp;omega),z6 ⟨by omega,by omega⟩,hp,hW];simp only[z6t,w03];generalize gt n.arcs (i:Int)=a;unfold zny;cases h1:bet a.from_ 0 ((n.supply.length:Int)-1)<;>cases h2:bet a.to 0 ((n.supply.length:Int)-1)<;>cases h3 :(a.from_==a.to)<;>cases h4:bet a.cap 0 1000000000<;>cases h5:bet a.cost 0 1000000000<;>simp[z0u,h1,h2,h3,h4,h5]
 .intro m u _;rw[z2k,if_neg (by simp)]
theorem zcz(φ:Nat)(n:zh)(hφ:5000<φ):z9u φ n=some (zpu n,()):=by
 unfold z9u zpu;by_cases hl:256<n.supply.length\/2048<n.arcs.length
 .have e :(decide (256<n.supply.length)||decide (2048<n.arcs.length))=true:=by simpa using hl
  rw[if_pos (by simp;omega),e];rfl
 .have e :(decide (256<n.supply.length)||decide (2048<n.arcs.length))=false:=by simpa using hl
  rw[if_neg (by simp;omega),e];have hs:n.supply.length<=256:=by omega
  have ha:n.arcs.length<=2048:=by omega
  have:=z8t (λm i s=>z50 φ m s n.supply (n.supply.length:Int) i n) (λs=>z2k φ φ s n.arcs (n.arcs.length:Int) 0 n) (some (1,())) n.supply ztl (λs x=>s+x)
   (λi s=>-(1000000000*(i:Int))<=s/\s<=1000000000*(i:Int)) ?_ ?_ φ 0 ⟨by simp,by simp⟩ (by omega)
  .rw[this.1];simp only[cond_false];cases hall:n.supply.all ztl with
   |false=>rfl
   |true=>
    simp only[cond_true];rw[zlv φ n _ hs ha φ (by omega)];show _=some ((bif n.arcs.all (zny n.supply.length) then(bif sumL n.supply !=0 then 360 else 0) else 1),());unfold sumL;cases n.arcs.all (zny n.supply.length) with
    |false=>rfl
    |true=>simp only[cond_true];cases h :(n.supply.foldl (λs x=>s+x) 0 !=0)<;>simp
  .intro m i s hi hI;have hW:W ((i:Int)+1) =(i:Int)+1:=W_id (by omega) (by omega);rw[z50,if_pos (by simp;omega),z6 ⟨by omega,by omega⟩,hW];simp only[z6t,w03];generalize gt n.supply (i:Int)=x;unfold ztl;cases hb:bet x (-1000000000) 1000000000 with
   |false=>exact⟨by simp,λh=>by cases h⟩
   |true=>obtain⟨b1,b2⟩:=zl8 hb;have hx:W (s+x)=s+x:=W_id (by omega) (by omega);refine⟨by simp[hx],λ_=>⟨by push_cast;omega,by push_cast;omega⟩⟩
  .intro m s _;rw[z50,if_neg (by simp)]
end Px
end
section
namespace Px
open Go
def nwOf(n:zh):Nw:=⟨n.supply.length,n.arcs.length,λi=>(gt n.arcs (i:Int)).from_.toNat,λi=>(gt n.arcs (i:Int)).to.toNat,λi=>(gt n.arcs (i:Int)).cap,λi=>(gt n.arcs (i:Int)).cost⟩
def atN(l:List Int)(v:Nat):Int:=gt l (v:Int)
theorem y8q(l:List Int)(x:Int):sumL (l++[x])=sumL l+x:=by unfold sumL;rw[w3t];rfl
theorem zu9(l:List Int):∀i:Nat,i<=l.length->sumL (l.take i)=sumN i (atN l)
 |0,_=>rfl
 |i+1,h=>by rw[z2p l i (by omega),y8q,zu9 l i (by omega)];rfl
theorem y4q(l:List Int):sumL l=sumN l.length (atN l):=by
 have:=zu9 l l.length (w0x _)
 rwa [w1z] at this
structure z39(n:zh):Prop where
 k:n.supply.length<=256
 m:n.arcs.length<=2048
 arc:∀i:Nat,i<n.arcs.length->0<=(gt n.arcs (i:Int)).from_/\(gt n.arcs (i:Int)).from_<(n.supply.length:Int)/\0<=(gt n.arcs (i:Int)).to/\(gt n.arcs (i:Int)).to<(n.supply.length:Int)/\
  (gt n.arcs (i:Int)).from_≠(gt n.arcs (i:Int)).to/\0<=(gt n.arcs (i:Int)).cap/\(gt n.arcs (i:Int)).cap<=1000000000/\0<=(gt n.arcs (i:Int)).cost/\(gt n.arcs (i:Int)).cost<=1000000000
 sup:∀v:Nat,v<n.supply.length->-1000000000<=atN n.supply v/\atN n.supply v<=1000000000
 sum:sumN n.supply.length (atN n.supply)=0
theorem ztk{k:Int}{a:Arc}: zny k a=true↔(0<=a.from_/\a.from_<k)/\(0<=a.to/\a.to<k)/\a.from_≠a.to/\(0<=a.cap/\a.cap<=1000000000)/\(0<=a.cost/\a.cost<=1000000000):=by
 unfold zny;simp only[w0w,w10,Bool.not_eq_false',z64,beq_eq_false_iff_ne,ne_eq];constructor
 .rintro⟨⟨⟨⟨h1,h2⟩,h3⟩,h4⟩,h5⟩;exact⟨⟨h1.1,by omega⟩,⟨h2.1,by omega⟩,h3,h4,h5⟩
 .rintro⟨h1,h2,h3,h4,h5⟩;exact⟨⟨⟨⟨⟨h1.1,by omega⟩,⟨h2.1,by omega⟩⟩,h3⟩,h4⟩,h5⟩
theorem zgq{n:zh}(h:zpu n=0):z39 n:=by
 unfold zpu at h;cases e :(decide (256<n.supply.length)||decide (2048<n.arcs.length)) with
 |true=>rw[e] at h;simp at h
 |false=>
  rw[e] at h;simp only[cond_false] at h;cases e1:n.supply.all ztl with
  |false=>rw[e1] at h;simp at h
  |true=>
   cases e2:n.arcs.all (zny n.supply.length) with
   |false=>rw[e1,e2] at h;simp at h
   |true=>
    rw[e1,e2] at h;simp only[cond_true] at h;simp only[w10,decide_eq_false_iff_not] at e;refine⟨by omega,by omega,λi hi=>?_,λv hv=>?_,?_⟩
    .have:=ztk.1 (w08.1 e2 _ (z8s (i:=(i:Int)) (by omega) (by omega)))
     obtain⟨⟨a1,a2⟩,⟨b1,b2⟩,c,⟨d1,d2⟩,e1,e2⟩:=this;exact⟨a1,a2,b1,b2,c,d1,d2,e1,e2⟩
    .exact zl8 (w08.1 e1 _ (z8s (i:=(v:Int)) (by omega) (by omega)))
    .rw[<- y4q];cases e3 :(sumL n.supply !=0) with
     |true=>rw[e3] at h;simp at h
     |false=>simpa using e3
theorem z39.nw{n:zh}(h:z39 n):(nwOf n).Ok where
 fr:=λi hi=>by obtain⟨a,b,_⟩:=h.arc i hi;show (gt n.arcs (i:Int)).from_.toNat<n.supply.length;omega
 to:=λi hi=>by obtain⟨_,_,a,b,_⟩:=h.arc i hi;show (gt n.arcs (i:Int)).to.toNat<n.supply.length;omega
 ne:=λi hi=>by obtain⟨a,_,b,_,c,_⟩:=h.arc i hi;show (gt n.arcs (i:Int)).from_.toNat≠(gt n.arcs (i:Int)).to.toNat;omega
def outP(n:zh)(x:Nat->Int)(i v:Nat):Int:=sumN i λj=>if(nwOf n).fr j=v then x j else 0
def inP(n:zh)(x:Nat->Int)(i v:Nat):Int:=sumN i λj=>if(nwOf n).to j=v then x j else 0
theorem zde{m:Nat}{f:Nat->Int}{B:Int}(h:∀i,i<m->0<=f i/\f i<=B):0<=sumN m f/\sumN m f<=B*m:=by
 refine⟨z1y λi hi=>(h i hi).1,?_⟩
 induction m with
 |zero=>simp[sumN]
 |succ m ih=>
  have:=ih λi hi=>h i (by omega)
  have h2:=(h m (by omega)).2;simp only[sumN];push_cast;rw[w33,Int.mul_one];omega
def okX(n:zh)(x:List Int)(j:Nat):Bool:=bet (atN x j) 0 (gt n.arcs (j:Int)).cap
def zrk(n:zh)(x:List Int)(left:List Int)(j:Nat):List Int:=zu (zu left (gt n.arcs (j:Int)).from_ (gt left (gt n.arcs (j:Int)).from_-atN x j)) (gt n.arcs (j:Int)).to (gt (zu left (gt n.arcs (j:Int)).from_ (gt left (gt n.arcs (j:Int)).from_-atN x j)) (gt n.arcs (j:Int)).to+atN x j)
theorem zxj{m i:Nat}(h:i<m):gt (List.range m) (i:Int)=i:=by rw[z3l (by simpa using h)];simp
structure zup(n:zh)(x:List Int)(i:Nat)(left:List Int):Prop where
 len:left.length=n.supply.length
 val:∀v:Nat,v<n.supply.length->atN left v=atN n.supply v-outP n (atN x) i v+inP n (atN x) i v
 ok:∀j:Nat,j<i->okX n x j=true
theorem zup.bound{n:zh}(h:z39 n){x left:List Int}{i:Nat}(hi:i<=n.arcs.length)(hl:zup n x i left){v:Nat}(hv:v<n.supply.length): -3000000000000<=atN left v/\atN left v<=3000000000000:=by
 have hx:∀j,j<i->0<=atN x j/\atN x j<=1000000000:=λj hj=>by have h1:=zl8 (hl.ok j hj);have h2:=h.arc j (by omega);exact⟨h1.1,by omega⟩
 have ho:=zde (m:=i) (f:=λj=>if(nwOf n).fr j=v then atN x j else 0) (B:=1000000000) λj hj=>by have:=hx j hj;show 0<=(if(nwOf n).fr j=v then atN x j else 0)/\(if(nwOf n).fr j=v then atN x j else 0)<=1000000000;split<;>omega
 have hin:=zde (m:=i) (f:=λj=>if(nwOf n).to j=v then atN x j else 0) (B:=1000000000) λj hj=>by have:=hx j hj;show 0<=(if(nwOf n).to j=v then atN x j else 0)/\(if(nwOf n).to j=v then atN x j else 0)<=1000000000;split<;>omega
 have hs:=h.sup v hv;have hm:=h.m;rw[hl.val v hv];change 0<=outP n (atN x) i v/\outP n (atN x) i v<=_ at ho;change 0<=inP n (atN x) i v/\inP n (atN x) i v<=_ at hin;omega
theorem zup.step{n:zh}(h:z39 n){x left:List Int}{i:Nat}(hi:i<n.arcs.length)(hl:zup n x i left)(hok:okX n x i=true):zup n x (i+1) (zrk n x left i):=by
 obtain⟨a1,a2,a3,a4,a5,_⟩:=h.arc i hi;have hlen :(zrk n x left i).length=n.supply.length:=by unfold zrk;rw[zp,zp,hl.len]
 refine⟨hlen,λv hv=>?_,λj hj=>?_⟩
 .have e1:outP n (atN x) (i+1) v=outP n (atN x) i v+(if(gt n.arcs (i:Int)).from_.toNat=v then atN x i else 0):=rfl;have e2:inP n (atN x) (i+1) v=inP n (atN x) i v+(if(gt n.arcs (i:Int)).to.toNat=v then atN x i else 0):=rfl;rw[e1,e2];have hvv:=hl.val v hv;unfold zrk atN at *;have f1:=z01 left (gt n.arcs (i:Int)).from_ (v:Int) (gt left (gt n.arcs (i:Int)).from_-gt x (i:Int)) a1 (by rw[hl.len];exact a2) (by omega);have f2:=z01 left (gt n.arcs (i:Int)).from_ (gt n.arcs (i:Int)).to (gt left (gt n.arcs (i:Int)).from_-gt x (i:Int)) a1 (by rw[hl.len];exact a2) a3;rw[z01 _ _ (v:Int) _ a3 (by rw[zp,hl.len];exact a4) (by omega),f1,f2];by_cases h1 :(v:Int) =(gt n.arcs (i:Int)).to
  .rw[if_pos h1,if_neg (λe=>a5 e.symm),if_neg (by omega),if_pos (by omega),<- h1];omega
  .rw[if_neg h1];by_cases h2 :(v:Int) =(gt n.arcs (i:Int)).from_
   .rw[if_pos h2,if_pos (by omega),if_neg (by omega),<- h2];omega
   .rw[if_neg h2,if_neg (by omega),if_neg (by omega)];omega
 .by_cases e:j=i
  .rw[e];exact hok
  .exact hl.ok j (by omega)
def zq5(n:zh)(f:Flow):Bool:=decide (f.x.length=n.arcs.length)&&((List.range n.arcs.length).all (okX n f.x)&&((List.range n.arcs.length).foldl (zrk n f.x) n.supply).all (·==0))
theorem y1f(φ:Nat)(l:List Int)(hl:l.length<=256)(m:Nat)(hm:l.length<m):z17 φ m (l.length:Int) 0 l=some (l.all (·==0),()):=by
 have:=z8t (λm i(_:Unit)=>z17 φ m (l.length:Int) i l) (λ_=>some (true,())) (some (false,())) l (·==0) (λu _=>u) (λ_ _=>True) ?_ ?_ m () trivial hm
 .rw[this.1];cases l.all (·==0)<;>rfl
 .intro m i u hi _;refine⟨?_,λ_=>trivial⟩;have hW:W ((i:Int)+1) =(i:Int)+1:=W_id (by omega) (by omega);rw[z17,if_pos (by simp;omega),z6 ⟨by omega,by omega⟩,hW];cases h :(gt l (i:Int)==0) with
  |true=>rw[if_neg (by simpa using h)];rfl
  |false=>rw[if_pos (by simpa using h)];rfl
 .intro m u _;rw[z17,if_neg (by simp)]
theorem zdj(φ:Nat)(n:zh)(f:Flow)(h:z39 n)(hφ:5000<φ):z6u φ n f=some (zq5 n f,()):=by
 have hk:=h.k;have hm:=h.m;unfold z6u zq5;by_cases hl:f.x.length=n.arcs.length
 .rw[if_neg (by simp[hl]),decide_eq_true hl,w2l,z6 (by simp[fits];omega),w39];have:=z8t (λm i left=>z2g φ m n.arcs (n.arcs.length:Int) i f left) (λleft=>z17 φ φ (left.length:Int) 0 left) (some (false,())) (List.range n.arcs.length) (okX n f.x) (zrk n f.x) (zup n f.x) ?_ ?_ φ n.supply ⟨rfl,λv hv=>by simp[outP,inP,sumN],λj hj=>by omega⟩ (by simp;omega)
  .obtain⟨e1,e2⟩:=this;rw[e1];cases hall :(List.range n.arcs.length).all (okX n f.x) with
   |false=>rfl
   |true=>have hlen:=(e2 hall).len;simp only[cond_true,w2l];exact y1f φ _ (by rw[hlen];exact hk) φ (by rw[hlen];omega)
  .intro m i left hi hI;have hi:i<n.arcs.length:=by simpa using hi
   rw[zxj hi];refine⟨?_,λhok=>hI.step h hi hok⟩;obtain⟨a1,a2,a3,a4,a5,_⟩:=h.arc i hi;have hW:W ((i:Int)+1) =(i:Int)+1:=W_id (by omega) (by omega);have hle:=hI.len;have b1:=hI.bound h (by omega) (v:=(gt n.arcs (i:Int)).from_.toNat) (by omega);have b2:=hI.bound h (by omega) (v:=(gt n.arcs (i:Int)).to.toNat) (by omega);rw[z2g,if_pos (by simp;omega),z6 ⟨by omega,by omega⟩,z6 ⟨by omega,by omega⟩,z6t,w03];show _=bif bet (gt f.x (i:Int)) 0 (gt n.arcs (i:Int)).cap then _ else _;cases hb:bet (gt f.x (i:Int)) 0 (gt n.arcs (i:Int)).cap with
   |false=>rfl
   |true=>
    have hx:=zl8 hb;have hcap:=(h.arc i hi).2.2.2.2.2.2.1;unfold atN at b1 b2;rw[w3k a1] at b1;rw[w3k a3] at b2;have w1:W (gt left (gt n.arcs (i:Int)).from_-gt f.x (i:Int))=gt left (gt n.arcs (i:Int)).from_-gt f.x (i:Int):=W_id (by omega) (by omega);have e3:gt (zu left (gt n.arcs (i:Int)).from_ (gt left (gt n.arcs (i:Int)).from_-gt f.x (i:Int))) (gt n.arcs (i:Int)).to=gt left (gt n.arcs (i:Int)).to:=by rw[z01 _ _ _ _ a1 (by rw[hle];exact a2) a3,if_neg (λe=>a5 e.symm)]
    have w2:W (gt left (gt n.arcs (i:Int)).to+gt f.x (i:Int))=gt left (gt n.arcs (i:Int)).to+gt f.x (i:Int):=W_id (by omega) (by omega);simp only[w1r,w0t,if_false,cond_true];rw[z6 ⟨a1,by rw[hle];exact a2⟩,z6 ⟨by omega,by omega⟩,z6 ⟨a1,by rw[hle];exact a2⟩,w1,z6 ⟨a3,by rw[zp,hle];exact a4⟩,z6 ⟨by omega,by omega⟩,z6 ⟨a3,by rw[zp,hle];exact a4⟩,hW,e3,w2];show _=z2g φ m n.arcs (n.arcs.length:Int) ((i:Int)+1) f (zrk n f.x left i);unfold zrk atN;rw[e3]
  .intro m left hI;have :((List.range n.arcs.length).length:Int) =(n.arcs.length:Int):=by simp
   rw[this,z2g,if_neg (by simp)]
 .rw[if_pos (by simpa using λe=>hl (by omega)),decide_eq_false hl];rfl
end Px
end
section
namespace Px
open Go
theorem zi3{n:zh}(h:z39 n){x:List Int}: ∀i:Nat,i<=n.arcs.length->(∀j,j<i->okX n x j=true)->zup n x i ((List.range i).foldl (zrk n x) n.supply)
 |0,_,_=>⟨rfl,λv hv=>by simp[outP,inP,sumN],λj hj=>by omega⟩
 |i+1,hi,hok=>by rw[w1o,w3t];exact(zi3 h i (by omega) λj hj=>hok j (by omega)).step h (by omega) (hok i (by omega))
theorem y9a(n:zh)(x:Nat->Int)(v:Nat):(nwOf n).exc (atN n.supply) x v=atN n.supply v-outP n x n.arcs.length v+inP n x n.arcs.length v:=rfl
theorem ze5{n:zh}(h:z39 n){f:Flow}: zq5 n f=true↔f.x.length=n.arcs.length/\(nwOf n).Feas (atN n.supply) (atN f.x):=by
 unfold zq5;simp only[w02,decide_eq_true_eq];refine and_congr_right λhl=>?_
 constructor
 .rintro⟨h1,h2⟩;have hok:∀j,j<n.arcs.length->okX n f.x j=true:=λj hj=>w08.1 h1 j (w0l.2 hj)
  have hI:=zi3 h n.arcs.length (w0x _) hok;refine⟨λi hi=>zl8 (hok i hi),λv hv=>?_⟩;have hv:v<n.supply.length:=hv;rw[y9a,<- hI.val v hv];have:=w08.1 h2 _ (z8s (i:=(v:Int)) (by omega) (by rw[hI.len];omega));unfold atN;simpa using this
 .intro hF;have hok:∀j,j<n.arcs.length->okX n f.x j=true:=λj hj=>z64.2 (hF.bnd j hj)
  have hI:=zi3 h n.arcs.length (w0x _) hok;refine⟨w08.2 λj hj=>hok j (w0l.1 hj),w08.2 λy hy=>?_⟩;obtain⟨v,hv,rfl⟩:=ydw hy;rw[hI.len] at hv;have:=hI.val v hv;rw[<- y9a,hF.exc v hv] at this;simpa[atN] using this
theorem znb{f:Nat->Int}: ∀{m i:Nat},i<=m->(∀j,j<m->0<=f j)->sumN i f<=sumN m f
 |0,i,hi,_=>by
  have e:i=0:=by omega
  rw[e];exact w1i _
 |m+1,i,hi,h=>by
  by_cases e:i=m+1
  .subst e;exact w1i _
  .have:=znb (m:=m) (i:=i) (by omega) λj hj=>h j (by omega)
   have h2:=h m (by omega);simp only[sumN];omega
theorem zoz{a b:Int}(h1:0<=a/\a<=1000000000)(h2:0<=b/\b<=1000000000):0<=a*b/\a*b<=1000000000000000000:=by refine⟨w1d h1.1 h2.1,?_⟩;have:=w2v h1.2 h2.2 h2.1 (by omega);exact this
theorem zjb(φ:Nat)(n:zh)(f:Flow)(hc:zpu n=0)(hφ:5000<φ):
  ze9 φ n f=bif zq5 n f then(if(nwOf n).costS (atN f.x)<=9007199254740992 then some ((nwOf n).costS (atN f.x),0,()) else some (0,3,())) else some (0,360,()):=by
 have h:=zgq hc;have hm:=h.m;unfold ze9;rw[zcz φ n hφ,hc,w03,if_neg (by simp),zdj φ n f h hφ,w03];cases hf:zq5 n f with
 |false=>rfl
 |true=>
  obtain⟨hl,hF⟩:=(ze5 h).1 hf;simp only[w1r,w0t,if_false,cond_true];have hb:∀i,i<n.arcs.length->(0<=atN f.x i/\atN f.x i<=1000000000)/\(0<=(nwOf n).cost i/\(nwOf n).cost i<=1000000000):=λi hi=>by have h1:=hF.bnd i hi;have h2:=h.arc i hi;have h3 :(nwOf n).cap i =(gt n.arcs (i:Int)).cap:=rfl;have h4 :(nwOf n).cost i =(gt n.arcs (i:Int)).cost:=rfl;rw[h3] at h1;rw[h4];exact⟨⟨h1.1,by omega⟩,h2.2.2.2.2.2.2.2⟩
  have hpos:∀i,i<n.arcs.length->0<=atN f.x i*(nwOf n).cost i:=λi hi=>(zoz (hb i hi).1 (hb i hi).2).1
  refine zw (λm i c=>z3f φ m c n.arcs (n.arcs.length:Int) i f) n.arcs.length (λi c=>c=sumN i (λj=>atN f.x j*(nwOf n).cost j)/\c<=9007199254740992)
   (λo=>o=if(nwOf n).costS (atN f.x)<=9007199254740992 then some ((nwOf n).costS (atN f.x),0,()) else some (0,3,())) ?_ ?_ φ 0 ⟨rfl,by omega⟩ (by omega)
  .rintro m i c hi ⟨hcs,hcb⟩ hs;have hW:W ((i:Int)+1) =(i:Int)+1:=W_id (by omega) (by omega);have hc0:0<=c:=by rw[hcs];exact z1y λj hj=>hpos j (by omega)
   have hx:=zoz (hb i hi).1 (hb i hi).2;have e1:gt f.x (i:Int)*(gt n.arcs (i:Int)).cost=atN f.x i*(nwOf n).cost i:=rfl;have w1:W (9007199254740992-c)=9007199254740992-c:=W_id (by omega) (by omega);have w2:W (gt f.x (i:Int)*(gt n.arcs (i:Int)).cost)=atN f.x i*(nwOf n).cost i:=by rw[e1];exact W_id (by omega) (by omega)
   have w3:W (c+atN f.x i*(nwOf n).cost i)=c+atN f.x i*(nwOf n).cost i:=W_id (by omega) (by omega);show z3f φ (m+1) c n.arcs (n.arcs.length:Int) (i:Int) f=_;rw[z3f,if_pos (by simp;omega),z6 ⟨by omega,by omega⟩,z6 ⟨by omega,by omega⟩,w1,w2,w3,hW];have hsucc:sumN (i+1) (λj=>atN f.x j*(nwOf n).cost j)=c+atN f.x i*(nwOf n).cost i:=by rw[hcs];rfl
   by_cases hov:9007199254740992-c<atN f.x i*(nwOf n).cost i
   .rw[if_pos (by simpa using hov),if_neg];have:=znb (f:=λj=>atN f.x j*(nwOf n).cost j) (m:=n.arcs.length) (i:=i+1) (by omega) hpos;have e2 :(nwOf n).costS (atN f.x)=sumN n.arcs.length (λj=>atN f.x j*(nwOf n).cost j):=rfl;rw[e2];omega
   .rw[if_neg (by simpa using hov)];exact hs _ ⟨hsucc.symm,by omega⟩
  .rintro m c ⟨hcs,hcb⟩;show z3f φ (m+1) c n.arcs (n.arcs.length:Int) (n.arcs.length:Int) f=_;rw[z3f,if_neg (by simp)];have e2 :(nwOf n).costS (atN f.x)=c:=hcs.symm;rw[e2,if_pos hcb]
theorem zv8(φ:Nat)(n:zh)(f:Flow)(hl:f.price.length<=256)(m:Nat)(hm:f.price.length<m):
  z31 φ m f.price (f.price.length:Int) 0 n f=bif f.price.all (λp=>bet p (-1125899906842624) 1125899906842624) then z1f φ φ n.arcs (n.arcs.length:Int) 0 f else some (361,()):=by
 have:=z8t (λm i(_:Unit)=>z31 φ m f.price (f.price.length:Int) i n f) (λ_=>z1f φ φ n.arcs (n.arcs.length:Int) 0 f) (some (361,())) f.price (λp=>bet p (-1125899906842624) 1125899906842624) (λu _=>u) (λ_ _=>True) ?_ ?_ m () trivial hm
 .exact this.1
 .intro m i u hi _;refine⟨?_,λ_=>trivial⟩;have hW:W ((i:Int)+1) =(i:Int)+1:=W_id (by omega) (by omega);rw[z31,if_pos (by simp;omega),z6 ⟨by omega,by omega⟩,hW,z6t,w03];cases bet (gt f.price (i:Int)) (-1125899906842624) 1125899906842624<;>simp
 .intro m u _;rw[z31,if_neg (by simp)]
def okRc(n:zh)(f:Flow)(i:Nat):Bool:=!((decide (atN f.x i<(nwOf n).cap i)&&decide ((nwOf n).rc (atN f.price) i<0))||(decide (0<atN f.x i)&&decide (0<(nwOf n).rc (atN f.price) i)))
theorem zxy{n:zh}{f:Flow}:(List.range n.arcs.length).all (okRc n f)=true↔(nwOf n).Tight (atN f.x) (atN f.price):=by
 rw[w08];constructor
 .intro h i hi;have:=h i (w0l.2 hi);unfold okRc at this;simp only[w0w,w10,w4l,decide_eq_false_iff_not] at this;exact⟨λq=>by rcases this.1 with h|h<;>omega,λq=>by rcases this.2 with h|h<;>omega⟩
 .intro h i hi;obtain⟨t1,t2⟩:=h i (w0l.1 hi);unfold okRc;simp only[w0w,w10,w4l,decide_eq_false_iff_not];refine⟨?_,?_⟩
  .by_cases q:atN f.x i<(nwOf n).cap i
   .exact .inr (by have:=t1 q;omega)
   .exact .inl q
  .by_cases q:0<atN f.x i
   .exact .inr (by have:=t2 q;omega)
   .exact .inl q
theorem zt3(φ:Nat)(n:zh)(f:Flow)(h:z39 n)(hx:f.x.length=n.arcs.length)(hp:f.price.length=n.supply.length)(hb:f.price.all (λp=>bet p (-1125899906842624) 1125899906842624)=true)(m:Nat)(hm:n.arcs.length<m):
  z1f φ m n.arcs (n.arcs.length:Int) 0 f=bif (List.range n.arcs.length).all (okRc n f) then some (0,()) else some (361,()):=by
 have hma:=h.m;have:=z8t (λm i(_:Unit)=>z1f φ m n.arcs (n.arcs.length:Int) i f) (λ_=>some (0,())) (some (361,())) (List.range n.arcs.length) (okRc n f) (λu _=>u) (λ_ _=>True) ?_ ?_ m () trivial (by simpa using hm)
 .exact this.1
 .intro m i u hi _;have hi:i<n.arcs.length:=by simpa using hi
  refine⟨?_,λ_=>trivial⟩;rw[zxj hi];obtain⟨a1,a2,a3,a4,a5,c1,c2,d1,d2⟩:=h.arc i hi;have hW:W ((i:Int)+1) =(i:Int)+1:=W_id (by omega) (by omega);have p1:=zl8 (w08.1 hb _ (z8s (i:=(gt n.arcs (i:Int)).from_) a1 (by rw[hp];exact a2)));have p2:=zl8 (w08.1 hb _ (z8s (i:=(gt n.arcs (i:Int)).to) a3 (by rw[hp];exact a4)));have w1:W ((gt n.arcs (i:Int)).cost+gt f.price (gt n.arcs (i:Int)).from_) =(gt n.arcs (i:Int)).cost+gt f.price (gt n.arcs (i:Int)).from_:=W_id (by omega) (by omega);have w2:W ((gt n.arcs (i:Int)).cost+gt f.price (gt n.arcs (i:Int)).from_-gt f.price (gt n.arcs (i:Int)).to) =(gt n.arcs (i:Int)).cost+gt f.price (gt n.arcs (i:Int)).from_-gt f.price (gt n.arcs (i:Int)).to:=W_id (by omega) (by omega);have e1 :(nwOf n).rc (atN f.price) i =(gt n.arcs (i:Int)).cost+gt f.price (gt n.arcs (i:Int)).from_-gt f.price (gt n.arcs (i:Int)).to:=by show (gt n.arcs (i:Int)).cost+gt f.price (((gt n.arcs (i:Int)).from_.toNat:Nat):Int)-gt f.price (((gt n.arcs (i:Int)).to.toNat:Nat):Int)=_;rw[w3k a1,w3k a3]
  have e2 :(nwOf n).cap i =(gt n.arcs (i:Int)).cap:=rfl;rw[z1f,if_pos (by simp;omega),z6 ⟨by omega,by omega⟩,z6 ⟨a1,by omega⟩,z6 ⟨a3,by omega⟩,z6 ⟨by omega,by omega⟩,z6 (λ_=>⟨by omega,by omega⟩),hW,w1,w2];unfold okRc;rw[e1,e2];unfold atN;generalize (gt n.arcs (i:Int)).cost+gt f.price (gt n.arcs (i:Int)).from_-gt f.price (gt n.arcs (i:Int)).to=q;cases hq :(decide (gt f.x (i:Int)<(gt n.arcs (i:Int)).cap)&&decide (q<0)||decide (0<gt f.x (i:Int))&&decide (0<q))<;>simp
 .intro m u _;have :((List.range n.arcs.length).length:Int) =(n.arcs.length:Int):=by simp
  rw[this,z1f,if_neg (by simp)]
theorem znt(φ:Nat)(n:zh)(f:Flow)(hc:zpu n=0)(hφ:5000<φ):
  ∃e,zcw φ n f=some (e,())/\(e=0↔zq5 n f=true/\f.price.length=n.supply.length/\(∀p∈f.price,-1125899906842624<=p/\p<=1125899906842624)/\(nwOf n).Tight (atN f.x) (atN f.price)):=by
 have h:=zgq hc;have hk:=h.k;have hm:=h.m;unfold zcw;rw[zcz φ n hφ,hc,w03,if_neg (by simp),zdj φ n f h hφ,w03];cases hf:zq5 n f with
 |false=>exact⟨360,rfl,by simp⟩
 |true=>
  simp only[w1r,w0t,if_false];by_cases hp:f.price.length=n.supply.length
  .rw[if_neg (by simp[hp]),zv8 φ n f (by omega) φ (by omega)];cases hb:f.price.all (λp=>bet p (-1125899906842624) 1125899906842624) with
   |false=>
    refine⟨361,rfl,⟨(λe=>by cases e),λq=>?_⟩⟩;have q:=q.2;have:f.price.all (λp=>bet p (-1125899906842624) 1125899906842624)=true:=w08.2 λp hp=>z64.2 (q.2.1 p hp)
    rw[hb] at this;cases this
   |true=>
    simp only[cond_true];obtain⟨hl,_⟩:=(ze5 h).1 hf;rw[zt3 φ n f h hl hp hb φ (by omega)];have hpb:∀p∈f.price,-1125899906842624<=p/\p<=1125899906842624:=λp hp=>zl8 (w08.1 hb p hp)
    cases hr :(List.range n.arcs.length).all (okRc n f) with
    |false=>refine⟨361,rfl,⟨(λe=>by cases e),λq=>?_⟩⟩;rw[zxy.2 q.2.2.2] at hr;cases hr
    |true=>exact⟨0,rfl,⟨λ_=>⟨trivial,hp,hpb,zxy.1 hr⟩,λ_=>rfl⟩⟩
  .rw[if_pos (by simp;omega)];exact⟨361,rfl,⟨(λe=>by cases e),λq=>absurd q.2.1 hp⟩⟩
end Px
end
section
namespace Px
structure Nw.Found(N:Nw)(x left p:Nat->Int)(R:Nat->Bool)(d f a r:Nat->Int)(o:Nat->Nat):Prop where
 d0:∀v,v<N.k->R v=true->0<=d v
 src:∀v,v<N.k->0<left v->R v=true/\d v=0
 cl:∀u w i c r,N.Step x u w i c r->R u=true->R w=true/\d w<=d u+(c+p u-p w)
 ord:∀v,v<N.k->R v=true->o v<N.k
 tr:∀v,v<N.k->R v=true->f v<0/\0<left v\/∃(u:Nat)(c:Int),f v =(u:Int)/\u<N.k/\R u=true/\o u<o v/\0<=a v/\N.Step x u v (a v).toNat c (r v)/\d v=d u+(c+p u-p v)
structure NewP(k:Nat)(p:Nat->Int)(R:Nat->Bool)(d:Nat->Int)(z:Int)(q:Nat->Int):Prop where
 z0:0<=z
 zmax:∀v,v<k->R v=true->d v<=z
 zat:z=0\/∃v,v<k/\R v=true/\d v=z
 new:∀v,v<k->q v=p v+bif R v then d v else z
structure Nw.Pb(N:Nw)(C:Int)(left p:Nat->Int):Prop where
 p0:∀v,v<N.k->0<=p v
 src:∀v,v<N.k->0<left v->p v=0
 top:∀v,v<N.k->p v<=N.k*C+sumN N.k λw=>min (p w) (N.k*C)
section
variable{N:Nw}{b x left p:Nat->Int}{R:Nat->Bool}{d f a r:Nat->Int}{o:Nat->Nat}{z:Int}{q:Nat->Int}
theorem Nw.Found.tight(h:N.Found x left p R d f a r o)(hq:NewP N.k p R d z q){u v:Nat}{c:Int}(hu:u<N.k)(hv:v<N.k)(ru:R u=true)(rv:R v=true)(e:d v=d u+(c+p u-p v)):q v=q u+c:=by rw[hq.new u hu,hq.new v hv,ru,rv];simp only[cond_true];omega
theorem Nw.Found.red(hN:N.Ok)(hI:N.Tight x p)(h:N.Found x left p R d f a r o)(hq:NewP N.k p R d z q):N.Tight x q:=by
 have key:∀u w i c r,N.Step x u w i c r->0<=c+p u-p w->u<N.k->w<N.k->0<=c+q u-q w:=by
  intro u w i c r hs h0 hu hw;rw[hq.new u hu,hq.new w hw];cases ru:R u with
  |true=>obtain⟨rw',hd⟩:=h.cl u w i c r hs ru;rw[rw'];simp only[cond_true];omega
  |false=>
   cases rw':R w with
   |true=>have:=hq.zmax w hw rw';simp only[cond_true,cond_false];omega
   |false=>simp only[cond_false];omega
 intro i hi;obtain⟨t1,t2⟩:=hI i hi;have hf:=hN.fr i hi;have ht:=hN.to i hi;unfold Nw.rc at *;refine⟨λg=>?_,λg=>?_⟩
 .exact key _ _ i _ _ ⟨hi,.inl ⟨rfl,rfl,g,rfl,rfl⟩⟩ (t1 g) hf ht
 .have:=key _ _ i _ _ ⟨hi,.inr ⟨rfl,rfl,g,rfl,rfl⟩⟩ (by have:=t2 g;omega) ht hf
  omega
theorem Nw.Found.le_o(hN:N.Ok){C:Int}(hC:∀i,i<N.m->0<=N.cost i/\N.cost i<=C)(hC0:0<=C)(h:N.Found x left p R d f a r o)(hb:N.Pb C left p)(hq:NewP N.k p R d z q):∀n v,o v<n->v<N.k->R v=true->q v<=o v*C:=by
 intro n
 induction n with
 |zero=>intro v h0;omega
 |succ n ih=>
  intro v hn hv rv;rcases h.tr v hv rv with⟨_,g⟩|⟨u,c,_,hu,ru,ho,_,hs,e⟩
  .have hd:=(h.src v hv g).2;rw[hq.new v hv,rv,cond_true,hd,hb.src v hv g];exact w1d (by omega) hC0
  .have e1:=h.tight hq hu hv ru rv e;have e2:=ih u (by omega) hu ru;have e3:c<=C:=by have:=hC _ hs.lt;rcases hs.way with⟨_,_,_,rfl,_⟩|⟨_,_,_,rfl,_⟩<;>omega
   have e4 :((o u:Int)+1)*C<=(o v:Int)*C:=w2a (by omega) hC0;rw[w2x] at e4;omega
theorem Nw.Found.pb(hN:N.Ok){C:Int}(hC:∀i,i<N.m->0<=N.cost i/\N.cost i<=C)(hC0:0<=C)(h:N.Found x left p R d f a r o)(hb:N.Pb C left p)(hq:NewP N.k p R d z q):N.Pb C left q:=by
 have up:∀v,v<N.k->p v<=q v:=λv hv=>by
  rw[hq.new v hv];cases rv:R v with
  |true=>have:=h.d0 v hv rv;simp only[cond_true];omega
  |false=>have:=hq.z0;simp only[cond_false];omega
 have lim:∀v,v<N.k->R v=true->q v<=N.k*C:=λv hv rv=>by have h1:=h.le_o hN hC hC0 hb hq _ v (w32 _) hv rv;have h2:=h.ord v hv rv;have h3 :(o v:Int)*C<=(N.k:Int)*C:=w2a (by omega) hC0;omega
 have mono:∀i,i<N.k->min (p i) (N.k*C)<=min (q i) (N.k*C):=λi hi=>by have:=up i hi;omega
 have grow :(sumN N.k λw=>min (p w) (N.k*C))+z<=sumN N.k λw=>min (q w) (N.k*C):=by
  rcases hq.zat with e|⟨v,hv,rv,e⟩
  .rw[e];have:=zdf mono;omega
  .refine zis hv mono ?_;have h1:=lim v hv rv;have h2:=up v hv;have h3:=hq.new v hv;rw[rv,cond_true] at h3;show min (p v) (N.k*C)+z<=min (q v) (N.k*C);omega
 refine⟨λv hv=>by have:=hb.p0 v hv;have:=up v hv;omega,λv hv g=>?_,λv hv=>?_⟩
 .obtain⟨h1,h2⟩:=h.src v hv g;rw[hq.new v hv,h1,cond_true,h2,hb.src v hv g];rfl
 .cases rv:R v with
  |true=>
   have h1:=lim v hv rv;have h2:0<=sumN N.k λw=>min (q w) (N.k*C):=z1y λw hw=>by have h3:=hb.p0 w hw;have h4:=up w hw;have h5:0<=(N.k:Int)*C:=w1d (by omega) hC0;show 0<=min (q w) (N.k*C);omega
   omega
  |false=>have h1:=hq.new v hv;rw[rv,cond_false] at h1;have h2:=hb.top v hv;omega
end
def amtP(f r:Nat->Int):Nat->Nat->Int->Int×Nat
 |0,v,n=>(n,v)
 |m+1,v,n=>if 0<=f v then amtP f r m (f v).toNat (min n (r v)) else(n,v)
def setF(x:Nat->Int)(i:Nat)(y:Int):Nat->Int:=λj=>if j=i then y else x j
def augP(N:Nw)(f a:Nat->Int)(n:Int):Nat->Nat->(Nat->Int)->Nat->Int
 |0,_,x=>x
 |m+1,v,x=>if 0<=f v then augP N f a n m (f v).toNat (setF x (a v).toNat (if N.to (a v).toNat=v/\N.fr (a v).toNat =(f v).toNat then x (a v).toNat+n else x (a v).toNat-n)) else x
section
variable{N:Nw}{b x left p:Nat->Int}{R:Nat->Bool}{d f a r:Nat->Int}{o:Nat->Nat}{z:Int}{q:Nat->Int}
theorem zub(N:Nat)(e:Nat->Nat)(x:Nat->Int)(i:Nat)(y:Int)(v:Nat)(hi:i<N):(sumN N λj=>if e j=v then setF x i y j else 0) =(sumN N λj=>if e j=v then x j else 0)+if e i=v then y-x i else 0:=by
 have h:=z4g (λj=>if e j=v then y-x j else 0) i N;rw[if_pos hi] at h;rw[<- h,<- z7d];refine zd λj _=>?_
 unfold setF;by_cases c:j=i
 .subst c;simp only[if_true];split<;>omega
 .simp only[if_neg c];omega
theorem Nw.exc_setF(N:Nw)(b x:Nat->Int)(i:Nat)(y:Int)(v:Nat)(hi:i<N.m):N.exc b (setF x i y) v=N.exc b x v-(if N.fr i=v then y-x i else 0)+(if N.to i=v then y-x i else 0):=by unfold Nw.exc Nw.outS Nw.inS;rw[zub N.m N.fr x i y v hi,zub N.m N.to x i y v hi];omega
theorem zut(f r:Nat->Int):∀(m v:Nat)(n:Int),(amtP f r m v n).1<=n
 |0,_,n=>w1i _
 |m+1,v,n=>by
  unfold amtP;split
  .have:=zut f r m (f v).toNat (min n (r v));omega
  .exact w1i _
theorem Nw.Found.amt(hI:N.Tight x p)(h:N.Found x left p R d f a r o):∀(m v:Nat)(n:Int),o v<m->v<N.k->R v=true->1<=n->
  1<=(amtP f r m v n).1/\(amtP f r m v n).2<N.k/\R (amtP f r m v n).2=true/\0<left (amtP f r m v n).2
 |0,v,n,h0,_,_,_=>by omega
 |m+1,v,n,h0,hv,rv,hn=>by
  unfold amtP;rcases h.tr v hv rv with⟨g1,g2⟩|⟨u,c,e,hu,ru,ho,_,hs,_⟩
  .rw[if_neg (by omega)];exact⟨hn,hv,rv,g2⟩
  .rw[if_pos (by omega),e];have hr:0<r v:=by rcases hs.way with⟨_,_,g,_,e⟩|⟨_,_,g,_,e⟩<;>omega
   exact h.amt hI m u _ (by omega) hu ru (by omega)
theorem Nw.Found.aug(hN:N.Ok)(h:N.Found x left p R d f a r o)(hq:NewP N.k p R d z q){n:Int}{e:Nat}(hn:0<=n):∀(m v:Nat)(n':Int)(y:Nat->Int),o v<m->v<N.k->R v=true->n<=(amtP f r m v n').1->
  (∀i,i<N.m->0<=y i/\y i<=N.cap i)->N.Tight y q->(∀w,w<N.k->R w=true->0<=f w->o w<=o v->y (a w).toNat=x (a w).toNat)->
  (∀w,w<N.k->N.exc b y w=left w+(if w=e then n else 0)-(if w=v then n else 0))->
  (∀i,i<N.m->0<=augP N f a n m v y i/\augP N f a n m v y i<=N.cap i)/\N.Tight (augP N f a n m v y) q/\
   ∀w,w<N.k->N.exc b (augP N f a n m v y) w=left w+(if w=e then n else 0)-(if w =(amtP f r m v n').2 then n else 0)
 |0,v,n',y,h0,_,_,_,_,_,_,_=>by omega
 |m+1,v,n',y,h0,hv,rv,hle,hb,ht,hsame,hexc=>by
  unfold augP amtP;unfold amtP at hle;rcases h.tr v hv rv with⟨g1,g2⟩|⟨u,c,ef,hu,ru,ho,ha,hs,ed⟩
  .rw[if_neg (by omega),if_neg (by omega)];exact⟨hb,ht,hexc⟩
  .have hf:0<=f v:=by omega
   rw[if_pos hf] at hle;rw[if_pos hf,if_pos hf];have efn :(f v).toNat=u:=by omega
   rw[efn] at hle⊢;have hnr:n<=r v:=by have:=zut f r m u (min n' (r v));omega
   have hx:=hsame v hv rv hf (w0x _);have hlt:=hs.lt;have htq:=h.tight hq hu hv ru rv ed;have huv:u≠v:=λe=>by rw[e] at ho;omega
   have hrc:N.rc q (a v).toNat=0:=by unfold Nw.rc;rcases hs.way with⟨w1,w2,_,w4,_⟩|⟨w1,w2,_,w4,_⟩<;>rw[w1,w2]<;>omega
   have hbi:=hb _ hlt;generalize hi :(a v).toNat=i at *;generalize hy :(if N.to i=v/\N.fr i=u then y i+n else y i-n)=y';have hy':0<=y'/\y'<=N.cap i:=by
    rw[<- hy];rcases hs.way with⟨w1,w2,_,_,w5⟩|⟨w1,w2,_,_,w5⟩
    .rw[if_pos ⟨w2,w1⟩];omega
    .rw[if_neg (λg=>huv (by rw[<- w1];exact g.1))];omega
   refine h.aug hN hq hn m u (min n' (r v)) (setF y i y') (by omega) hu ru hle ?_ ?_ ?_ ?_
   .intro j hj;unfold setF;split
    .rename_i g;rw[g];exact hy'
    .exact hb j hj
   .intro j hj;by_cases g:j=i
    .subst g;rw[hrc];exact⟨λ_=>w1i _,λ_=>w1i _⟩
    .unfold setF;simp only[if_neg g];exact ht j hj
   .intro w hw rw' fw ow;have hne :(a w).toNat≠i:=by
     intro g;rcases h.tr w hw rw' with⟨g1,_⟩|⟨u',c',ef',_,_,ho',_,hs',_⟩
     .omega
     .rw[g] at hs';have hwv:w≠v:=λe=>by rw[e] at ow;omega
      rcases hs.way with⟨w1,w2,_⟩|⟨w1,w2,_⟩<;>rcases hs'.way with⟨v1,v2,_⟩|⟨v1,v2,_⟩
      .exact hwv (by rw[<- v2,w2])
      .have:u'=v:=by rw[<- v1,w2]
       rw[this] at ho';omega
      .have:u'=v:=by rw[<- v1,w2]
       rw[this] at ho';omega
      .exact hwv (by rw[<- v2,w2])
    unfold setF;rw[if_neg hne];exact hsame w hw rw' fw (by omega)
   .intro w hw;rw[Nw.exc_setF N b y i y' w hlt,hexc w hw,<- hy];rcases hs.way with⟨w1,w2,_⟩|⟨w1,w2,_⟩
    .have hcd:N.to i=v/\N.fr i=u:=⟨w2,w1⟩;rw[if_pos hcd,w1,w2];by_cases c1:w=v
     .have c2:¬(w=u):=λg=>huv (by rw[<- g,c1])
      rw[if_pos c1,if_neg c2,if_pos c1.symm,if_neg (λg:u=w=>c2 g.symm)];omega
     .rw[if_neg c1,if_neg (λg:v=w=>c1 g.symm)];by_cases c2:w=u
      .rw[if_pos c2,if_pos c2.symm];omega
      .rw[if_neg c2,if_neg (λg:u=w=>c2 g.symm)];omega
    .have hcd:¬(N.to i=v/\N.fr i=u):=λg=>huv (by rw[<- w1];exact g.1)
     rw[if_neg hcd,w1,w2];by_cases c1:w=v
     .have c2:¬(w=u):=λg=>huv (by rw[<- g,c1])
      rw[if_pos c1,if_neg c2,if_pos c1.symm,if_neg (λg:u=w=>c2 g.symm)];omega
     .rw[if_neg c1,if_neg (λg:v=w=>c1 g.symm)];by_cases c2:w=u
      .rw[if_pos c2,if_pos c2.symm];omega
      .rw[if_neg c2,if_neg (λg:u=w=>c2 g.symm)];omega
def ztz(left:Nat->Int)(e s:Nat)(n:Int):Nat->Int:=λv=>left v+(if v=e then n else 0)-(if v=s then n else 0)
theorem Nw.Found.round(hN:N.Ok)(hI:N.Inv b x left p)(h:N.Found x left p R d f a r o)(hq:NewP N.k p R d z q){m e:Nat}(he:e<N.k)(re:R e=true)(le:left e<0)(hm:o e<m){n:Int}{s:Nat}
  (hn:n=min (amtP f r m e (- left e)).1 (left s)) (hs:s =(amtP f r m e (- left e)).2) :
  1<=n/\s<N.k/\R s=true/\0<left s/\e≠s/\N.Inv b (augP N f a n m e x) (ztz left e s n) q/\n<=left s/\n<=- left e:=by
 obtain⟨a1,a2,a3,a4⟩:=h.amt hI.red m e (- left e) hm he re (by omega);rw[<- hs] at a2 a3 a4;have hle:=zut f r m e (- left e);have hes:e≠s:=λg=>by rw[<- g] at a4;omega
 obtain⟨b1,b2,b3⟩:=h.aug (b:=b) (e:=e) hN hq (n:=n) (by omega) m e (- left e) x hm he re (by omega) hI.bnd (h.red hN hI.red hq) (λ_ _ _ _ _=>rfl) (λw hw=>by rw[<- hI.exc w hw];omega);rw[<- hs] at b3;refine⟨by omega,a2,a3,a4,hes,⟨b1,λv hv=>(b3 v hv).symm,b2,λv hv g=>?_,λv hv g=>?_⟩,by omega,by omega⟩
 .have h1:=hI.pos v hv g;have h2:=hI.neg v hv;unfold ztz;by_cases c1:v=e
  .subst c1;omega
  .rw[if_neg c1];by_cases c2:v=s
   .subst c2;rw[if_pos rfl];omega
   .rw[if_neg c2];omega
 .have h1:=hI.neg v hv g;have h2:=hI.pos v hv;unfold ztz;by_cases c2:v=s
  .subst c2;omega
  .rw[if_neg c2];by_cases c1:v=e
   .subst c1;rw[if_pos rfl];omega
   .rw[if_neg c1];omega
end
end Px
end
section
namespace Px
abbrev farC:Int:=1152921504606846976
def setQ(D:Nat->Bool)(v:Nat):Nat->Bool:=λw=>if w=v then true else D w
def setN(o:Nat->Nat)(v n:Nat):Nat->Nat:=λw=>if w=v then n else o w
structure Nw.Srch(N:Nw)(x left p:Nat->Int)(B:Int)(n:Nat)(D:Nat->Bool)(Q:Nat->Nat->Prop)(d f a r:Nat->Int)(o:Nat->Nat):Prop where
 cnt:sumN N.k (λv=>bif D v then 1 else 0)=n
 od:∀v,v<N.k->D v=true->o v<n
 d0:∀v,v<N.k->0<=d v
 lim:∀v,v<N.k->d v<farC->d v<=n*B
 src:∀v,v<N.k->0<left v->d v=0
 qd:∀u i,Q u i->D u=true
 cl:∀u w i c r,N.Step x u w i c r->Q u i->d w<farC/\d w<=d u+(c+p u-p w)
 le:∀u w,u<N.k->w<N.k->D u=true->D w=false->d u<=d w
 dr:∀u,u<N.k->D u=true->d u<farC
 tr:∀v,v<N.k->d v<farC->f v<0/\0<left v\/∃(u:Nat)(c:Int),f v =(u:Int)/\u<N.k/\D u=true/\(D v=true->o u<o v)/\0<=a v/\N.Step x u v (a v).toNat c (r v)/\d v=d u+(c+p u-p v)
section
variable{N:Nw}{x left p:Nat->Int}{B:Int}{n:Nat}{D:Nat->Bool}{Q:Nat->Nat->Prop}{d f a r:Nat->Int}{o:Nat->Nat}
theorem Nw.Srch.start(hB:0<=B)(hd:∀v,v<N.k->d v=if 0<left v then 0 else farC)(hf:∀v,v<N.k->f v=-1):N.Srch x left p B 0 (λ_=>false) (λ_ _=>False) d f a r o where
 cnt:=z2i N.k
 od:=λv _ h=>by cases h
 d0:=λv hv=>by rw[hd v hv];split<;>simp[farC]
 lim:=λv hv h=>by rw[hd v hv] at h⊢;split at h<;>simp_all
 src:=λv hv h=>by rw[hd v hv,if_pos h]
 qd:=λu i h=>h.elim
 cl:=λu w i c r _ h=>h.elim
 le:=λu w _ _ h=>by cases h
 dr:=λu _ h=>by cases h
 tr:=λv hv h=>.inl ⟨by rw[hf v hv];omega,by
  rw[hd v hv] at h;split at h
  .assumption
  .omega⟩
theorem Nw.Srch.n_lt(h:N.Srch x left p B n D Q d f a r o){v:Nat}(hv:v<N.k)(hD:D v=false):n<N.k:=by
 have h1:=zis (f:=λv=>bif D v then 1 else 0) (g:=λ_=>1) (d:=1) hv (λi _=>by cases D i<;>simp) (by simp[hD]);rw[h.cnt] at h1;have:sumN N.k (λ_=>1)=N.k:=by
  generalize N.k=k
  induction k with
  |zero=>rfl
  |succ k ih=>simp only[sumN,ih];omega
 omega
theorem Nw.Srch.n_le(h:N.Srch x left p B n D Q d f a r o):n<=N.k:=by
 have h1:=zdf (n:=N.k) (f:=λv=>bif D v then 1 else 0) (g:=λ_=>1) (λi _=>by cases D i<;>simp);rw[h.cnt] at h1;have:sumN N.k (λ_=>1)=N.k:=by
  generalize N.k=k
  induction k with
  |zero=>rfl
  |succ k ih=>simp only[sumN,ih];omega
 omega
theorem Nw.Srch.mark(hB:0<=B)(h:N.Srch x left p B n D Q d f a r o){v:Nat}(hv:v<N.k)(hD:D v=false)(hf:d v<farC)(hm:∀w,w<N.k->D w=false->d v<=d w):
  N.Srch x left p B (n+1) (setQ D v) Q d f a r (setN o v n) where
 cnt:=by
  have h1:=z4g (λ_=>1) v N.k;rw[if_pos hv] at h1;rw[show ((n+1:Nat):Int) =(n:Int)+1 by omega,<- h.cnt,<- h1,<- z7d];refine zd λw _=>?_
  unfold setQ;by_cases e:w=v
  .subst e;simp[hD,h1]
  .simp[e]
 od:=λw hw g=>by
  unfold setQ at g;unfold setN;by_cases e:w=v
  .rw[if_pos e];omega
  .rw[if_neg e] at g⊢;have:=h.od w hw g;omega
 d0:=h.d0
 lim:=λw hw g=>by have:=h.lim w hw g;rw[show ((n+1:Nat):Int) =(n:Int)+1 by omega,w2x];omega
 src:=h.src
 qd:=λu i g=>by unfold setQ;split<;>simp[h.qd u i g]
 cl:=h.cl
 le:=λu w hu hw g1 g2=>by
  unfold setQ at g1 g2;by_cases e2:w=v
  .rw[if_pos e2] at g2;cases g2
  .rw[if_neg e2] at g2;by_cases e1:u=v
   .subst e1;exact hm w hw g2
   .rw[if_neg e1] at g1;exact h.le u w hu hw g1 g2
 dr:=λu hu g=>by
  unfold setQ at g;by_cases e1:u=v
  .subst e1;exact hf
  .rw[if_neg e1] at g;exact h.dr u hu g
 tr:=λw hw g=>by
  rcases h.tr w hw g with h1|⟨u,c,e1,e2,e3,e4,e5⟩
  .exact .inl h1
  .refine .inr ⟨u,c,e1,e2,by unfold setQ;split<;>simp[e3],λg2=>?_,e5⟩;have huv:u≠v:=λe=>by rw[e,hD] at e3;cases e3
   unfold setQ at g2;unfold setN;rw[if_neg huv];by_cases e:w=v
   .rw[if_pos e];exact h.od u e2 e3
   .rw[if_neg e] at g2⊢;exact e4 g2
def addQ(Q:Nat->Nat->Prop)(v i:Nat):Nat->Nat->Prop:=λu j=>Q u j\/(u=v/\j=i)
theorem Nw.Step.uniq(hN:N.Ok){u w w' i:Nat}{c c' r r':Int}(h:N.Step x u w i c r)(h':N.Step x u w' i c' r'):w'=w/\c'=c/\r'=r:=by
 have hne:=hN.ne i h.lt;rcases h.way with⟨a1,a2,a3,a4,a5⟩|⟨a1,a2,a3,a4,a5⟩<;>rcases h'.way with⟨b1,b2,b3,b4,b5⟩|⟨b1,b2,b3,b4,b5⟩
 .exact⟨by omega,by omega,by omega⟩
 .exact absurd (a1.trans b1.symm) hne
 .exact absurd (b1.trans a1.symm) hne
 .exact⟨by omega,by omega,by omega⟩
theorem Nw.Srch.pass(hN:N.Ok)(h:N.Srch x left p B n D Q d f a r o){v w i:Nat}{c m:Int}(hD:D v=true)(hs:N.Step x v w i c m)(hd:d v+(c+p v-p w)<farC)(hn:¬d v+(c+p v-p w)<d w):
  N.Srch x left p B n D (addQ Q v i) d f a r o:=
 { h with
  qd:=λu j g=>by rcases g with g|⟨rfl,rfl⟩<;>first|exact h.qd u j g|exact hD
  cl:=λu w' j c' r' g1 g2=>by
   rcases g2 with g2|⟨rfl,rfl⟩
   .exact h.cl u w' j c' r' g1 g2
   .obtain⟨rfl,rfl,rfl⟩:=Nw.Step.uniq hN hs g1;omega }
theorem Nw.Srch.skip(h:N.Srch x left p B n D Q d f a r o){v i:Nat}(hD:D v=true)(hs:∀w c m,¬N.Step x v w i c m):N.Srch x left p B n D (addQ Q v i) d f a r o:=
 { h with
  qd:=λu j g=>by rcases g with g|⟨rfl,rfl⟩<;>first|exact h.qd u j g|exact hD
  cl:=λu w' j c' r' g1 g2=>by
   rcases g2 with g2|⟨rfl,rfl⟩
   .exact h.cl u w' j c' r' g1 g2
   .exact absurd g1 (hs _ _ _) }
theorem Nw.Srch.relax(hN:N.Ok)(h:N.Srch x left p B n D Q d f a r o){v w i:Nat}{c m:Int}(hv:v<N.k)(hw:w<N.k)(hD:D v=true)(htop:∀u,u<N.k->D u=true->d u<=d v)(hs:N.Step x v w i c m)(h0:0<=c+p v-p w)
  (hl:d v+(c+p v-p w)<=n*B) (hd:d v+(c+p v-p w)<farC) (hn:d v+(c+p v-p w)<d w) :
  D w=false/\N.Srch x left p B n D (addQ Q v i) (setF d w (d v+(c+p v-p w))) (setF f w v) (setF a w i) (setF r w m) o:=by
 have hDw:D w=false:=by
  cases e:D w with
  |false=>rfl
  |true=>have:=htop w hw e;omega
 have hvw:v≠w:=λe=>by rw[e,hDw] at hD;cases hD
 have hdu:∀u,D u=true->setF d w (d v+(c+p v-p w)) u=d u:=λu g=>by unfold setF;rw[if_neg (λe=>by rw[e,hDw] at g;cases g)]
 have hdl:∀u,setF d w (d v+(c+p v-p w)) u<=d u:=λu=>by
  unfold setF;split
  .rename_i e;subst e;omega
  .exact w1i _
 refine⟨hDw,?_⟩;exact
 {cnt:=h.cnt
  od:=h.od
  d0:=λu hu=>by
   unfold setF;split
   .have:=h.d0 v hv;omega
   .exact h.d0 u hu
  lim:=λu hu g=>by
   unfold setF at g⊢;split
   .exact hl
   .rename_i e;rw[if_neg e] at g;exact h.lim u hu g
  src:=λu hu g=>by
   have h1:=h.src u hu g;unfold setF;split
   .rename_i e;subst e;have:=h.d0 v hv;omega
   .exact h1
  qd:=λu j g=>by rcases g with g|⟨rfl,rfl⟩<;>first|exact h.qd u j g|exact hD
  cl:=λu w' j c' r' g1 g2=>by
   rcases g2 with g2|⟨rfl,rfl⟩
   .obtain⟨h1,h2⟩:=h.cl u w' j c' r' g1 g2;have h3:=hdl w';rw[hdu u (h.qd u j g2)];omega
   .obtain⟨rfl,rfl,rfl⟩:=Nw.Step.uniq hN hs g1;rw[hdu u hD];unfold setF;rw[if_pos rfl];omega
  le:=λu w' hu hw' g1 g2=>by
   rw[hdu u g1];unfold setF;split
   .have:=htop u hu g1;omega
   .exact h.le u w' hu hw' g1 g2
  dr:=λu hu g=>by rw[hdu u g];exact h.dr u hu g
  tr:=λu hu g=>by
   by_cases e:u=w
   .subst e;refine .inr ⟨v,c,by simp[setF],hv,hD,λg2=>(by rw[hDw] at g2;cases g2),by simp[setF],by simpa[setF] using hs,?_⟩;rw[hdu v hD];simp[setF]
   .have e':∀(y:Nat->Int)(z:Int),setF y w z u=y u:=λy z=>by unfold setF;rw[if_neg e]
    rw[e'] at g;rcases h.tr u hu g with⟨h1,h2⟩|⟨u',c',e1,e2,e3,e4,e5,e6,e7⟩
    .exact .inl ⟨by rw[e'];exact h1,h2⟩
    .refine .inr ⟨u',c',by rw[e'];exact e1,e2,e3,e4,by rw[e'];exact e5,by rw[e',e'];exact e6,by rw[e',hdu u' e3];exact e7⟩ }
theorem Nw.Srch.found(h:N.Srch x left p B n D Q d f a r o)(hN:N.Ok)(hQ:∀u i,D u=true->Q u i)(hend:∀v,v<N.k->D v=false->¬d v<farC):N.Found x left p (λv=>decide (d v<farC)) d f a r o where
 d0:=λv hv _=>h.d0 v hv
 src:=λv hv g=>by have:=h.src v hv g;simp[this,farC]
 cl:=λu w i c r g1 g2=>by
  have hu:u<N.k:=by
   rcases g1.way with⟨e,_⟩|⟨e,_⟩<;>rw[<- e]
   .exact hN.fr i g1.lt
   .exact hN.to i g1.lt
  have hD:D u=true:=by
   cases e:D u with
   |true=>rfl
   |false=>exact absurd (of_decide_eq_true g2) (hend u hu e)
  have:=h.cl u w i c r g1 (hQ u i hD);exact⟨decide_eq_true this.1,this.2⟩
 ord:=λv hv g=>by
  have hD:D v=true:=by
   cases e:D v with
   |true=>rfl
   |false=>exact absurd (of_decide_eq_true g) (hend v hv e)
  have:=h.od v hv hD;have:=h.n_le;omega
 tr:=λv hv g=>by
  have hD:D v=true:=by
   cases e:D v with
   |true=>rfl
   |false=>exact absurd (of_decide_eq_true g) (hend v hv e)
  rcases h.tr v hv (of_decide_eq_true g) with h1|⟨u,c,e1,e2,e3,e4,e5⟩
  .exact .inl h1
  .exact .inr ⟨u,c,e1,e2,decide_eq_true (h.dr u e2 e3),e4 hD,e5⟩
end
end Px
end
section
namespace Px
open Go
structure AdjI(n:zh)(i:Nat)(be en:List (List Int)):Prop where
 lb:be.length=n.supply.length
 le:en.length=n.supply.length
 bi:∀v:Nat,v<n.supply.length->∀j∈gt be (v:Int),0<=j/\j<(i:Int)/\(gt n.arcs j).from_ =(v:Int)
 ei:∀v:Nat,v<n.supply.length->∀j∈gt en (v:Int),0<=j/\j<(i:Int)/\(gt n.arcs j).to =(v:Int)
 bc:∀j:Nat,j<i->(j:Int)∈gt be (gt n.arcs (j:Int)).from_
 ec:∀j:Nat,j<i->(j:Int)∈gt en (gt n.arcs (j:Int)).to
 bl:∀v:Nat,v<n.supply.length->(gt be (v:Int)).length<=i
 el:∀v:Nat,v<n.supply.length->(gt en (v:Int)).length<=i
abbrev Adj(n:zh)(be en:List (List Int)):Prop:=AdjI n n.arcs.length be en
theorem zn7{α:Type}[Inhabited α](l:List α){i:Int}(h0:0<=i)(h:i<(l.length:Int)):zu l i (gt l i)=l:=by obtain⟨n,rfl⟩:=w1n h0;rw[z3l (by omega)];unfold zu;simp
theorem zqm{α:Type}[Inhabited α](n:Nat)(x:α){j:Nat}(h:j<n):gt (List.replicate n x) (j:Int)=x:=by rw[z3l (by simpa using h)];simp
theorem y5g{n:zh}(h:z39 n){i:Nat}(hi:i<n.arcs.length){be en:List (List Int)}(hA:AdjI n i be en):
  AdjI n (i+1) (zu be (gt n.arcs (i:Int)).from_ (gt be (gt n.arcs (i:Int)).from_++[(i:Int)])) (zu en (gt n.arcs (i:Int)).to (gt en (gt n.arcs (i:Int)).to++[(i:Int)])):=by
 obtain⟨a1,a2,a3,a4,_⟩:=h.arc i hi;have g1:∀v:Int,0<=v->gt (zu be (gt n.arcs (i:Int)).from_ (gt be (gt n.arcs (i:Int)).from_++[(i:Int)])) v=if v =(gt n.arcs (i:Int)).from_ then gt be v++[(i:Int)] else gt be v:=λv hv=>by
  rw[z01 _ _ _ _ a1 (by rw[hA.lb];exact a2) hv];split
  .rename_i e;rw[e]
  .rfl
 have g2:∀v:Int,0<=v->gt (zu en (gt n.arcs (i:Int)).to (gt en (gt n.arcs (i:Int)).to++[(i:Int)])) v=if v =(gt n.arcs (i:Int)).to then gt en v++[(i:Int)] else gt en v:=λv hv=>by
  rw[z01 _ _ _ _ a3 (by rw[hA.le];exact a4) hv];split
  .rename_i e;rw[e]
  .rfl
 refine⟨by rw[zp];exact hA.lb,by rw[zp];exact hA.le,λv hv j hj=>?_,λv hv j hj=>?_,λj hj=>?_,λj hj=>?_,λv hv=>?_,λv hv=>?_⟩
 .rw[g1 _ (by omega)] at hj;split at hj
  .rename_i e;rcases w0k.1 hj with q|q
   .obtain⟨b1,b2,b3⟩:=hA.bi v hv j q;exact⟨b1,by omega,b3⟩
   .have q:=w0d.1 q;subst q;exact⟨by omega,by omega,e.symm⟩
  .obtain⟨b1,b2,b3⟩:=hA.bi v hv j hj;exact⟨b1,by omega,b3⟩
 .rw[g2 _ (by omega)] at hj;split at hj
  .rename_i e;rcases w0k.1 hj with q|q
   .obtain⟨b1,b2,b3⟩:=hA.ei v hv j q;exact⟨b1,by omega,b3⟩
   .have q:=w0d.1 q;subst q;exact⟨by omega,by omega,e.symm⟩
  .obtain⟨b1,b2,b3⟩:=hA.ei v hv j hj;exact⟨b1,by omega,b3⟩
 .rw[g1 _ (h.arc j (by omega)).1];by_cases e:j=i
  .subst e;rw[if_pos rfl];simp
  .have:=hA.bc j (by omega)
   split
   .exact w1g _ this
   .exact this
 .rw[g2 _ (h.arc j (by omega)).2.2.1];by_cases e:j=i
  .subst e;rw[if_pos rfl];simp
  .have:=hA.ec j (by omega)
   split
   .exact w1g _ this
   .exact this
 .rw[g1 _ (by omega)];have:=hA.bl v hv;split
  .rw[w0i];simp;omega
  .omega
 .rw[g2 _ (by omega)];have:=hA.el v hv;split
  .rw[w0i];simp;omega
  .omega
theorem ya5(φ:Nat){n:zh}(h:z39 n)(hφ:5000<φ)(sup X left price d1 d2:List Int)(arcs:List Arc):
  ∃be en,Adj n be en/\z1a φ φ n.arcs (n.arcs.length:Int) 0 sup arcs X left price (List.replicate n.supply.length []) (List.replicate n.supply.length []) d1 d2=z2l φ φ sup arcs X left price be en d1 d2:=by
 have hm:=h.m;refine zw (λm i(st:List (List Int)×List (List Int))=>z1a φ m n.arcs (n.arcs.length:Int) i sup arcs X left price st.1 st.2 d1 d2) n.arcs.length (λi st=>AdjI n i st.1 st.2) (λr=>∃be en,Adj n be en/\r=z2l φ φ sup arcs X left price be en d1 d2) ?_ ?_ φ (List.replicate n.supply.length [],List.replicate n.supply.length []) ?_ (by omega)
 .rintro m i ⟨be,en⟩ hi hA hs;have hA:AdjI n i be en:=hA;obtain⟨a1,a2,a3,a4,_⟩:=h.arc i hi;have b1:=hA.lb;have b2:=hA.le;have l1:=hA.bl (gt n.arcs (i:Int)).from_.toNat (by omega);have l2:=hA.el (gt n.arcs (i:Int)).to.toNat (by omega);rw[show (((gt n.arcs (i:Int)).from_.toNat:Nat):Int) =(gt n.arcs (i:Int)).from_ by omega] at l1;rw[show (((gt n.arcs (i:Int)).to.toNat:Nat):Int) =(gt n.arcs (i:Int)).to by omega] at l2;show ∃be' en',Adj n be' en'/\z1a φ (m+1) n.arcs (n.arcs.length:Int) (i:Int) sup arcs X left price be en d1 d2=_;rw[z1a,if_pos (by simp;omega),z6 ⟨by omega,by omega⟩,z6 ⟨a1,by omega⟩,z6 ⟨a1,by omega⟩,z6 rfl,z6 (by simp[fits];omega),z6 ⟨a1,by omega⟩,z6 rfl,z6 ⟨a3,by omega⟩,z6 ⟨a3,by omega⟩,z6 rfl,z6 (by simp[fits];omega),z6 ⟨a3,by omega⟩,z6 rfl,W_id (by omega) (by omega)];exact hs (_,_) (y5g h hi hA)
 .rintro m ⟨be,en⟩ hA;show ∃be' en',Adj n be' en'/\z1a φ (m+1) n.arcs (n.arcs.length:Int) (n.arcs.length:Int) sup arcs X left price be en d1 d2=_;rw[z1a,if_neg (by simp)];exact⟨be,en,hA,rfl⟩
 .refine⟨by simp,by simp,λv hv j hj=>?_,λv hv j hj=>?_,λj hj=>by omega,λj hj=>by omega,λv hv=>?_,λv hv=>?_⟩
  .rw[zqm _ _ hv] at hj;cases hj
  .rw[zqm _ _ hv] at hj;cases hj
  .rw[zqm _ _ hv];simp
  .rw[zqm _ _ hv];simp
structure Rnd(n:zh)(x left p:List Int):Prop where
 lx:x.length=n.arcs.length
 ll:left.length=n.supply.length
 lp:p.length=n.supply.length
 inv :(nwOf n).Inv (atN n.supply) (atN x) (atN left) (atN p)
 pb :(nwOf n).Pb 1000000000 (atN left) (atN p)
theorem zna{m:Nat}{f:Nat->Int}{B:Int}(h:∀i,i<m->f i<=B):sumN m f<=B*m:=by
 induction m with
 |zero=>simp[sumN]
 |succ m ih=>
  have:=ih λi hi=>h i (by omega)
  have h2:=h m (by omega);simp only[sumN];push_cast;rw[w33,Int.mul_one];omega
theorem Rnd.pbd{n:zh}(h:z39 n){x left p:List Int}(hR:Rnd n x left p){v:Nat}(hv:v<n.supply.length):0<=atN p v/\atN p v<=66000000000000:=by
 refine⟨hR.pb.p0 v hv,?_⟩;have h1:=hR.pb.top v hv;have hk:=h.k;have h2 :(sumN (nwOf n).k λw=>min (atN p w) (((nwOf n).k:Int)*1000000000))<=(256000000000:Int)*((nwOf n).k:Nat):=zna λw hw=>by show min (atN p w) ((n.supply.length:Int)*1000000000)<=256000000000;omega
 have h3 :(((nwOf n).k:Nat):Int) =(n.supply.length:Int):=rfl;rw[h3] at h1 h2;omega
theorem Rnd.xbd{n:zh}(h:z39 n){x left p:List Int}(hR:Rnd n x left p){i:Nat}(hi:i<n.arcs.length):0<=atN x i/\atN x i<=(gt n.arcs (i:Int)).cap/\(gt n.arcs (i:Int)).cap<=1000000000:=by have h1:=hR.inv.bnd i hi;have h2:=h.arc i hi;exact⟨h1.1,h1.2,h2.2.2.2.2.2.2.1⟩
theorem Rnd.lbd{n:zh}(h:z39 n){x left p:List Int}(hR:Rnd n x left p){v:Nat}(hv:v<n.supply.length): -1000000000<=atN left v/\atN left v<=1000000000:=by
 have h1:=h.sup v hv;by_cases g:0<=atN n.supply v
 .have:=hR.inv.pos v hv g;omega
 .have:=hR.inv.neg v hv (by omega);omega
abbrev BB:Int:=100000000000000
structure SrI(n:zh)(x left p:List Int)(nn:Nat)(o:Nat->Nat)(Q:Nat->Nat->Prop)(dn:List Bool)(D F:List Int)(S:List ze):Prop where
 ld:dn.length=n.supply.length
 lD:D.length=n.supply.length
 lF:F.length=n.supply.length
 lS:S.length=n.supply.length
 srch :(nwOf n).Srch (atN x) (atN left) (atN p) BB nn (λv=>gt dn (v:Int)) Q (atN D) (atN F) (λv=>(gt S (v:Int)).arc) (λv=>(gt S (v:Int)).room) o
structure VsI(n:zh)(x left p:List Int)(nn:Nat)(o:Nat->Nat)(v:Nat)(Q:Nat->Nat->Prop)(dn:List Bool)(D F:List Int)(S:List ze):Prop extends SrI n x left p (nn+1) o Q dn D F S where
 hv:v<n.supply.length
 dv:gt dn (v:Int)=true
 top:∀u,u<n.supply.length->gt dn (u:Int)=true->atN D u<=atN D v
 lv:0<=atN D v/\atN D v<=(nn:Int)*BB
 nk:nn<n.supply.length
theorem z90{l:List Int}{w:Nat}(y:Int)(h:w<l.length):atN (zu l (w:Int) y)=setF (atN l) w y:=by
 funext j;unfold atN setF;rw[z01 _ _ _ _ (by omega) (by omega) (by omega)];by_cases e:j=w
 .rw[if_pos e,if_pos (by omega)]
 .rw[if_neg e,if_neg (by omega)]
theorem y1w{S:List ze}{w:Nat}(st:ze)(h:w<S.length)(g:ze->Int):(λv:Nat=>g (gt (zu S (w:Int) st) (v:Int)))=setF (λv:Nat=>g (gt S (v:Int))) w (g st):=by
 funext j;unfold setF;rw[z01 _ _ _ _ (by omega) (by omega) (by omega)];by_cases e:j=w
 .rw[if_pos e,if_pos (by omega)]
 .rw[if_neg e,if_neg (by omega)]
section
variable{n:zh}{x left p:List Int}{nn:Nat}{o:Nat->Nat}{v:Nat}{Q:Nat->Nat->Prop}{dn:List Bool}{D F:List Int}{S:List ze}
theorem Rnd.rc(h:z39 n)(hR:Rnd n x left p){v w i:Nat}{c r:Int}(hv:v<n.supply.length)(hw:w<n.supply.length)(hs :(nwOf n).Step (atN x) v w i c r):0<=c+atN p v-atN p w/\c+atN p v-atN p w<=70000000000000/\-1000000000<=c/\c<=1000000000:=by
 have h1:=(hR.inv.step hs).1;have h2:=hR.pbd h hv;have h3:=hR.pbd h hw;have h4:=h.arc i hs.lt;have h5 :(nwOf n).cost i =(gt n.arcs (i:Int)).cost:=rfl;have : -1000000000<=c/\c<=1000000000:=by rcases hs.way with⟨_,_,_,e,_⟩|⟨_,_,_,e,_⟩<;>omega
 exact⟨h1,by omega,this.1,this.2⟩
theorem VsI.dbd(h:z39 n)(hV:VsI n x left p nn o v Q dn D F S):0<=atN D v/\atN D v<=25600000000000000:=by have hl:=hV.lv;have h1:=hV.nk;have h2:=h.k;have :(nn:Int)*BB<=256*BB:=w2a (by omega) (by simp[BB]);refine⟨hl.1,w5f hl.2 (w5f this (by simp[BB]))⟩
theorem VsI.pass(h:z39 n)(hR:Rnd n x left p)(hV:VsI n x left p nn o v Q dn D F S){w i:Nat}{c r:Int}(hw:w<n.supply.length)(hs :(nwOf n).Step (atN x) v w i c r)(hn:¬atN D v+(c+atN p v-atN p w)<atN D w):
  VsI n x left p nn o v (addQ Q v i) dn D F S:=by
 have h1:=hR.rc h hV.hv hw hs;have h2:=hV.dbd h;exact { hV with srch:=hV.srch.pass h.nw hV.dv hs (by simp only[farC];omega) hn }
theorem VsI.skip(hV:VsI n x left p nn o v Q dn D F S){i:Nat}(hs:∀w c r,¬(nwOf n).Step (atN x) v w i c r):VsI n x left p nn o v (addQ Q v i) dn D F S:=
 { hV with srch:=hV.srch.skip hV.dv hs }
theorem VsI.relax(h:z39 n)(hR:Rnd n x left p)(hV:VsI n x left p nn o v Q dn D F S){w i:Nat}{c r:Int}(hw:w<n.supply.length)(hs :(nwOf n).Step (atN x) v w i c r)(hn:atN D v+(c+atN p v-atN p w)<atN D w)(cc:Int):
  VsI n x left p nn o v (addQ Q v i) dn (zu D (w:Int) (atN D v+(c+atN p v-atN p w))) (zu F (w:Int) (v:Int)) (zu S (w:Int) ⟨(i:Int),(w:Int),cc,r⟩):=by
 have h1:=hR.rc h hV.hv hw hs;have h2:=hV.dbd h;have h3:atN D v+(c+atN p v-atN p w)<=((nn+1:Nat):Int)*BB:=by have:=hV.lv.2;rw[show ((nn+1:Nat):Int) =(nn:Int)+1 by omega,w2x];simp only[BB] at this⊢;omega
 obtain⟨q1,q2⟩:=hV.srch.relax h.nw hV.hv hw hV.dv hV.top hs h1.1 h3 (by simp only[farC];omega) hn;have hvw:v≠w:=λe=>by rw[e] at hV;have:=hV.dv;rw[this] at q1;cases q1
 have eD:=z90 (atN D v+(c+atN p v-atN p w)) (l:=D) (by rw[hV.lD];exact hw);have eF:=z90 (v:Int) (l:=F) (by rw[hV.lF];exact hw);have eA:=y1w ⟨(i:Int),(w:Int),cc,r⟩ (S:=S) (by rw[hV.lS];exact hw) (·.arc);have eR:=y1w ⟨(i:Int),(w:Int),cc,r⟩ (S:=S) (by rw[hV.lS];exact hw) (·.room);have ev:∀u:Nat,gt dn (u:Int)=true->atN (zu D (w:Int) (atN D v+(c+atN p v-atN p w))) u=atN D u:=λu hu=>by rw[eD];unfold setF;rw[if_neg (λe=>by rw[e,q1] at hu;cases hu)]
 refine { ld:=hV.ld,lD:=by rw[zp];exact hV.lD,lF:=by rw[zp];exact hV.lF,lS:=by rw[zp];exact hV.lS,srch:=?_,hv:=hV.hv,dv:=hV.dv,top:=λu hu hd=>?_,lv:=?_,nk:=hV.nk }
 .rw[eD,eF,eA,eR];exact q2
 .rw[ev u hd,ev v hV.dv];exact hV.top u hu hd
 .rw[ev v hV.dv];exact hV.lv
end
end Px
end
section
namespace Px
open Go
section
variable{φ:Nat}{n:zh}{x left p:List Int}{nn:Nat}{o:Nat->Nat}{v:Nat}{dn:List Bool}
variable(k115:Int->List Int->List Arc->List Bool->List Int->List Int->List Int->List (List Int)->List (List Int)->List Int->List Int->List ze->List Int->List Int->Option (Flow×Int×Unit))
theorem zzn(h:z39 n)(hR:Rnd n x left p)(sup:List Int)(be en:List (List Int))(d1 d2:List Int)(hA:Adj n be en)(kI:Int)(bl:List Int)(hbl:bl=gt be (v:Int))(Q0:Nat->Nat->Prop)
  (G:Option (Flow×Int×Unit)->Prop)
  (fin:∀D F S,VsI n x left p nn o v (λu i=>Q0 u i\/(u=v/\(i:Int)∈bl)) dn D F S->G (z0h φ k115 φ ((gt en (v:Int)).length:Int) 0 kI (v:Int) (gt en (v:Int)) sup n.arcs dn (v:Int) x left p be en (v:Int) D F S d1 d2))
  {D F:List Int} {S:List ze} (hV:VsI n x left p nn o v Q0 dn D F S) (m:Nat) (hm:bl.length<m) :
  G (z0g φ k115 m (bl.length:Int) 0 kI (v:Int) bl sup n.arcs dn (v:Int) x left p be (v:Int) en D F S d1 d2):=by
 have hm2:=h.m;have hbl2:=hA.bl v hV.hv;rw[<- hbl] at hbl2;have hv:=hV.hv;refine zw (λm i(st:List Int×List Int×List ze)=>z0g φ k115 m (bl.length:Int) i kI (v:Int) bl sup n.arcs dn (v:Int) x left p be (v:Int) en st.1 st.2.1 st.2.2 d1 d2) bl.length
  (λi st=>VsI n x left p nn o v (λu j=>Q0 u j\/(u=v/\(j:Int)∈bl.take i)) dn st.1 st.2.1 st.2.2) G ?_ ?_ m (D,F,S) ?_ hm
 .rintro m i ⟨D,F,S⟩ hi hI hs;have hI:VsI n x left p nn o v (λu j=>Q0 u j\/(u=v/\(j:Int)∈bl.take i)) dn D F S:=hI;show G (z0g φ k115 (m+1) (bl.length:Int) (i:Int) kI (v:Int) bl sup n.arcs dn (v:Int) x left p be (v:Int) en D F S d1 d2);obtain⟨b1,b2,b3⟩:=hA.bi v hv (gt bl (i:Int)) (by rw[<- hbl];exact z8s (by omega) (by omega));obtain⟨j,ej⟩:=w1n b1;have hj:j<n.arcs.length:=by omega
  have htake:bl.take (i+1)=bl.take i++[(j:Int)]:=by rw[z2p bl i hi,ej]
  rw[ej] at b3;obtain⟨a1,a2,a3,a4,a5,a6,a7,a8,a9⟩:=h.arc j hj;obtain⟨w,ew⟩:=w1n a3;have hw:w<n.supply.length:=by omega
  have hxb:=hR.xbd h hj;have hpv:=hR.pbd h hv;have hpw:=hR.pbd h hw;have hdv:=hI.dbd h;have lD:=hI.lD;have lF:=hI.lF;have lS:=hI.lS;have lx:=hR.lx;have lp:=hR.lp;have wid:∀st:List Int×List Int×List ze,VsI n x left p nn o v (addQ (λu j=>Q0 u j\/(u=v/\(j:Int)∈bl.take i)) v j) dn st.1 st.2.1 st.2.2->VsI n x left p nn o v (λu j=>Q0 u j\/(u=v/\(j:Int)∈bl.take (i+1))) dn st.1 st.2.1 st.2.2:=λst hq=>by
   have :(λu j=>Q0 u j\/(u=v/\(j:Int)∈bl.take (i+1)))=addQ (λu j=>Q0 u j\/(u=v/\(j:Int)∈bl.take i)) v j:=by
    funext u j';unfold addQ;rw[htake];simp only[w0k,w0d,eq_iff_iff];constructor
    .rintro(q|⟨q1,q2|q2⟩)
     .exact .inl (.inl q)
     .exact .inl (.inr ⟨q1,q2⟩)
     .exact .inr ⟨q1,by omega⟩
    .rintro((q|⟨q1,q2⟩)|⟨q1,q2⟩)
     .exact .inl q
     .exact .inr ⟨q1,.inl q2⟩
     .exact .inr ⟨q1,.inr (by omega)⟩
   rw[this];exact hq
  have exj:gt x (j:Int)=atN x j:=rfl;have epv:gt p (v:Int)=atN p v:=rfl;have epw:gt p (w:Int)=atN p w:=rfl;have eDv:gt D (v:Int)=atN D v:=rfl;have eDw:gt D (w:Int)=atN D w:=rfl;have ef :(nwOf n).fr j=v:=by show (gt n.arcs (j:Int)).from_.toNat=v;omega
  have et :(nwOf n).to j=w:=by show (gt n.arcs (j:Int)).to.toNat=w;omega
  have ecap :(nwOf n).cap j =(gt n.arcs (j:Int)).cap:=rfl;have ecost :(nwOf n).cost j =(gt n.arcs (j:Int)).cost:=rfl;have hW1:W ((gt n.arcs (j:Int)).cap-atN x j) =(gt n.arcs (j:Int)).cap-atN x j:=W_id (by omega) (by omega);have hW2:W ((gt n.arcs (j:Int)).cost+atN p v) =(gt n.arcs (j:Int)).cost+atN p v:=W_id (by omega) (by omega);have hW3:W ((gt n.arcs (j:Int)).cost+atN p v-atN p w) =(gt n.arcs (j:Int)).cost+atN p v-atN p w:=W_id (by omega) (by omega);have hW4:W (atN D v+((gt n.arcs (j:Int)).cost+atN p v-atN p w))=atN D v+((gt n.arcs (j:Int)).cost+atN p v-atN p w):=W_id (by omega) (by omega);have hW5:W ((i:Int)+1) =(i:Int)+1:=W_id (by omega) (by omega);rw[z0g,if_pos (by simp;omega),z6 ⟨by omega,by omega⟩];have ej':gt bl (i:Int) =(j:Int):=ej;have ew' :(gt n.arcs (j:Int)).to =(w:Int):=ew;rw[ej',ew',exj,epv,epw,eDv,eDw,hW1,hW2,hW3,hW4,hW5,z6 ⟨by omega,by omega⟩,z6 ⟨by omega,by omega⟩,z6 (λ_=>⟨by omega,by omega⟩),z6 (λ_=>⟨by omega,by omega⟩)];by_cases g:0<(gt n.arcs (j:Int)).cap-atN x j
  .have hst :(nwOf n).Step (atN x) v w j (gt n.arcs (j:Int)).cost ((gt n.arcs (j:Int)).cap-atN x j):=⟨hj,.inl ⟨ef,et,by rw[ecap];omega,rfl,rfl⟩⟩;rw[if_pos (by simpa using g),z6 ⟨by omega,by omega⟩,z6 ⟨by omega,by omega⟩];by_cases g2:atN D v+((gt n.arcs (j:Int)).cost+atN p v-atN p w)<atN D w
   .rw[if_pos (by simpa using g2),z6 ⟨by omega,by omega⟩,z6 ⟨by omega,by omega⟩,z6 ⟨by omega,by omega⟩,if_neg (by simp)];exact hs (_,_,_) (wid (_,_,_) (hI.relax h hR hw hst g2 _))
   .rw[if_neg (by simpa using g2),if_neg (by simp)];exact hs (D,F,S) (wid (D,F,S) (hI.pass h hR hw hst g2))
  .rw[if_neg (by simpa using g)];refine hs (D,F,S) (wid (D,F,S) (hI.skip λw' c r q=>?_));rcases q.way with⟨q1,q2,q3,_,_⟩|⟨q1,_⟩
   .rw[ecap] at q3;omega
   .rw[et] at q1;have:=h.nw.ne j hj;rw[ef,et] at this;exact this q1.symm
 .rintro m ⟨D,F,S⟩ hI;show G (z0g φ k115 (m+1) (bl.length:Int) (bl.length:Int) kI (v:Int) bl sup n.arcs dn (v:Int) x left p be (v:Int) en D F S d1 d2);have hle:=hA.le;have hlb:=hA.lb;rw[z0g,if_neg (by simp),z6 ⟨by omega,by omega⟩,z6 ⟨by omega,by omega⟩,z6 rfl,hbl,zn7 be (by omega) (by omega)];have hI:VsI n x left p nn o v (λu j=>Q0 u j\/(u=v/\(j:Int)∈bl.take bl.length)) dn D F S:=hI;rw[w1z] at hI;exact fin D F S hI
 .have :(λu j=>Q0 u j\/(u=v/\((j:Nat):Int)∈bl.take 0))=Q0:=by funext u j;simp
  show VsI n x left p nn o v (λu j=>Q0 u j\/(u=v/\(j:Int)∈bl.take 0)) dn D F S;rw[this];exact hV
theorem y4e(h:z39 n)(hR:Rnd n x left p)(sup:List Int)(be en:List (List Int))(d1 d2:List Int)(hA:Adj n be en)(kI:Int)(bl:List Int)(hbl:bl=gt en (v:Int))(Q0:Nat->Nat->Prop)
  (G:Option (Flow×Int×Unit)->Prop)
  (fin:∀D F S,VsI n x left p nn o v (λu i=>Q0 u i\/(u=v/\(i:Int)∈bl)) dn D F S->G (k115 kI sup n.arcs dn x left p be en D F S d1 d2))
  {D F:List Int} {S:List ze} (hV:VsI n x left p nn o v Q0 dn D F S) (m:Nat) (hm:bl.length<m) :
  G (z0h φ k115 m (bl.length:Int) 0 kI (v:Int) bl sup n.arcs dn (v:Int) x left p be en (v:Int) D F S d1 d2):=by
 have hm2:=h.m;have hbl2:=hA.el v hV.hv;rw[<- hbl] at hbl2;have hv:=hV.hv;refine zw (λm i(st:List Int×List Int×List ze)=>z0h φ k115 m (bl.length:Int) i kI (v:Int) bl sup n.arcs dn (v:Int) x left p be en (v:Int) st.1 st.2.1 st.2.2 d1 d2) bl.length
  (λi st=>VsI n x left p nn o v (λu j=>Q0 u j\/(u=v/\(j:Int)∈bl.take i)) dn st.1 st.2.1 st.2.2) G ?_ ?_ m (D,F,S) ?_ hm
 .rintro m i ⟨D,F,S⟩ hi hI hs;have hI:VsI n x left p nn o v (λu j=>Q0 u j\/(u=v/\(j:Int)∈bl.take i)) dn D F S:=hI;show G (z0h φ k115 (m+1) (bl.length:Int) (i:Int) kI (v:Int) bl sup n.arcs dn (v:Int) x left p be en (v:Int) D F S d1 d2);obtain⟨b1,b2,b3⟩:=hA.ei v hv (gt bl (i:Int)) (by rw[<- hbl];exact z8s (by omega) (by omega));obtain⟨j,ej⟩:=w1n b1;have hj:j<n.arcs.length:=by omega
  have htake:bl.take (i+1)=bl.take i++[(j:Int)]:=by rw[z2p bl i hi,ej]
  rw[ej] at b3;obtain⟨a1,a2,a3,a4,a5,a6,a7,a8,a9⟩:=h.arc j hj;obtain⟨w,ew⟩:=w1n a1;have hw:w<n.supply.length:=by omega
  have hxb:=hR.xbd h hj;have hpv:=hR.pbd h hv;have hpw:=hR.pbd h hw;have hdv:=hI.dbd h;have lD:=hI.lD;have lF:=hI.lF;have lS:=hI.lS;have lx:=hR.lx;have lp:=hR.lp;have wid:∀st:List Int×List Int×List ze,VsI n x left p nn o v (addQ (λu j=>Q0 u j\/(u=v/\(j:Int)∈bl.take i)) v j) dn st.1 st.2.1 st.2.2->VsI n x left p nn o v (λu j=>Q0 u j\/(u=v/\(j:Int)∈bl.take (i+1))) dn st.1 st.2.1 st.2.2:=λst hq=>by
   have :(λu j=>Q0 u j\/(u=v/\(j:Int)∈bl.take (i+1)))=addQ (λu j=>Q0 u j\/(u=v/\(j:Int)∈bl.take i)) v j:=by
    funext u j';unfold addQ;rw[htake];simp only[w0k,w0d,eq_iff_iff];constructor
    .rintro(q|⟨q1,q2|q2⟩)
     .exact .inl (.inl q)
     .exact .inl (.inr ⟨q1,q2⟩)
     .exact .inr ⟨q1,by omega⟩
    .rintro((q|⟨q1,q2⟩)|⟨q1,q2⟩)
     .exact .inl q
     .exact .inr ⟨q1,.inl q2⟩
     .exact .inr ⟨q1,.inr (by omega)⟩
   rw[this];exact hq
  have exj:gt x (j:Int)=atN x j:=rfl;have epv:gt p (v:Int)=atN p v:=rfl;have epw:gt p (w:Int)=atN p w:=rfl;have eDv:gt D (v:Int)=atN D v:=rfl;have eDw:gt D (w:Int)=atN D w:=rfl;have ef :(nwOf n).fr j=w:=by show (gt n.arcs (j:Int)).from_.toNat=w;omega
  have et :(nwOf n).to j=v:=by show (gt n.arcs (j:Int)).to.toNat=v;omega
  have ecap :(nwOf n).cap j =(gt n.arcs (j:Int)).cap:=rfl;have ecost :(nwOf n).cost j =(gt n.arcs (j:Int)).cost:=rfl;have hW2:W (atN p v-(gt n.arcs (j:Int)).cost)=atN p v-(gt n.arcs (j:Int)).cost:=W_id (by omega) (by omega);have hW3:W (atN p v-(gt n.arcs (j:Int)).cost-atN p w)=-(gt n.arcs (j:Int)).cost+atN p v-atN p w:=by rw[W_id (by omega) (by omega)];omega
  have hW4:W (atN D v+(-(gt n.arcs (j:Int)).cost+atN p v-atN p w))=atN D v+(-(gt n.arcs (j:Int)).cost+atN p v-atN p w):=W_id (by omega) (by omega);have hW5:W ((i:Int)+1) =(i:Int)+1:=W_id (by omega) (by omega);rw[z0h,if_pos (by simp;omega),z6 ⟨by omega,by omega⟩];have ej':gt bl (i:Int) =(j:Int):=ej;have ew' :(gt n.arcs (j:Int)).from_ =(w:Int):=ew;rw[ej',ew',exj,epv,epw,eDv,eDw,hW2,hW3,hW4,hW5,z6 ⟨by omega,by omega⟩,z6 ⟨by omega,by omega⟩,z6 (λ_=>⟨by omega,by omega⟩),z6 (λ_=>⟨by omega,by omega⟩),z6 (λ_=>⟨by omega,by omega⟩)];by_cases g:0<atN x j
  .have hst :(nwOf n).Step (atN x) v w j (-(gt n.arcs (j:Int)).cost) (atN x j):=⟨hj,.inr ⟨et,ef,g,rfl,rfl⟩⟩;rw[if_pos (by simpa using g),z6 ⟨by omega,by omega⟩,z6 ⟨by omega,by omega⟩];by_cases g2:atN D v+(-(gt n.arcs (j:Int)).cost+atN p v-atN p w)<atN D w
   .rw[if_pos (by simpa using g2),z6 ⟨by omega,by omega⟩,z6 ⟨by omega,by omega⟩,z6 ⟨by omega,by omega⟩,if_neg (by simp)];exact hs (_,_,_) (wid (_,_,_) (hI.relax h hR hw hst g2 _))
   .rw[if_neg (by simpa using g2),if_neg (by simp)];exact hs (D,F,S) (wid (D,F,S) (hI.pass h hR hw hst g2))
  .rw[if_neg (by simpa using g)];refine hs (D,F,S) (wid (D,F,S) (hI.skip λw' c r q=>?_));rcases q.way with⟨q1,q2,q3,_,_⟩|⟨q1,q2,q3,_⟩
   .rw[ef] at q1;have:=h.nw.ne j hj;rw[ef,et] at this;exact this q1
   .omega
 .rintro m ⟨D,F,S⟩ hI;show G (z0h φ k115 (m+1) (bl.length:Int) (bl.length:Int) kI (v:Int) bl sup n.arcs dn (v:Int) x left p be en (v:Int) D F S d1 d2);have hle:=hA.le;rw[z0h,if_neg (by simp),hbl,zn7 en (by omega) (by omega)];have hI:VsI n x left p nn o v (λu j=>Q0 u j\/(u=v/\(j:Int)∈bl.take bl.length)) dn D F S:=hI;rw[w1z] at hI;exact fin D F S hI
 .have :(λu j=>Q0 u j\/(u=v/\((j:Nat):Int)∈bl.take 0))=Q0:=by funext u j;simp
  show VsI n x left p nn o v (λu j=>Q0 u j\/(u=v/\(j:Int)∈bl.take 0)) dn D F S;rw[this];exact hV
end
end Px
end
section
namespace Px
open Go
theorem Nw.Srch.wide{N:Nw}{x left p:Nat->Int}{B:Int}{n:Nat}{D:Nat->Bool}{Q Q':Nat->Nat->Prop}{d f a r:Nat->Int}{o:Nat->Nat}(h:N.Srch x left p B n D Q d f a r o)
  (hq:∀u i,Q' u i->D u=true/\(Q u i\/∀w c m,¬N.Step x u w i c m)):N.Srch x left p B n D Q' d f a r o:=
 { h with
  qd:=λu i g=>(hq u i g).1
  cl:=λu w i c r' g1 g2=>by
   rcases(hq u i g2).2 with q|q
   .exact h.cl u w i c r' g1 q
   .exact absurd g1 (q _ _ _) }
section
variable{φ:Nat}{n:zh}{x left p:List Int}
theorem zpb(k47:List Int->List Arc->List Int->List Int->List Int->List (List Int)->List (List Int)->List Int->List Int->Option (Flow×Int×Unit))
  (k115:Int->List Int->List Arc->List Bool->List Int->List Int->List Int->List (List Int)->List (List Int)->List Int->List Int->List ze->List Int->List Int->Option (Flow×Int×Unit))
  (k:Nat) (hk:k<=256) (sup:List Int) (arcs:List Arc) (dn:List Bool) (be en:List (List Int)) (D F:List Int) (S:List ze) (d1 d2:List Int) (kI:Int) (ld:dn.length=k) (lD:D.length=k) (G:Option (Flow×Int×Unit)->Prop)
  (fin0 :(∀u:Nat,u<k->gt dn (u:Int)=false->¬atN D u<1152921504606846976)->G (z2b φ k47 sup arcs D F S x left p be en d1 d2))
  (fin1:∀v:Nat,v<k->gt dn (v:Int)=false->atN D v<1152921504606846976->(∀u:Nat,u<k->gt dn (u:Int)=false->atN D v<=atN D u)->
   G (ck ((0:Int)<=(v:Int)/\(v:Int)<(dn.length:Int)) (ck ((0:Int)<=(v:Int)/\(v:Int)<(be.length:Int)) (ck ((0:Int)<=(v:Int)/\(v:Int)<(be.length:Int)) (ck (((v:Int):Int) =(v:Int)) (z0g φ k115 φ ((gt be (v:Int)).length:Int) 0 kI (v:Int) (gt be (v:Int)) sup arcs (zu dn (v:Int) true) (v:Int) x left p be (v:Int) en D F S d1 d2))))))
  (m:Nat) (hm:k<m):G (z0y φ k47 k115 m kI (k:Int) 0 sup arcs dn (-1) x left p be en D F S d1 d2):=by
 refine zw (λm i(v:Int)=>z0y φ k47 k115 m kI (k:Int) i sup arcs dn v x left p be en D F S d1 d2) k
  (λi v=>(v=-1/\∀u:Nat,u<i->gt dn (u:Int)=false->¬atN D u<1152921504606846976)\/∃w:Nat,w<i/\v =(w:Int)/\gt dn (w:Int)=false/\atN D w<1152921504606846976/\∀u:Nat,u<i->gt dn (u:Int)=false->atN D w<=atN D u) G ?_ ?_ m (-1) (.inl ⟨rfl,λu hu=>by omega⟩) hm
 .intro m i v hi hI hs;have hW:W ((i:Int)+1) =(i:Int)+1:=W_id (by omega) (by omega);have hvr:¬v<0->(0:Int)<=v/\v<(D.length:Int):=λhv=>by rcases hI with⟨rfl,_⟩|⟨w,hw,rfl,_⟩<;>omega
  have eDi:gt D (i:Int)=atN D i:=rfl;show G (z0y φ k47 k115 (m+1) kI (k:Int) (i:Int) sup arcs dn v x left p be en D F S d1 d2);rw[z0y,if_pos (by simp;omega),z6 ⟨by omega,by omega⟩,z6 (λ_=>⟨by omega,by omega⟩),z6 (λ_=>⟨by omega,by omega⟩),z6 (λq=>hvr (by simpa using q.2)),hW,eDi];cases hd:gt dn (i:Int) with
  |true=>
   rw[if_neg (by simp)];refine hs v ?_;rcases hI with⟨rfl,h1⟩|⟨w,hw,rfl,h1,h2,h3⟩
   .refine .inl ⟨rfl,λu hu hu'=>?_⟩;by_cases e:u=i
    .rw[e,hd] at hu';cases hu'
    .exact h1 u (by omega) hu'
   .refine .inr ⟨w,by omega,rfl,h1,h2,λu hu hu'=>?_⟩;by_cases e:u=i
    .rw[e,hd] at hu';cases hu'
    .exact h3 u (by omega) hu'
  |false=>
   by_cases g1:atN D i<1152921504606846976
   .rcases hI with⟨rfl,h1⟩|⟨w,hw,rfl,h1,h2,h3⟩
    .rw[if_pos (by simp;omega)];refine hs (i:Int) (.inr ⟨i,by omega,rfl,hd,g1,λu hu hu'=>?_⟩);by_cases e:u=i
     .rw[e];omega
     .have:=h1 u (by omega) hu';omega
    .have eDw:gt D (w:Int)=atN D w:=rfl;rw[eDw];by_cases g2:atN D i<atN D w
     .rw[if_pos (by simp;omega)];refine hs (i:Int) (.inr ⟨i,by omega,rfl,hd,g1,λu hu hu'=>?_⟩);by_cases e:u=i
      .rw[e];omega
      .have:=h3 u (by omega) hu';omega
     .rw[if_neg (by simp;omega)];refine hs (w:Int) (.inr ⟨w,by omega,rfl,h1,h2,λu hu hu'=>?_⟩);by_cases e:u=i
      .rw[e];omega
      .exact h3 u (by omega) hu'
   .rw[if_neg (by simp[g1])];refine hs v ?_;rcases hI with⟨rfl,h1⟩|⟨w,hw,rfl,h1,h2,h3⟩
    .refine .inl ⟨rfl,λu hu hu'=>?_⟩;by_cases e:u=i
     .rw[e];exact g1
     .exact h1 u (by omega) hu'
    .refine .inr ⟨w,by omega,rfl,h1,h2,λu hu hu'=>?_⟩;by_cases e:u=i
     .rw[e];omega
     .exact h3 u (by omega) hu'
 .intro m v hI;show G (z0y φ k47 k115 (m+1) kI (k:Int) (k:Int) sup arcs dn v x left p be en D F S d1 d2);rw[z0y,if_neg (by simp)];rcases hI with⟨rfl,h1⟩|⟨w,hw,rfl,h1,h2,h3⟩
  .rw[if_pos (by simp)];exact fin0 h1
  .rw[if_neg (by simp)];exact fin1 w hw h1 h2 h3
theorem zzo(k47:List Int->List Arc->List Int->List Int->List Int->List (List Int)->List (List Int)->List Int->List Int->Option (Flow×Int×Unit))(h:z39 n)(hφ:5000<φ)(hR:Rnd n x left p)(sup:List Int)(be en:List (List Int))(d1 d2:List Int)(hA:Adj n be en)(G:Option (Flow×Int×Unit)->Prop)
  (fin:∀D F S o,D.length=n.supply.length->F.length=n.supply.length->S.length=n.supply.length->(nwOf n).Found (atN x) (atN left) (atN p) (λv=>decide (atN D v<farC)) (atN D) (atN F) (λv=>(gt S (v:Int)).arc) (λv=>(gt S (v:Int)).room) o->G (z2b φ k47 sup n.arcs D F S x left p be en d1 d2)) :
  ∀(d m nn:Nat)(o:Nat->Nat)(dn:List Bool)(D F:List Int)(S:List ze),n.supply.length-nn=d->d<m->SrI n x left p nn o (λu _=>gt dn (u:Int)=true) dn D F S->
  G (z3u φ k47 m (n.supply.length:Int) sup n.arcs dn x left p be en D F S d1 d2):=by
 have hk:=h.k;have hm2:=h.m;intro d
 induction d with
 |zero=>
  intro m nn o dn D F S hd hm hS;obtain⟨m,rfl⟩:∃m',m=m'+1:=⟨m-1,by omega⟩;have hnn:=hS.srch.n_le;have hnn:nn<=n.supply.length:=hnn;rw[z3u];refine zpb k47 _ n.supply.length hk sup n.arcs dn be en D F S d1 d2 _ hS.ld hS.lD G (λh0=>?_) (λv hv hdv h1 h2=>?_) φ (by omega)
  .refine fin D F S o hS.lD hS.lF hS.lS (hS.srch.found h.nw (λu i hu=>hu) λv hv hv'=>h0 v hv hv')
  .have:=hS.srch.n_lt (v:=v) hv hdv
   have:nn<n.supply.length:=this;omega
 |succ d ih=>
  intro m nn o dn D F S hd hm hS;obtain⟨m,rfl⟩:∃m',m=m'+1:=⟨m-1,by omega⟩;rw[z3u];refine zpb k47 _ n.supply.length hk sup n.arcs dn be en D F S d1 d2 _ hS.ld hS.lD G (λh0=>?_) (λv hv hdv h1 h2=>?_) φ (by omega)
  .exact fin D F S o hS.lD hS.lF hS.lS (hS.srch.found h.nw (λu i hu=>hu) λv hv hv'=>h0 v hv hv')
  .have hlb:=hA.lb;have ld:=hS.ld;have hset :(λu:Nat=>gt (zu dn (v:Int) true) (u:Int))=setQ (λu:Nat=>gt dn (u:Int)) v:=by
    funext u;unfold setQ;rw[z01 _ _ _ _ (by omega) (by omega) (by omega)];by_cases e:u=v
    .rw[if_pos e,if_pos (by omega)]
    .rw[if_neg e,if_neg (by omega)]
   have hV:VsI n x left p nn (setN o v nn) v (λu _=>gt dn (u:Int)=true) (zu dn (v:Int) true) D F S:=by
    refine { ld:=by rw[zp];exact ld,lD:=hS.lD,lF:=hS.lF,lS:=hS.lS,srch:=?_,hv:=hv,dv:=?_,top:=λu hu hd=>?_,lv:=⟨hS.srch.d0 v hv,hS.srch.lim v hv h1⟩,nk:=?_ }
    .rw[hset];exact hS.srch.mark (by simp[BB]) hv hdv h1 λw hw hw'=>h2 w hw hw'
    .rw[z01 _ _ _ _ (by omega) (by omega) (by omega),if_pos rfl]
    .rw[z01 _ _ _ _ (by omega) (by omega) (by omega)] at hd;by_cases e:u=v
     .rw[e];omega
     .rw[if_neg (by omega)] at hd;exact hS.srch.le u v hu hv hd hdv
    .exact hS.srch.n_lt (v:=v) hv hdv
   rw[z6 ⟨by omega,by omega⟩,z6 ⟨by omega,by omega⟩,z6 ⟨by omega,by omega⟩,z6 rfl];refine zzn _ h hR sup be en d1 d2 hA _ _ rfl _ G (λD1 F1 S1 hV1=>?_) hV φ (by have:=hA.bl v hv;omega);refine y4e _ h hR sup be en d1 d2 hA _ _ rfl _ G (λD2 F2 S2 hV2=>?_) hV1 φ (by have:=hA.el v hv;omega);refine ih m (nn+1) (setN o v nn) (zu dn (v:Int) true) D2 F2 S2 (by omega) (by omega) ⟨hV2.ld,hV2.lD,hV2.lF,hV2.lS,hV2.srch.wide λu i hu=>⟨hu,?_⟩⟩;have hu':gt (zu dn (v:Int) true) (u:Int)=true:=hu;by_cases e:u=v
   .subst e;by_cases gi:i<n.arcs.length
    .by_cases g1 :(gt n.arcs (i:Int)).from_ =(u:Int)
     .have:=hA.bc i gi
      rw[g1] at this;exact .inl (.inl (.inr ⟨rfl,this⟩))
     .by_cases g2 :(gt n.arcs (i:Int)).to =(u:Int)
      .have:=hA.ec i gi
       rw[g2] at this;exact .inl (.inr ⟨rfl,this⟩)
      .refine .inr λw c r q=>?_
       have ha:=h.arc i gi;rcases q.way with⟨q1,_⟩|⟨q1,_⟩
       .have q1 :(gt n.arcs (i:Int)).from_.toNat=u:=q1;omega
       .have q1 :(gt n.arcs (i:Int)).to.toNat=u:=q1;omega
    .exact .inr λw c r q=>gi q.lt
   .rw[z01 _ _ _ _ (by omega) (by omega) (by omega),if_neg (by omega)] at hu';exact .inl (.inl (.inl hu'))
theorem zzm(k47:List Int->List Arc->List Int->List Int->List Int->List (List Int)->List (List Int)->List Int->List Int->Option (Flow×Int×Unit))(h:z39 n)(hφ:5000<φ)(hR:Rnd n x left p)(sup:List Int)(be en:List (List Int))(d1 d2:List Int)(hA:Adj n be en)(G:Option (Flow×Int×Unit)->Prop)
  (fin:∀D F S o,D.length=n.supply.length->F.length=n.supply.length->S.length=n.supply.length->(nwOf n).Found (atN x) (atN left) (atN p) (λv=>decide (atN D v<farC)) (atN D) (atN F) (λv=>(gt S (v:Int)).arc) (λv=>(gt S (v:Int)).room) o->G (z2b φ k47 sup n.arcs D F S x left p be en d1 d2)) (e1 e2:List Int) (e3:List ze) :
  G (z32 φ k47 (left.length:Int) sup n.arcs x left p be en e1 e2 e3 d1 d2):=by
 have hk:=h.k;have ll:=hR.ll;unfold z32 zz;rw[ll,z6 (mk_t _ _ (by omega) (by omega) (by omega)),z6 (mk_t _ _ (by omega) (by omega) (by omega)),z6 (mk_t _ _ (by omega) (by omega) (by omega))];rw[show ((n.supply.length:Int)).toNat=n.supply.length by omega];refine zw (λm i(st:List Int×List Int)=>z1g φ k47 m (n.supply.length:Int) (n.supply.length:Int) i sup n.arcs x left p be en st.1 st.2 (List.replicate n.supply.length (default:ze)) d1 d2) n.supply.length
  (λi st=>st.1.length=n.supply.length/\st.2.length=n.supply.length/\∀v:Nat,v<i->atN st.1 v =(if 0<atN left v then 0 else farC)/\atN st.2 v=-1) G ?_ ?_ φ (List.replicate n.supply.length (default:Int),List.replicate n.supply.length (default:Int)) ⟨by simp,by simp,λv hv=>by omega⟩ (by omega)
 .rintro m i ⟨D,F⟩ hi ⟨l1,l2,hI⟩ hs;simp only at l1 l2 hI;have hW:W ((i:Int)+1) =(i:Int)+1:=W_id (by omega) (by omega);have el:gt left (i:Int)=atN left i:=rfl;show G (z1g φ k47 (m+1) (n.supply.length:Int) (n.supply.length:Int) (i:Int) sup n.arcs x left p be en D F _ d1 d2);rw[z1g,if_pos (by simp;omega),z6 ⟨by omega,by omega⟩,z6 ⟨by omega,by omega⟩,z6 ⟨by omega,by omega⟩,hW,el];by_cases g:0<atN left i
  .rw[if_pos (by simpa using g),z6 ⟨by omega,by rw[zp];omega⟩];refine hs (zu (zu D (i:Int) 1152921504606846976) (i:Int) 0,zu F (i:Int) (-1)) ⟨by simp only[zp];exact l1,by simp only[zp];exact l2,λv hv=>?_⟩;simp only;rw[z90 _ (by rw[zp];omega),z90 _ (by omega),z90 _ (by omega)];unfold setF;by_cases e:v=i
   .subst e;rw[if_pos rfl,if_pos rfl,if_pos g];exact⟨rfl,rfl⟩
   .rw[if_neg e,if_neg e,if_neg e];exact hI v (by omega)
  .rw[if_neg (by simpa using g)];refine hs (zu D (i:Int) 1152921504606846976,zu F (i:Int) (-1)) ⟨by simp only[zp];exact l1,by simp only[zp];exact l2,λv hv=>?_⟩;simp only;rw[z90 _ (by omega),z90 _ (by omega)];unfold setF;by_cases e:v=i
   .subst e;rw[if_pos rfl,if_pos rfl,if_neg g];exact⟨rfl,rfl⟩
   .rw[if_neg e,if_neg e];exact hI v (by omega)
 .rintro m ⟨D,F⟩ ⟨l1,l2,hI⟩;simp only at l1 l2 hI;show G (z1g φ k47 (m+1) (n.supply.length:Int) (n.supply.length:Int) (n.supply.length:Int) sup n.arcs x left p be en D F _ d1 d2);rw[z1g,if_neg (by simp),z6 (mk_t _ _ (by omega) (by omega) (by omega)),show ((n.supply.length:Int)).toNat=n.supply.length by omega];have hdn:∀u:Nat,gt (List.replicate n.supply.length (default:Bool)) (u:Int)=false:=λu=>by unfold gt;simp only[List.getD,w1t,w30];split<;>rfl
  refine zzo k47 h hφ hR sup be en d1 d2 hA G fin n.supply.length φ 0 (λ_=>0) _ D F _ (by omega) (by omega) ⟨by simp,l1,l2,by simp,?_⟩;have e1 :(λv:Nat=>gt (List.replicate n.supply.length (default:Bool)) (v:Int))=λ_=>false:=by funext u;exact hdn u
  have e2 :(λ(u:Nat)(_:Nat)=>gt (List.replicate n.supply.length (default:Bool)) (u:Int)=true)=λ_ _=>False:=by funext u j;rw[hdn u];simp
  rw[e1,e2];exact Nw.Srch.start (by simp[BB]) (λv hv=>(hI v hv).1) (λv hv=>(hI v hv).2)
end
end Px
end
section
namespace Px
open Go
theorem zvk(a b:Int):min2 a b=min a b:=by unfold min2;split<;>omega
theorem ybr(a b:Int):max2 a b=max a b:=by unfold max2;split<;>omega
section
variable{φ:Nat}{n:zh}{x left p:List Int}
variable(k47:List Int->List Arc->List Int->List Int->List Int->List (List Int)->List (List Int)->List Int->List Int->Option (Flow×Int×Unit))
theorem ybc(k:Nat)(hk:k<=256)(sup:List Int)(arcs:List Arc)(D F:List Int)(S:List ze)(be en:List (List Int))(d1 d2:List Int)(lD:D.length=k)(ll:left.length=k)(hD0:∀v:Nat,v<k->atN D v<farC->0<=atN D v)(G:Option (Flow×Int×Unit)->Prop)
  (fin0 :(∀u:Nat,u<k->atN D u<farC->0<=atN left u)->G (z22 φ k47 false sup arcs x left p be en d1 d2))
  (fin1:∀(e:Nat)(z:Int),e<k->atN D e<farC->atN left e<0->0<=z->z<farC->(∀u:Nat,u<k->atN D u<farC->atN D u<=z)->(z=0\/∃u:Nat,u<k/\atN D u<farC/\atN D u=z)->
   G (z0z φ k47 φ (e:Int) z (k:Int) 0 sup arcs F S D x left p be en d1 d2))
  (m:Nat) (hm:k<m):G (z0o φ k47 m (-1) 0 (k:Int) 0 sup arcs D F S x left p be en d1 d2):=by
 refine zw (λm i(st:Int×Int)=>z0o φ k47 m st.1 st.2 (k:Int) i sup arcs D F S x left p be en d1 d2) k
  (λi st=>((st.1=-1/\∀u:Nat,u<i->atN D u<farC->0<=atN left u)\/∃w:Nat,w<i/\st.1 =(w:Int)/\atN D w<farC/\atN left w<0)/\0<=st.2/\st.2<farC/\(∀u:Nat,u<i->atN D u<farC->atN D u<=st.2)/\(st.2=0\/∃u:Nat,u<i/\atN D u<farC/\atN D u=st.2)) G ?_ ?_ m (-1,0) ⟨.inl ⟨rfl,λu hu=>by omega⟩,by simp,by simp[farC],λu hu=>by omega,.inl rfl⟩ hm
 .rintro m i ⟨e,z⟩ hi ⟨h1,h2,h3,h4,h5⟩ hs;simp only at h1 h2 h3 h4 h5;have hW:W ((i:Int)+1) =(i:Int)+1:=W_id (by omega) (by omega);have er:¬e<0->(0:Int)<=e/\e<(D.length:Int):=λhv=>by rcases h1 with⟨rfl,_⟩|⟨w,hw,rfl,_⟩<;>omega
  have eDi:gt D (i:Int)=atN D i:=rfl;have eli:gt left (i:Int)=atN left i:=rfl;show G (z0o φ k47 (m+1) e z (k:Int) (i:Int) sup arcs D F S x left p be en d1 d2);rw[z0o,if_pos (by simp;omega),z6 ⟨by omega,by omega⟩,hW,eDi,eli,ybr];by_cases g:atN D i<farC
  .have hd0:=hD0 i hi g;have hz1 :(∀u:Nat,u<i+1->atN D u<farC->atN D u<=max z (atN D i)):=λu hu hu'=>by
    by_cases q:u=i
    .rw[q];omega
    .have:=h4 u (by omega) hu';omega
   have hz2:max z (atN D i)=0\/∃u:Nat,u<i+1/\atN D u<farC/\atN D u=max z (atN D i):=by
    by_cases q:z<=atN D i
    .exact .inr ⟨i,by omega,g,by omega⟩
    .rcases h5 with h5|⟨u,u1,u2,u3⟩
     .omega
     .exact .inr ⟨u,by omega,u2,by omega⟩
   rw[if_pos (by simpa[farC] using g),z6 ⟨by omega,by omega⟩,z6 (λq=>er (by simpa using q.2))];by_cases c :(decide (atN left i<0)&&(decide (e<0)||decide (atN D i<gt D e)))=true
   .rw[if_pos c];simp only[w02,decide_eq_true_eq] at c;exact hs ((i:Int),max z (atN D i)) ⟨.inr ⟨i,by omega,rfl,g,c.1⟩,by simp only;omega,by simp only;omega,hz1,hz2⟩
   .rw[if_neg c];refine hs (e,max z (atN D i)) ⟨?_,by simp only;omega,by simp only;omega,hz1,hz2⟩;simp only;rcases h1 with⟨rfl,q1⟩|⟨w,hw,rfl,q1,q2⟩
    .refine .inl ⟨rfl,λu hu hu'=>?_⟩;by_cases q:u=i
     .subst q;simp only[w02,decide_eq_true_eq,w0s] at c;omega
     .exact q1 u (by omega) hu'
    .exact .inr ⟨w,by omega,rfl,q1,q2⟩
  .rw[if_neg (by simpa[farC] using g)];refine hs (e,z) ⟨?_,h2,h3,λu hu hu'=>?_,?_⟩
   .simp only;rcases h1 with⟨rfl,q1⟩|⟨w,hw,rfl,q1,q2⟩
    .refine .inl ⟨rfl,λu hu hu'=>?_⟩;by_cases q:u=i
     .rw[q] at hu';exact absurd hu' g
     .exact q1 u (by omega) hu'
    .exact .inr ⟨w,by omega,rfl,q1,q2⟩
   .by_cases q:u=i
    .rw[q] at hu';exact absurd hu' g
    .exact h4 u (by omega) hu'
   .simp only;rcases h5 with h5|⟨u,u1,u2,u3⟩
    .exact .inl h5
    .exact .inr ⟨u,by omega,u2,u3⟩
 .rintro m ⟨e,z⟩ ⟨h1,h2,h3,h4,h5⟩;simp only at h1 h2 h3 h4 h5;show G (z0o φ k47 (m+1) e z (k:Int) (k:Int) sup arcs D F S x left p be en d1 d2);rw[z0o,if_neg (by simp)];rcases h1 with⟨rfl,q1⟩|⟨w,hw,rfl,q1,q2⟩
  .rw[if_pos (by simp)];exact fin0 q1
  .rw[if_neg (by simp),lD];exact fin1 w z hw q1 q2 h2 h3 h4 h5
theorem zz4(h:z39 n)(hR:Rnd n x left p)(sup:List Int)(D F:List Int)(S:List ze)(be en:List (List Int))(d1 d2:List Int)(lD:D.length=n.supply.length)(e:Nat)(z:Int)(he:e<n.supply.length)(hD0:∀v:Nat,v<n.supply.length->0<=atN D v/\min (atN D v) z<=26000000000000000)(hz0:0<=z)(G:Option (Flow×Int×Unit)->Prop)
  (fin:∀q:List Int,q.length=n.supply.length->(∀v:Nat,v<n.supply.length->atN q v=atN p v+min (atN D v) z)->G (z0p φ k47 φ (e:Int) (- atN left e) (e:Int) sup n.arcs F S x left q be en d1 d2))
  (m:Nat) (hm:n.supply.length<m):G (z0z φ k47 m (e:Int) z (n.supply.length:Int) 0 sup n.arcs F S D x left p be en d1 d2):=by
 have hk:=h.k;have ll:=hR.ll;refine zw (λm i(q:List Int)=>z0z φ k47 m (e:Int) z (n.supply.length:Int) i sup n.arcs F S D x left q be en d1 d2) n.supply.length
  (λi q=>q.length=n.supply.length/\∀v:Nat,v<n.supply.length->atN q v=atN p v+if v<i then min (atN D v) z else 0) G ?_ ?_ m p ⟨hR.lp,λv hv=>by rw[if_neg (by omega)];omega⟩ hm
 .rintro m i q hi ⟨l1,hI⟩ hs;have hW:W ((i:Int)+1) =(i:Int)+1:=W_id (by omega) (by omega);have eDi:gt D (i:Int)=atN D i:=rfl;have eqi:gt q (i:Int)=atN p i:=by have:=hI i hi;rw[if_neg (by omega)] at this;show atN q i=_;omega
  have hb:=hD0 i hi;have hpb:=hR.pbd h hi;show G (z0z φ k47 (m+1) (e:Int) z (n.supply.length:Int) (i:Int) sup n.arcs F S D x left q be en d1 d2);rw[z0z,if_pos (by simp;omega),z6 ⟨by omega,by omega⟩,z6 ⟨by omega,by omega⟩,z6 ⟨by omega,by omega⟩,hW,eDi,eqi,zvk,W_id (x:=atN p i+min (atN D i) z) (by omega) (by omega)];refine hs _ ⟨by rw[zp];exact l1,λv hv=>?_⟩;rw[z90 _ (by omega)];unfold setF;by_cases c:v=i
  .subst c;rw[if_pos rfl,if_pos (by omega)]
  .rw[if_neg c,hI v hv];by_cases c2:v<i
   .rw[if_pos c2,if_pos (by omega)]
   .rw[if_neg c2,if_neg (by omega)]
 .rintro m q ⟨l1,hI⟩;show G (z0z φ k47 (m+1) (e:Int) z (n.supply.length:Int) (n.supply.length:Int) sup n.arcs F S D x left q be en d1 d2);have hlb:=hR.lbd h he;have el:gt left (e:Int)=atN left e:=rfl;rw[z0z,if_neg (by simp),z6 ⟨by omega,by omega⟩,el,W_id (x:=0-atN left e) (by omega) (by omega),w5g];exact fin q l1 λv hv=>by rw[hI v hv,if_pos hv]
end
section
variable{φ:Nat}{n:zh}{x left p:List Int}{D F:List Int}{S:List ze}{o:Nat->Nat}
variable(k47:List Int->List Arc->List Int->List Int->List Int->List (List Int)->List (List Int)->List Int->List Int->Option (Flow×Int×Unit))
theorem zz3(h:z39 n)(hF :(nwOf n).Found (atN x) (atN left) (atN p) (λv=>decide (atN D v<farC)) (atN D) (atN F) (λv=>(gt S (v:Int)).arc) (λv=>(gt S (v:Int)).room) o)(lF:F.length=n.supply.length)(lS:S.length=n.supply.length)(ll:left.length=n.supply.length)
  (sup:List Int) (arcs:List Arc) (X:List Int) (q:List Int) (be en:List (List Int)) (d1 d2:List Int) (e:Int) (R:Option (Flow×Int×Unit)) :
  ∀(d m:Nat)(v:Nat)(amt:Int),o v<d->d<=m->v<n.supply.length->atN D v<farC->
   (∀s:Nat,s =(amtP (atN F) (λv=>(gt S (v:Int)).room) d v amt).2->s<n.supply.length->atN F s<0->z0p φ k47 1 e (amtP (atN F) (λv=>(gt S (v:Int)).room) d v amt).1 (s:Int) sup arcs F S X left q be en d1 d2=R)->
   z0p φ k47 m e amt (v:Int) sup arcs F S X left q be en d1 d2=R:=by
 intro d
 induction d with
 |zero=>intro m v amt h0;omega
 |succ d ih=>
  intro m v amt ho hm hv hD hfin;obtain⟨m,rfl⟩:∃m',m=m'+1:=⟨m-1,by omega⟩;have eF:gt F (v:Int)=atN F v:=rfl;rcases hF.tr v hv (by simpa using hD) with⟨g1,g2⟩|⟨u,c,ef,hu,ru,ho',_,hs,_⟩
  .have hf:amtP (atN F) (λv=>(gt S (v:Int)).room) (d+1) v amt =(amt,v):=by unfold amtP;rw[if_neg (by omega)]
   rw[hf] at hfin;have:=hfin v rfl hv g1;rw[<- this,z0p,z0p,eF];rw[if_neg (by simpa using g1),if_neg (by simpa using g1)]
  .have hf:amtP (atN F) (λv=>(gt S (v:Int)).room) (d+1) v amt=amtP (atN F) (λv=>(gt S (v:Int)).room) d u (min amt (gt S (v:Int)).room):=by rw[amtP,if_pos (by omega),show (atN F v).toNat=u by omega]
   rw[hf] at hfin;rw[z0p,z6 ⟨by omega,by omega⟩,eF,if_pos (by simp;omega),z6 ⟨by omega,by omega⟩,z6 ⟨by omega,by omega⟩,zvk,ef];exact ih m u _ (by omega) (by omega) hu (by simpa using ru) hfin
theorem y6s(h:z39 n)(hF :(nwOf n).Found (atN x) (atN left) (atN p) (λv=>decide (atN D v<farC)) (atN D) (atN F) (λv=>(gt S (v:Int)).arc) (λv=>(gt S (v:Int)).room) o)(lF:F.length=n.supply.length)(lS:S.length=n.supply.length)
  (sup:List Int) (L:List Int) (q:List Int) (be en:List (List Int)) (d1 d2:List Int) (amt:Int) (ha:0<=amt/\amt<=1000000000) (G:Option (Flow×Int×Unit)->Prop) :
  ∀(d m:Nat)(v:Nat)(y:List Int),o v<d->d<=m->d<=300->v<n.supply.length->atN D v<farC->y.length=n.arcs.length->(∀j,j<n.arcs.length->-(1000000000*(600-(d:Int)))<=atN y j/\atN y j<=1000000000*(600-(d:Int)))->
   (∀y':List Int,y'.length=n.arcs.length->atN y'=augP (nwOf n) (atN F) (λv=>(gt S (v:Int)).arc) amt d v (atN y)->G (z22 φ k47 true sup n.arcs y' L q be en d1 d2))->
   G (z2a φ k47 m amt (v:Int) sup n.arcs F S y L q be en d1 d2):=by
 intro d
 induction d with
 |zero=>intro m v y h0;omega
 |succ d ih=>
  intro m v y ho hm hd hv hD ly hyb hfin;obtain⟨m,rfl⟩:∃m',m=m'+1:=⟨m-1,by omega⟩;have eF:gt F (v:Int)=atN F v:=rfl;rcases hF.tr v hv (by simpa using hD) with⟨g1,g2⟩|⟨u,c,ef,hu,ru,ho',ha0,hs,_⟩
  .rw[z2a,z6 ⟨by omega,by omega⟩,eF,if_neg (by simpa using g1)];exact hfin y ly (by unfold augP;rw[if_neg (by omega)])
  .have hj:=hs.lt;have hj :((gt S (v:Int)).arc).toNat<n.arcs.length:=hj;obtain⟨j,ej⟩:=w1n ha0;have ej :(gt S (v:Int)).arc =(j:Int):=ej;rw[ej] at hj;have hj:j<n.arcs.length:=by omega
   obtain⟨a1,a2,a3,a4,a5,_⟩:=h.arc j hj;have hyj:=hyb j hj;have eyj:gt y (j:Int)=atN y j:=rfl;have haug:augP (nwOf n) (atN F) (λv=>(gt S (v:Int)).arc) amt (d+1) v (atN y)=augP (nwOf n) (atN F) (λv=>(gt S (v:Int)).arc) amt d u (setF (atN y) j (if(nwOf n).to j=v/\(nwOf n).fr j=u then atN y j+amt else atN y j-amt)):=by rw[augP,if_pos (by omega),show (atN F v).toNat=u by omega];show augP _ _ _ _ _ _ (setF (atN y) ((gt S (v:Int)).arc).toNat (if(nwOf n).to ((gt S (v:Int)).arc).toNat=v/\(nwOf n).fr ((gt S (v:Int)).arc).toNat=u then _ else _))=_;rw[ej,show ((j:Int)).toNat=j by omega]
   have hto :(nwOf n).to j=v↔(gt n.arcs (j:Int)).to =(v:Int):=by show (gt n.arcs (j:Int)).to.toNat=v↔_;omega
   have hfr :(nwOf n).fr j=u↔(gt n.arcs (j:Int)).from_ =(u:Int):=by show (gt n.arcs (j:Int)).from_.toNat=u↔_;omega
   rw[z2a,z6 ⟨by omega,by omega⟩,eF,if_pos (by simp;omega),z6 ⟨by omega,by omega⟩,ej,z6 ⟨by omega,by omega⟩,z6 (λ_=>⟨by omega,by omega⟩),z6 (λ_=>⟨by omega,by omega⟩),ef,eyj];have next:∀w:Int,-(1000000000*(600-(d:Int)))<=w->w<=1000000000*(600-(d:Int))->(if(nwOf n).to j=v/\(nwOf n).fr j=u then atN y j+amt else atN y j-amt)=w->G (z2a φ k47 m amt (u:Int) sup n.arcs F S (zu y (j:Int) w) L q be en d1 d2):=λw w1 w2 hw=>by
    refine ih m u (zu y (j:Int) w) (by omega) (by omega) (by omega) hu (by simpa using ru) (by rw[zp];exact ly) (λj' hj'=>?_) λy' ly' hy'=>hfin y' ly' ?_
    .rw[z90 _ (by omega)];unfold setF;split
     .exact⟨w1,w2⟩
     .have:=hyb j' hj'
      omega
    .rw[hy',haug,z90 _ (by omega),hw]
   by_cases g :(gt n.arcs (j:Int)).to =(v:Int)/\(gt n.arcs (j:Int)).from_ =(u:Int)
   .rw[if_pos (by simp[g.1,g.2]),z6 ⟨by omega,by omega⟩,z6 ⟨by omega,by omega⟩];unfold z4o;rw[z6 ⟨by omega,by omega⟩,eF,ef,W_id (x:=atN y j+amt) (by omega) (by omega)];exact next _ (by omega) (by omega) (if_pos ⟨hto.2 g.1,hfr.2 g.2⟩)
   .rw[if_neg (by simp only[w02,beq_iff_eq];exact g),z6 ⟨by omega,by omega⟩,z6 ⟨by omega,by omega⟩];unfold z4o;rw[z6 ⟨by omega,by omega⟩,eF,ef,W_id (x:=atN y j-amt) (by omega) (by omega)];exact next _ (by omega) (by omega) (if_neg λq=>g ⟨hto.1 q.1,hfr.1 q.2⟩)
end
end Px
end
section
namespace Px
open Go
theorem zpd{n:Nat}{f:Nat->Int}(h:∀i,i<n->f i=0):sumN n f=0:=(zd h).trans (z2i n)
def muL(k:Nat)(left:List Int):Int:=sumN k λv=>max (atN left v) 0
structure y06(n:zh)(f:Flow):Prop where
 lx:f.x.length=n.arcs.length
 lp:f.price.length=n.supply.length
 feas :(nwOf n).Feas (atN n.supply) (atN f.x)
 tight :(nwOf n).Tight (atN f.x) (atN f.price)
 pr:∀v:Nat,v<n.supply.length->0<=atN f.price v/\atN f.price v<=66000000000000
section
variable{φ:Nat}{n:zh}{x left p:List Int}
theorem zpv(h:z39 n):∀i,i<(nwOf n).m->0<=(nwOf n).cost i/\(nwOf n).cost i<=1000000000:=λi hi=>by have:=h.arc i hi;exact⟨this.2.2.2.2.2.2.2.1,this.2.2.2.2.2.2.2.2⟩
theorem zp8(k47:List Int->List Arc->List Int->List Int->List Int->List (List Int)->List (List Int)->List Int->List Int->Option (Flow×Int×Unit))(h:z39 n)(hφ:5000<φ)(hR:Rnd n x left p){y:Nat->Int}(hy :(nwOf n).Feas (atN n.supply) y)(sup:List Int)(be en:List (List Int))(d1 d2:List Int)(hA:Adj n be en)(G:Option (Flow×Int×Unit)->Prop)
  (fin0 :(∀v:Nat,v<n.supply.length->atN left v=0)->G (z22 φ k47 false sup n.arcs x left p be en d1 d2))
  (fin1:∀x' left' p',Rnd n x' left' p'->muL n.supply.length left'+1<=muL n.supply.length left->G (k47 sup n.arcs x' left' p' be en d1 d2)) (e1 e2:List Int) (e3:List ze) :
  G (z32 φ k47 (left.length:Int) sup n.arcs x left p be en e1 e2 e3 d1 d2):=by
 have hk:=h.k;have ll:=hR.ll;refine zzm k47 h hφ hR sup be en d1 d2 hA G (λD F S o lD lF lS hF=>?_) e1 e2 e3;unfold z2b z0q;rw[lD];have hd0:∀v:Nat,v<n.supply.length->atN D v<farC->0<=atN D v:=λv hv g=>hF.d0 v hv (by simpa using g)
 refine ybc k47 n.supply.length hk sup n.arcs D F S be en d1 d2 lD ll hd0 G (λh0=>fin0 ?_) (λe z he hDe hle z0 zf zm za=>?_) φ (by omega)
 .refine Nw.cut h.nw hR.inv hy h.sum (λv=>decide (atN D v<farC)) (λv hv g=>(hF.src v hv g).1) (λu w i c r hs g=>(hF.cl u w i c r hs g).1) λv hv g=>h0 v hv (by simpa using g)
 .-- the new prices
  have hq0:NewP (nwOf n).k (atN p) (λv=>decide (atN D v<farC)) (atN D) z (λv=>atN p v+bif decide (atN D v<farC) then atN D v else z):=by
   refine⟨z0,λv hv g=>zm v hv (by simpa using g),?_,λv hv=>rfl⟩;rcases za with za|⟨u,u1,u2,u3⟩
   .exact .inl za
   .exact .inr ⟨u,u1,by simpa using u2,u3⟩
  have hlim:∀v:Nat,v<n.supply.length->atN D v<farC->atN D v<=256000000000:=λv hv g=>by have h1:=hF.le_o h.nw (zpv h) (by omega) hR.pb hq0 _ v (w32 _) hv (by simpa using g);have h2:=hF.ord v hv (by simpa using g);have h2:o v<n.supply.length:=h2;have h3:=hR.pb.p0 v hv;rw[show decide (atN D v<farC)=true by simpa using g] at h1;simp only[cond_true] at h1;have h4 :(o v:Int)*1000000000<=256*1000000000:=w2a (by omega) (by omega);omega
  have hzl:z<=256000000000:=by
   rcases za with za|⟨u,u1,u2,u3⟩
   .omega
   .rw[<- u3];exact hlim u u1 u2
  refine zz4 k47 h hR sup D F S be en d1 d2 lD e z he (λv hv=>⟨?_,by omega⟩) z0 G (λq lq hqv=>?_) φ (by omega)
  .by_cases g:atN D v<farC
   .exact hd0 v hv g
   .simp only[farC] at g;omega
  have hq:NewP (nwOf n).k (atN p) (λv=>decide (atN D v<farC)) (atN D) z (atN q):=by
   refine⟨z0,hq0.zmax,hq0.zat,λv hv=>?_⟩;rw[hqv v hv];by_cases g:atN D v<farC
   .rw[show decide (atN D v<farC)=true by simpa using g];have:=zm v hv g;simp only[cond_true];omega
   .rw[show decide (atN D v<farC)=false by simpa using g];simp only[cond_false];simp only[farC] at g zf;omega
  have hRe :(λv=>decide (atN D v<farC)) e=true:=by simpa using hDe
  have hoe:o e<n.supply.length:=hF.ord e he hRe;generalize hA1:amtP (atN F) (λv=>(gt S (v:Int)).room) (n.supply.length+1) e (- atN left e)=A at *;have hrd:=hF.round (b:=atN n.supply) h.nw hR.inv hq (m:=n.supply.length+1) (e:=e) he hRe hle (by omega) (n:=min A.1 (atN left A.2)) (s:=A.2) (by rw[hA1]) (by rw[hA1]);obtain⟨n1,s1,sR,sl,es,hInv,nl,ne⟩:=hrd;have s1:A.2<n.supply.length:=s1;have hlb:=hR.lbd h s1;have hlbe:=hR.lbd h he
  -- what is sent
  rw[zz3 k47 h hF lF lS ll sup n.arcs x q be en d1 d2 (e:Int) (z0p φ k47 1 (e:Int) A.1 (A.2:Int) sup n.arcs F S x left q be en d1 d2) (n.supply.length+1) φ e (- atN left e) (by omega) (by omega) he hDe (λs hs hsk hFs=>by rw[hA1] at hs⊢;rw[hs])];have eFs:gt F (A.2:Int)=atN F A.2:=rfl;have els:gt left (A.2:Int)=atN left A.2:=rfl;have hFs:atN F A.2<0:=by
   have key:∀(d v:Nat)(amt:Int),o v<d->v<n.supply.length->atN D v<farC->atN F (amtP (atN F) (λv=>(gt S (v:Int)).room) d v amt).2<0:=by
    intro d
    induction d with
    |zero=>intro v amt h0;omega
    |succ d ih=>
     intro v amt ho hv hD;rcases hF.tr v hv (by simpa using hD) with⟨g1,g2⟩|⟨u,c,ef,hu,ru,ho',_,hs,_⟩
     .unfold amtP;rw[if_neg (by omega)];exact g1
     .unfold amtP;rw[if_pos (by omega),show (atN F v).toNat=u by omega];exact ih u _ (by omega) hu (by simpa using ru)
   have:=key (n.supply.length+1) e (- atN left e) (by omega) he hDe;rw[hA1] at this;exact this
  have e2':gt (zu left (A.2:Int) (atN left A.2-min A.1 (atN left A.2))) (e:Int)=atN left e:=by rw[z01 _ _ _ _ (by omega) (by omega) (by omega),if_neg (by omega)];rfl
  rw[z0p,z6 ⟨by omega,by omega⟩,eFs,if_neg (by simpa using hFs),z6 ⟨by omega,by omega⟩,z6 ⟨by omega,by omega⟩,z6 ⟨by omega,by omega⟩,els,zvk,W_id (x:=atN left A.2-min A.1 (atN left A.2)) (by omega) (by omega),z6 ⟨by omega,by rw[zp];omega⟩,z6 ⟨by omega,by rw[zp];omega⟩,e2',W_id (x:=atN left e+min A.1 (atN left A.2)) (by omega) (by omega)];have hsent:atN (zu (zu left (A.2:Int) (atN left A.2-min A.1 (atN left A.2))) (e:Int) (atN left e+min A.1 (atN left A.2)))=ztz (atN left) e A.2 (min A.1 (atN left A.2)):=by
   rw[z90 _ (by rw[zp];omega),z90 _ (by omega)];funext v;unfold setF ztz;by_cases c1:v=e
   .rw[if_pos c1,if_pos c1,if_neg (by omega),c1];omega
   .rw[if_neg c1,if_neg c1];by_cases c2:v=A.2
    .rw[if_pos c2,if_pos c2,c2];omega
    .rw[if_neg c2,if_neg c2];omega
  refine y6s k47 h hF lF lS sup _ q be en d1 d2 _ ⟨by omega,by omega⟩ G (n.supply.length+1) φ e x (by omega) (by omega) (by omega) he hDe hR.lx (λj hj=>?_) λy' ly' hy'=>?_
  .have:=hR.xbd h hj
   omega
  .unfold z22;rw[if_pos rfl];refine fin1 y' _ q ⟨ly',by rw[zp,zp];exact ll,lq,?_,?_⟩ ?_
   .rw[hy',hsent];exact hInv
   .have hpb:=hF.pb h.nw (zpv h) (by omega) hR.pb hq;rw[hsent];refine⟨hpb.p0,λv hv g=>hpb.src v hv ?_,hpb.top⟩;unfold ztz at g;by_cases c1:v=e
    .subst c1;rw[if_pos rfl,if_neg (by omega)] at g;omega
    .rw[if_neg c1] at g;split at g<;>omega
   .unfold muL;rw[hsent];refine zis (v:=A.2) s1 (λv hv=>?_) ?_
    .unfold ztz;by_cases c1:v=e
     .subst c1;rw[if_pos rfl,if_neg (by omega)];omega
     .rw[if_neg c1];split<;>omega
    .unfold ztz;rw[if_neg (by omega),if_pos rfl];omega
theorem y4b{k47:List Int->List Arc->List Int->List Int->List Int->List (List Int)->List (List Int)->List Int->List Int->Option (Flow×Int×Unit)}(h:z39 n)(hφ:5000<φ)(hR:Rnd n x left p)(sup:List Int)(be en:List (List Int))(d1 d2:List Int)(h0:∀v:Nat,v<n.supply.length->atN left v=0):
  ∃f,z22 φ k47 false sup n.arcs x left p be en d1 d2=some (f,0,())/\y06 n f:=by
 have hk:=h.k;have ll:=hR.ll;refine⟨⟨x,p⟩,?_,hR.lx,hR.lp,⟨hR.inv.bnd,λv hv=>by rw[<- hR.inv.exc v hv];exact h0 v hv⟩,hR.inv.red,λv hv=>hR.pbd h hv⟩;unfold z22;rw[if_neg (by simp)];refine zw (λm i(_:Unit)=>z2m φ m (left.length:Int) i left sup n.arcs d1 d2 x p be en) left.length (λ_ _=>True) (λr=>r=some (⟨x,p⟩,0,())) ?_ ?_ φ () trivial (by omega)
 .intro m i _ hi _ hs;have e:gt left (i:Int)=0:=h0 i (by omega);show z2m φ (m+1) (left.length:Int) (i:Int) left sup n.arcs d1 d2 x p be en=_;rw[z2m,if_pos (by simp;omega),z6 ⟨by omega,by omega⟩,e,if_neg (by simp),W_id (by omega) (by omega)];exact hs () trivial
 .intro m _ _;show z2m φ (m+1) (left.length:Int) (left.length:Int) left sup n.arcs d1 d2 x p be en=_;rw[z2m,if_neg (by simp)];rfl
theorem y8e(h:z39 n)(hφ:5000<φ){y:Nat->Int}(hy :(nwOf n).Feas (atN n.supply) y)(sup:List Int)(be en:List (List Int))(d1 d2:List Int)(hA:Adj n be en):
  ∀(d m:Nat)(x left p:List Int),muL n.supply.length left<=(d:Int)->d<m->Rnd n x left p->∃f,z2l φ m sup n.arcs x left p be en d1 d2=some (f,0,())/\y06 n f:=by
 have hk:=h.k;intro d
 induction d with
 |zero=>
  intro m x left p hmu hm hR;obtain⟨m,rfl⟩:∃m',m=m'+1:=⟨m-1,by omega⟩;rw[z2l];refine zp8 _ h hφ hR hy sup be en d1 d2 hA (λr=>∃f,r=some (f,0,())/\y06 n f) (λh0=>?_) (λx' left' p' hR' hmu'=>?_) [] [] []
  .exact y4b h hφ hR sup be en d1 d2 h0
  .have:0<=muL n.supply.length left':=z1y λv hv=>by omega
   omega
 |succ d ih=>
  intro m x left p hmu hm hR;obtain⟨m,rfl⟩:∃m',m=m'+1:=⟨m-1,by omega⟩;rw[z2l];refine zp8 _ h hφ hR hy sup be en d1 d2 hA (λr=>∃f,r=some (f,0,())/\y06 n f) (λh0=>?_) (λx' left' p' hR' hmu'=>?_) [] [] []
  .exact y4b h hφ hR sup be en d1 d2 h0
  .exact ih m x' left' p' (by omega) (by omega) hR'
theorem zwq(m v:Nat):atN (List.replicate m (default:Int)) v=0:=by unfold atN gt;simp only[List.getD,w1t,w30];split<;>rfl
theorem y5f{n:zh}(hc:zpu n=0)(hφ:5000<φ)(hmu:muL n.supply.length n.supply<(φ:Int)){y:Nat->Int}(hy :(nwOf n).Feas (atN n.supply) y):∃f,zf4 φ n=some (f,0,())/\y06 n f:=by
 have h:=zgq hc;have hk:=h.k;have hm:=h.m;unfold zf4;rw[zcz φ n hφ,hc,w03,if_neg (by simp)];unfold z4n z8d;rw[z6 (mk_t _ _ (by omega) (by omega) (by omega)),z6 (by simp[fits];omega),z6 (mk_t _ _ (by omega) (by omega) (by omega)),z6 (mk_t _ _ (by omega) (by omega) (by omega)),z6 (mk_t _ _ (by omega) (by omega) (by omega))];rw[show ((n.supply.length:Int)).toNat=n.supply.length by omega,show ((n.arcs.length:Int)).toNat=n.arcs.length by omega,w39];obtain⟨be,en,hA,he⟩:=ya5 φ h hφ n.supply (List.replicate n.arcs.length (default:Int)) n.supply (List.replicate n.supply.length (default:Int)) [] [] n.arcs;have he':z1a φ φ n.arcs (n.arcs.length:Int) 0 n.supply n.arcs (List.replicate n.arcs.length (default:Int)) n.supply (List.replicate n.supply.length (default:Int)) (List.replicate n.supply.length (default:List Int)) (List.replicate n.supply.length (default:List Int)) [] []=_:=he;rw[he'];have hz:atN (List.replicate n.arcs.length (default:Int))=λ_=>0:=by funext v;exact zwq _ v
 have hz2:atN (List.replicate n.supply.length (default:Int))=λ_=>0:=by funext v;exact zwq _ v
 refine y8e h hφ hy n.supply be en [] [] hA (muL n.supply.length n.supply).toNat φ _ n.supply _ (by omega) (by omega) ⟨by simp,rfl,by simp,?_,?_⟩
 .rw[hz,hz2];refine⟨λi hi=>⟨w1i _,?_⟩,λv hv=>?_,λi hi=>⟨λ_=>?_,λq=>by simp at q⟩,λv hv g=>⟨g,w1i _⟩,λv hv g=>⟨w1i _,g⟩⟩
  .have:=h.arc i hi
   exact this.2.2.2.2.2.1
  .unfold Nw.exc;have e1 :(nwOf n).outS (λ_=>0) v=0:=zpd λj hj=>by split<;>rfl
   have e2 :(nwOf n).inS (λ_=>0) v=0:=zpd λj hj=>by split<;>rfl
   rw[e1,e2];omega
  .unfold Nw.rc;have:=(zpv h i hi).1;simpa using this
 .rw[hz2];refine⟨λv hv=>w1i _,λv hv g=>rfl,λv hv=>?_⟩;have h1:0<=((nwOf n).k:Int)*1000000000:=w1d (by omega) (by omega);have h2:0<=sumN (nwOf n).k λw=>min (0:Int) (((nwOf n).k:Int)*1000000000):=z1y λw hw=>by omega
  exact Int.add_nonneg h1 h2
end
end Px
end
section
namespace Px
open Go
def arcS(u:Int)(s:List zc)(i:Nat):Arc:=⟨(i:Int),u+1,(gt s (i:Int)).count,0⟩
def arcO(u a:Int)(o:List zl)(k:Nat):Arc:=⟨u,a+(k:Int),(gt o (k:Int)).count,(gt o (k:Int)).weight⟩
theorem zti(φ:Nat)(u ord:Int)(s:List zc)(sup:List Int)(arcs:List Arc)(hs:s.length<=6)(ha:arcs.length<=1000)(hu:0<=u/\u<=1000)(m:Nat)(hm:s.length<m):
  z1e φ m u ord s (s.length:Int) 0 sup arcs=z0w φ sup (arcs++(List.range s.length).map (arcS u s)++[⟨u,u+1,ord,0⟩]):=by
 have hu1:W (u+1)=u+1:=W_id (by omega) (by omega);refine zw (λm i acc=>z1e φ m u ord s (s.length:Int) i sup acc) s.length (λi acc=>acc=arcs++(List.range i).map (arcS u s)) (λo=>o=z0w φ sup (arcs++(List.range s.length).map (arcS u s)++[⟨u,u+1,ord,0⟩])) ?_ ?_ m arcs (by simp) hm
 .intro m i acc hi hI hG;have hW:W ((i:Int)+1) =(i:Int)+1:=W_id (by omega) (by omega);have hlen:acc.length=arcs.length+i:=by rw[hI];simp
  show z1e φ (m+1) u ord s (s.length:Int) (i:Int) sup acc=_;rw[z1e,if_pos (by simp;omega),z6 ⟨by omega,by omega⟩,z6 (by simp[fits,hlen];omega),if_neg (by simp),hW,hu1];refine hG _ ?_;rw[hI,w1o,w2f,w0q];rfl
 .intro m acc hI;have hlen:acc.length=arcs.length+s.length:=by rw[hI];simp
  show z1e φ (m+1) u ord s (s.length:Int) (s.length:Int) sup acc=_;rw[z1e,if_neg (by simp),z6 (by simp[fits,hlen];omega),hu1,hI]
def sumC(o:List zl):Nat->Int
 |0=>0
 |k+1=>sumC o k+(gt o (k:Int)).count
theorem zzc(φ:Nat)(u:Int)(s:List zc)(o:List zl)(sup:List Int)(arcs:List Arc)(hs:s.length<=6)(ho:o.length<=6)(hc:∀k:Nat,k<o.length->0<=(gt o (k:Int)).count/\(gt o (k:Int)).count<=1000000)(ha:arcs.length<=500)(hu:0<=u/\u<=1000)(hφ:1000<φ)(m:Nat)(hm:o.length<m):
  z0n φ m u 0 o (o.length:Int) 0 s sup arcs=z0w φ sup (arcs++(List.range o.length).map (arcO u (s.length:Int) o)++(List.range s.length).map (arcS u s)++[⟨u,u+1,sumC o o.length,0⟩]):=by
 refine zw (λm i(st:Int×List Arc)=>z0n φ m u st.1 o (o.length:Int) i s sup st.2) o.length (λi st=>st.1=sumC o i/\0<=st.1/\st.1<=1000000*(i:Int)/\st.2=arcs++(List.range i).map (arcO u (s.length:Int) o))
  (λr=>r=z0w φ sup (arcs++(List.range o.length).map (arcO u (s.length:Int) o)++(List.range s.length).map (arcS u s)++[⟨u,u+1,sumC o o.length,0⟩])) ?_ ?_ m (0,arcs) ⟨rfl,by simp,by simp,by simp⟩ hm
 .rintro m i ⟨c,acc⟩ hi ⟨h1,h2,h3,hI⟩ hG;simp only at h1 h2 h3 hI;have hW:W ((i:Int)+1) =(i:Int)+1:=W_id (by omega) (by omega);have hW2:W ((s.length:Int)+(i:Int)) =(s.length:Int)+(i:Int):=W_id (by omega) (by omega);have hci:=hc i hi;have hW3:W (c+(gt o (i:Int)).count)=c+(gt o (i:Int)).count:=W_id (by omega) (by omega);have hlen:acc.length=arcs.length+i:=by rw[hI];simp
  show z0n φ (m+1) u c o (o.length:Int) (i:Int) s sup acc=_;rw[z0n,if_pos (by simp;omega),z6 ⟨by omega,by omega⟩,z6 (by simp[fits,hlen];omega),if_neg (by simp),hW,hW2,hW3];refine hG (c+(gt o (i:Int)).count,_) ⟨by rw[h1];rfl,by omega,by push_cast;omega,?_⟩;simp only;rw[hI,w1o,w2f,w0q];rfl
 .rintro m ⟨c,acc⟩ ⟨h1,h2,h3,hI⟩;simp only at h1 h2 h3 hI;have hlen:acc.length=arcs.length+o.length:=by rw[hI];simp
  show z0n φ (m+1) u c o (o.length:Int) (o.length:Int) s sup acc=_;rw[z0n,if_neg (by simp),zti φ u c s sup acc hs (by omega) hu φ (by omega),hI,h1]
end Px
end
section
namespace Px
open Go
def arcP(s:List zc)(o:List zl)(c:Nat->Nat->Int)(b:Nat->Nat->Bool)(i k:Nat):List Arc:=bif b i k then [⟨(i:Int),(s.length:Int)+(k:Int),min2 (gt s (i:Int)).count (gt o (k:Int)).count,c i k⟩] else []
def arcR(s:List zc)(o:List zl)(c:Nat->Nat->Int)(b:Nat->Nat->Bool)(i:Nat):List Arc:=(List.range o.length).flatMap (arcP s o c b i)
theorem zpl{s:List zc}{o:List zl}{c:Nat->Nat->Int}{b:Nat->Nat->Bool}(i:Nat):∀n:Nat,((List.range n).flatMap (arcP s o c b i)).length<=n
 |0=>by simp
 |n+1=>by
  rw[w1o,w1x,w0i];have:=zpl (s:=s) (o:=o) (c:=c) (b:=b) i n;have h2 :([n].flatMap (arcP s o c b i)).length<=1:=by simp only[w0n,List.flatMap_nil,w0e,arcP];cases b i n<;>simp
  omega
theorem zkq{s:List zc}{o:List zl}{c:Nat->Nat->Int}{b:Nat->Nat->Bool}(ho:o.length<=6):∀n:Nat,((List.range n).flatMap (arcR s o c b)).length<=6*n
 |0=>by simp
 |n+1=>by
  rw[w1o,w1x,w0i];have:=zkq (s:=s) (o:=o) (c:=c) (b:=b) ho n;have h2 :([n].flatMap (arcR s o c b)).length<=6:=by simp only[w0n,List.flatMap_nil,w0e,arcR];have:=zpl (s:=s) (o:=o) (c:=c) (b:=b) n o.length;omega
  omega
theorem ybt(φ:Nat)(k42:Int->Int->List zc->Int->Int->List zc->List zl->Pool->List Int->List Arc->Option (zh×Int×Unit))(u ord:Int)(p:Pool)(s:List zc)(o:List zl)(sup:List Int)(c:Nat->Nat->Int)(b:Nat->Nat->Bool)(i:Nat)
  (hsu:∀k:Nat,k<o.length->z44 φ p (gt s (i:Int)) (gt o (k:Int))=some (c i k,b i k,())) (hs:s.length<=6) (ho:o.length<=6) (acc:List Arc) (ha:acc.length<=100) (m:Nat) (hm:o.length<m) :
  z0v φ k42 m u ord (i:Int) s (s.length:Int) (i:Int) o (o.length:Int) 0 s o p (gt s (i:Int)) sup acc=k42 u ord s (s.length:Int) (W ((i:Int)+1)) s o p sup (acc++arcR s o c b i):=by
 refine zw (λm k acc=>z0v φ k42 m u ord (i:Int) s (s.length:Int) (i:Int) o (o.length:Int) k s o p (gt s (i:Int)) sup acc) o.length (λk a=>a=acc++(List.range k).flatMap (arcP s o c b i))
  (λr=>r=k42 u ord s (s.length:Int) (W ((i:Int)+1)) s o p sup (acc++arcR s o c b i)) ?_ ?_ m acc (by simp) hm
 .intro m k a hk hI hG;have hW:W ((k:Int)+1) =(k:Int)+1:=W_id (by omega) (by omega);have hW2:W ((s.length:Int)+(k:Int)) =(s.length:Int)+(k:Int):=W_id (by omega) (by omega);have hlen:a.length<=110:=by rw[hI,w0i];have:=zpl (s:=s) (o:=o) (c:=c) (b:=b) i k;omega
  show z0v φ k42 (m+1) u ord (i:Int) s (s.length:Int) (i:Int) o (o.length:Int) (k:Int) s o p (gt s (i:Int)) sup a=_;rw[z0v,if_pos (by simp;omega),z6 ⟨by omega,by omega⟩,hsu k hk,w03,hW,hW2];have hstep:∀a',a'=a++arcP s o c b i k->a'=acc++(List.range (k+1)).flatMap (arcP s o c b i):=λa' e=>by rw[e,hI,w1o,w1x,w0q];simp
  cases hb:b i k with
  |true=>rw[if_pos rfl,z6 (by simp[fits];omega),if_neg (by simp)];exact hG _ (hstep _ (by unfold arcP;rw[hb];rfl))
  |false=>rw[if_neg (by simp)];exact hG _ (hstep _ (by unfold arcP;rw[hb];simp))
 .intro m a hI;show z0v φ k42 (m+1) u ord (i:Int) s (s.length:Int) (i:Int) o (o.length:Int) (o.length:Int) s o p (gt s (i:Int)) sup a=_;rw[z0v,if_neg (by simp),hI];rfl
theorem y35(φ:Nat)(u ord:Int)(p:Pool)(s:List zc)(o:List zl)(sup:List Int)(c:Nat->Nat->Int)(b:Nat->Nat->Bool)
  (hsu:∀i k:Nat,i<s.length->k<o.length->z44 φ p (gt s (i:Int)) (gt o (k:Int))=some (c i k,b i k,())) (hs:s.length<=6) (ho:o.length<=6) (hφ:1000<φ) (m:Nat) (hm:s.length<m) :
  z1d φ m u ord s (s.length:Int) 0 s o p sup []=z0n φ φ u ord o (o.length:Int) 0 s sup ((List.range s.length).flatMap (arcR s o c b)):=by
 refine zw (λm i acc=>z1d φ m u ord s (s.length:Int) i s o p sup acc) s.length (λi a=>a =(List.range i).flatMap (arcR s o c b))
  (λr=>r=z0n φ φ u ord o (o.length:Int) 0 s sup ((List.range s.length).flatMap (arcR s o c b))) ?_ ?_ m [] (by simp) hm
 .intro m i a hi hI hG;have hW:W ((i:Int)+1) =(i:Int)+1:=W_id (by omega) (by omega);have hlen:a.length<=100:=by rw[hI];have:=zkq (s:=s) (o:=o) (c:=c) (b:=b) ho i;omega
  show z1d φ (m+1) u ord s (s.length:Int) (i:Int) s o p sup a=_;rw[z1d,if_pos (by simp;omega),z6 ⟨by omega,by omega⟩,ybt φ _ u ord p s o sup c b i (λk hk=>hsu i k hi hk) hs ho a hlen φ (by omega),hW];refine hG _ ?_;rw[hI,w1o,w1x];simp
 .intro m a hI;show z1d φ (m+1) u ord s (s.length:Int) (s.length:Int) s o p sup a=_;rw[z1d,if_neg (by simp),hI]
end Px
end
section
namespace Px
open Go
theorem zb2(φ:Nat)(a b c:Int):z0a φ a b c=some (bet a b c,()):=rfl
def okSu(p:Pool)(s:zc):Bool:=(((bet s.type_ 0 (W ((p.fleet.types.length:Int)-1))&&bet s.class_ (-1) 63)&&bet s.place 0 (W ((p.network.places.length:Int)-1)))&&bet s.at_ 0 1073741824)&&bet s.count 1 4096
def okOr(p:Pool)(o:zl):Bool:=(((((bet o.type_ 0 (W ((p.fleet.types.length:Int)-1))&&bet o.class_ 0 63)&&bet o.place 0 (W ((p.network.places.length:Int)-1)))&&bet o.from_ 0 o.to)&&decide (o.to<=1073741824))&&bet o.count 1 1000)&&bet o.weight 0 1000000000
theorem zc9(φ:Nat)(p:Pool)(s:zc):z5m φ p s=some (okSu p s,()):=by unfold z5m okSu;simp only[zb2,w03];cases h1:bet s.type_ 0 (W ((p.fleet.types.length:Int)-1))<;>cases h2:bet s.class_ (-1) 63<;>cases h3:bet s.place 0 (W ((p.network.places.length:Int)-1))<;>cases h4:bet s.at_ 0 1073741824<;>cases h5:bet s.count 1 4096<;>simp[z0u]
theorem zdh(φ:Nat)(p:Pool)(o:zl):z6j φ p o=some (okOr p o,()):=by unfold z6j okOr;simp only[zb2,w03];cases h1:bet o.type_ 0 (W ((p.fleet.types.length:Int)-1))<;>cases h2:bet o.class_ 0 63<;>cases h3:bet o.place 0 (W ((p.network.places.length:Int)-1))<;>cases h4:bet o.from_ 0 o.to<;>cases h6:decide (o.to<=1073741824)<;>cases h5:bet o.count 1 1000<;>cases h7:bet o.weight 0 1000000000<;>simp[z0u,h6]
end Px
end
