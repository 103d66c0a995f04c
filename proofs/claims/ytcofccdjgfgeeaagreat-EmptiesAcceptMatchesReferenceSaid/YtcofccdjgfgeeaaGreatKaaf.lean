/- A part of the proof of emptiesAcceptMatchesReference_holds. Conditions: none. -/
import Derived.Test.YtcofccdjgfgeeaaGreatKaae
import Derived.Test.YtcofccdjgfgeeaaGreatProg
import Derived.Ground.SlsfProg
import Derived.Ground.NamesProg
import Derived.KernelRfl
set_option linter.unusedVariables false
set_option linter.unusedSimpArgs false
section
namespace Go.Proofs
open Go.Shelf
def Tryz.lays189_ren:Go.Shelf.Ren:=⟨fun|189=>111|125=>81|257=>162|128=>129|129=>130|294=>180|295=>181|296=>182|297=>183|298=>184|299=>185|216=>186|300=>187|301=>188|328=>195|329=>167|330=>168|331=>196|332=>197|215=>82|343=>200|n=>n,fun|28=>40|3=>3|46=>175|0=>0|51=>216|53=>130|4=>4|183=>210|182=>209|131=>120|5=>5|9=>9|218=>245|222=>191|228=>268|229=>269|n=>n,fun|n=>n⟩
theorem Tryz.lays189:Go.Proofs.Lays.n189 Tryz.prog Tryz.lays189_ren:={
 mixed:=by kernel_rfl
 f125:=Tryz.func81.trans (congrArg some (by kernel_rfl))
 f128:=Tryz.func129.trans (congrArg some (by kernel_rfl))
 f129:=Tryz.func130.trans (congrArg some (by kernel_rfl))
 f189:=Tryz.func111.trans (congrArg some (by kernel_rfl))
 f215:=Tryz.func82.trans (congrArg some (by kernel_rfl))
 f216:=Tryz.func186.trans (congrArg some (by kernel_rfl))
 f257:=Tryz.func162.trans (congrArg some (by kernel_rfl))
 f294:=Tryz.func180.trans (congrArg some (by kernel_rfl))
 f295:=Tryz.func181.trans (congrArg some (by kernel_rfl))
 f296:=Tryz.func182.trans (congrArg some (by kernel_rfl))
 f297:=Tryz.func183.trans (congrArg some (by kernel_rfl))
 f298:=Tryz.func184.trans (congrArg some (by kernel_rfl))
 f299:=Tryz.func185.trans (congrArg some (by kernel_rfl))
 f300:=Tryz.func187.trans (congrArg some (by kernel_rfl))
 f301:=Tryz.func188.trans (congrArg some (by kernel_rfl))
 f328:=Tryz.func195.trans (congrArg some (by kernel_rfl))
 f329:=Tryz.func167.trans (congrArg some (by kernel_rfl))
 f330:=Tryz.func168.trans (congrArg some (by kernel_rfl))
 f331:=Tryz.func196.trans (congrArg some (by kernel_rfl))
 f332:=Tryz.func197.trans (congrArg some (by kernel_rfl))
 f343:=Tryz.func200.trans (congrArg some (by kernel_rfl))
 t0:=Tryz.underlying0
 a0:=Tryz.isAgg0
 z0:=Tryz.sizeOf0
 v0:=Tryz.zeroValue0
 t3:=Tryz.underlying3
 a3:=Tryz.isAgg3
 z3:=Tryz.sizeOf3
 v3:=Tryz.zeroValue3
 t4:=Tryz.underlying4
 a4:=Tryz.isAgg4
 z4:=Tryz.sizeOf4
 v4:=Tryz.zeroValue4
 t5:=Tryz.underlying5
 a5:=Tryz.isAgg5
 z5:=Tryz.sizeOf5
 v5:=Tryz.zeroValue5
 t9:=Tryz.underlying9
 a9:=Tryz.isAgg9
 z9:=Tryz.sizeOf9
 v9:=Tryz.zeroValue9
 t28:=Tryz.underlying40
 a28:=Tryz.isAgg40
 z28:=Tryz.sizeOf40
 v28:=Tryz.zeroValue40
 t46:=Tryz.underlying175
 a46:=Tryz.isAgg175
 z46:=Tryz.sizeOf175
 v46:=Tryz.zeroValue175
 t51:=Tryz.underlying216
 a51:=Tryz.isAgg216
 z51:=Tryz.sizeOf216
 v51:=Tryz.zeroValue216
 t53:=Tryz.underlying130
 a53:=Tryz.isAgg130
 z53:=Tryz.sizeOf130
 v53:=Tryz.zeroValue130
 t131:=Tryz.underlying120
 a131:=Tryz.isAgg120
 z131:=Tryz.sizeOf120
 v131:=Tryz.zeroValue120
 t182:=Tryz.underlying209
 a182:=Tryz.isAgg209
 z182:=Tryz.sizeOf209
 v182:=Tryz.zeroValue209
 t183:=Tryz.underlying210
 a183:=Tryz.isAgg210
 z183:=Tryz.sizeOf210
 v183:=Tryz.zeroValue210
 t218:=Tryz.underlying245
 a218:=Tryz.isAgg245
 z218:=Tryz.sizeOf245
 v218:=Tryz.zeroValue245
 t222:=Tryz.underlying191
 a222:=Tryz.isAgg191
 z222:=Tryz.sizeOf191
 v222:=Tryz.zeroValue191
 t228:=Tryz.underlying268
 a228:=Tryz.isAgg268
 z228:=Tryz.sizeOf268
 v228:=Tryz.zeroValue268
 t229:=Tryz.underlying269
 a229:=Tryz.isAgg269
 z229:=Tryz.sizeOf269
 v229:=Tryz.zeroValue269 }
end Go.Proofs
end
section
set_option maxHeartbeats 4000000
set_option maxRecDepth 100000
namespace Px
open Go Go.RowKit Go.Proofs
def zen(φ:Nat):H TV (RTup TT [.val 26]):=.x
def zjq(P:Program)(φ:Nat):Env TV:=⟨P,lk [],lk [],lk [],lk []⟩
theorem y0v(φ:Nat)(a):(zeo φ).F a=fnX TV (zjq Tryz.prog φ) φ Tryz.f27 [] [.val 26] (zen φ) a:=by kernel_rfl
theorem y0u(φ:Nat):fnO TV (zjq Tryz.prog φ) φ Tryz.f27 [.val 26] (zen φ):=by
 unfold fnO;show obl _ _ _ _ _ _ _ _;unfold zen
 repeat' (first|exact trivial |(refine⟨?_,?_⟩) |(intro _)|kernel_rfl)
theorem zpl[Dr](φ:Nat):z0h TV Tryz.prog 27 (zeo φ):=z0l (N:=zjq Tryz.prog φ) (zq trivial trivial trivial trivial) (zen φ) Tryz.func27 (by kernel_rfl) (y0v φ) (y0u φ)
def z92(φ:Nat):H TV (RTup TT [.val 27]):=.x
def zdu(P:Program)(φ:Nat):Env TV:=⟨P,lk [],lk [],lk [],lk []⟩
theorem zsj(φ:Nat)(a):(zdv φ).F a=fnX TV (zdu Tryz.prog φ) φ Tryz.f116 [1] [.val 27] (z92 φ) a:=by kernel_rfl
theorem zsi(φ:Nat):fnO TV (zdu Tryz.prog φ) φ Tryz.f116 [.val 27] (z92 φ):=by
 unfold fnO;show obl _ _ _ _ _ _ _ _;unfold z92
 repeat' (first|exact trivial |(refine⟨?_,?_⟩) |(intro _)|kernel_rfl)
theorem zsh[Dr](φ:Nat):z0h TV Tryz.prog 116 (zdv φ):=z0l (N:=zdu Tryz.prog φ) (zq trivial trivial trivial trivial) (z92 φ) Tryz.func116 (by kernel_rfl) (zsj φ) (zsi φ)
def y2c:Msp TV:=⟨3,0,[],λl _=>zz3 l⟩
theorem yca[Dr]:ztk TV Tryz.prog 111 y2c:=λl _ l' sv h=>y2d (ρ:=Tryz.lays189_ren) Tryz.lays189 h
def z8z(φ:Nat):H TV (RTup TT [.val 0]):=(.seq .x (.seq .x (.seq .x (.seq (.seq .x (.body (.loop ⟨[(84,[(1,.ptr 0 0),(3,.val 0),(20,.val 2),(21,.val 0),(22,.val 0)])],[.box 25 [.val 5]]⟩ (λn=>kk5 (z43 φ n)) (λzk7=>.x)))) (.seq (.seq .x (.body (.loop ⟨[(84,[(3,.val 0),(31,.val 4),(32,.val 0),(33,.val 0)])],[]⟩ (λn=>kk4 (z21 φ n)) (λzk13=>.x)))) .x)))))
def zdr(P:Program)(φ:Nat):Env TV:=⟨P,lk [(116,zdv φ)],lk [],lk [],lk []⟩
theorem zsd(φ:Nat)(a):(z90 φ).F a=fnX TV (zdr Tryz.prog φ) φ Tryz.f73 [5] [.val 0] (z8z φ) a:=by kernel_rfl
theorem zsc(φ:Nat):fnO TV (zdr Tryz.prog φ) φ Tryz.f73 [.val 0] (z8z φ):=by
 unfold fnO;show obl _ _ _ _ _ _ _ _;unfold z8z
 repeat' (first|exact trivial |(refine⟨?_,?_⟩) |(intro _)|kernel_rfl)
theorem zjv[Dr](φ:Nat):z0h TV Tryz.prog 73 (z90 φ):=z0l (N:=zdr Tryz.prog φ) (zq ⟨zsh φ,trivial⟩ trivial trivial trivial) (z8z φ) Tryz.func73 (by kernel_rfl) (zsd φ) (zsc φ)
def z8e(φ:Nat):H TV (RTup TT [.val 27]):=.x
def zd0(P:Program)(φ:Nat):Env TV:=⟨P,lk [],lk [],lk [],lk []⟩
theorem zrs(φ:Nat)(a):(z52 φ).F a=fnX TV (zd0 Tryz.prog φ) φ Tryz.f75 [0,0,0] [.val 27] (z8e φ) a:=by kernel_rfl
theorem zrr(φ:Nat):fnO TV (zd0 Tryz.prog φ) φ Tryz.f75 [.val 27] (z8e φ):=by
 unfold fnO;show obl _ _ _ _ _ _ _ _;unfold z8e
 repeat' (first|exact trivial |(refine⟨?_,?_⟩) |(intro _)|kernel_rfl)
theorem z8f[Dr](φ:Nat):z0h TV Tryz.prog 75 (z52 φ):=z0l (N:=zd0 Tryz.prog φ) (zq trivial trivial trivial trivial) (z8e φ) Tryz.func75 (by kernel_rfl) (zrs φ) (zrr φ)
def zbv(φ:Nat):H TV (RTup TT [.val 0]):=(.seq .x (.seq .x (.seq .x (.seq .x (.seq (.seq .x (.body (.loop ⟨[(206,[(1,.ptr 0 0),(3,.ptr 1 0),(4,.func 117 [.ptr 1 0]),(41,.val 8),(42,.val 0),(43,.val 0)])],[.box 31 [.val 15],.box 45 [.val 0]]⟩ (λn=>kk5 (z4i φ n)) (λzk7=>(.seq .x (.seq .x (.seq (.body (.seq .x (.seq (.seq .x (.body (.loop ⟨[(206,[(1,.ptr 0 0),(3,.ptr 1 0),(4,.func 117 [.ptr 1 0]),(6,.ptr 2 0),(41,.val 8),(42,.val 0),(43,.val 0),(55,.own 3),(56,.val 0),(57,.val 0)])],[.box 31 [.val 15],.box 45 [.val 0],.box 155 [.val 7],.row 3 0]⟩ (λn z=>z2j φ (λa0 a1 a2 a3 a4=>zk7 (a0,a1,a2,a3,a4,())) n z.1 z.2.1 z.2.2.1 z.2.2.2.1 z.2.2.2.2.1 z.2.2.2.2.2.1 z.2.2.2.2.2.2.1 z.2.2.2.2.2.2.2.1 z.2.2.2.2.2.2.2.2.1) (λzk17=>.x)))) .x))) .x))))))) (.seq (.seq .x (.body (.loop ⟨[(206,[(1,.ptr 0 0),(3,.ptr 1 0),(4,.func 117 [.ptr 1 0]),(83,.val 10),(84,.val 0),(85,.val 0)])],[.box 31 [.val 15],.box 45 [.val 0]]⟩ (λn=>kk5 (z0k φ n)) (λzk27=>.x)))) (.seq (.seq .x (.body (.loop ⟨[(206,[(1,.ptr 0 0),(3,.ptr 1 0),(4,.func 117 [.ptr 1 0]),(120,.val 12),(121,.val 0),(122,.val 0)])],[.box 31 [.val 15],.box 45 [.val 0]]⟩ (λn=>kk5 (z0y φ n)) (λzk40=>.x)))) (.seq .x (.seq (.seq .x (.body (.loop ⟨[(206,[(3,.ptr 0 0),(4,.func 117 [.ptr 0 0]),(13,.ptr 1 0),(158,.val 14),(159,.val 0),(160,.val 0)])],[.box 45 [.val 0],.box 204 [.val 28]]⟩ (λn=>kk5 (z00 φ n)) (λzk49=>.x)))) .x)))))))))
def zgz(P:Program)(φ:Nat):Env TV:=⟨P,lk [(75,z52 φ)],lk [],lk [],lk []⟩
theorem zwl(φ:Nat)(a):(z8c φ).F a=fnX TV (zgz Tryz.prog φ) φ Tryz.f74 [15] [.val 0] (zbv φ) a:=by kernel_rfl
theorem zwk(φ:Nat):fnO TV (zgz Tryz.prog φ) φ Tryz.f74 [.val 0] (zbv φ):=by
 unfold fnO;show obl _ _ _ _ _ _ _ _;unfold zbv
 repeat' (first|exact trivial |(refine⟨?_,?_⟩) |(intro _)|kernel_rfl)
theorem zh0[Dr](φ:Nat):z0h TV Tryz.prog 74 (z8c φ):=z0l (N:=zgz Tryz.prog φ) (zq ⟨z8f φ,trivial⟩ trivial trivial trivial) (zbv φ) Tryz.func74 (by kernel_rfl) (zwl φ) (zwk φ)
def z7q(φ:Nat):H TV (RTup TT [.val 0]):=(.seq .x (.seq (.seq .x (.body (.loop ⟨[(45,[(1,.ptr 0 0),(9,.val 21),(10,.val 0)])],[.box 129 [.val 23]]⟩ (λn=>kk3 (z3g φ n)) (λzk5=>.x)))) (.seq .x (.seq (.seq .x (.body (.loop ⟨[(45,[(5,.val 0),(30,.val 22),(31,.val 0),(32,.val 0)])],[]⟩ (λn=>kk4 (z2s φ n)) (λzk10=>.x)))) .x))))
def zb7(P:Program)(φ:Nat):Env TV:=⟨P,lk [],lk [],lk [],lk []⟩
theorem zpz(φ:Nat)(a):(zb8 φ).F a=fnX TV (zb7 Tryz.prog φ) φ Tryz.f76 [23] [.val 0] (z7q φ) a:=by kernel_rfl
theorem zpy(φ:Nat):fnO TV (zb7 Tryz.prog φ) φ Tryz.f76 [.val 0] (z7q φ):=by
 unfold fnO;show obl _ _ _ _ _ _ _ _;unfold z7q
 repeat' (first|exact trivial |(refine⟨?_,?_⟩) |(intro _)|kernel_rfl)
theorem zpx[Dr](φ:Nat):z0h TV Tryz.prog 76 (zb8 φ):=z0l (N:=zb7 Tryz.prog φ) (zq trivial trivial trivial trivial) (z7q φ) Tryz.func76 (by kernel_rfl) (zpz φ) (zpy φ)
def zeh(φ:Nat):H TV (RTup TT [.val 6,.val 6]):=.x
def zj9(P:Program)(φ:Nat):Env TV:=⟨P,lk [],lk [],lk [],lk []⟩
theorem zzt(φ:Nat)(a):(zja φ).F a=fnX TV (zj9 Tryz.prog φ) φ Tryz.f191 [6,6] [.val 6,.val 6] (zeh φ) a:=by kernel_rfl
theorem zzs(φ:Nat):fnO TV (zj9 Tryz.prog φ) φ Tryz.f191 [.val 6,.val 6] (zeh φ):=by
 unfold fnO;show obl _ _ _ _ _ _ _ _;unfold zeh
 repeat' (first|exact trivial |(refine⟨?_,?_⟩) |(intro _)|kernel_rfl)
theorem zzr[Dr](φ:Nat):z0h TV Tryz.prog 191 (zja φ):=z0l (N:=zj9 Tryz.prog φ) (zq trivial trivial trivial trivial) (zeh φ) Tryz.func191 (by kernel_rfl) (zzt φ) (zzs φ)
def z45(φ:Nat):H TV (RTup TT [.val 0]):=(.seq .x (.seq (.ins 1 130 (.seq .x (.seq (.join ⟨[(25,[(0,.val 6),(2,.val 0)]),(6,[])],[]⟩ (kk2 (z1x φ)) (.seq .x .x)) (.seq (.join ⟨[(25,[(0,.val 6),(2,.val 0)]),(6,[])],[]⟩ (kk2 (z1y φ)) (.seq .x .x)) (.seq (.join ⟨[(25,[(0,.val 6),(2,.val 0)]),(6,[])],[]⟩ (kk2 (z1c φ)) (.seq .x .x)) .x)))) .x) .x))
def z6c(P:Program)(φ:Nat):Env TV:=⟨P,lk [],lk [],lk [],lk []⟩
theorem zj8(φ:Nat)(a):(z6d φ).F a=fnX TV (z6c Tryz.prog φ) φ Tryz.f199 [6] [.val 0] (z45 φ) a:=by kernel_rfl
theorem zj7(φ:Nat):fnO TV (z6c Tryz.prog φ) φ Tryz.f199 [.val 0] (z45 φ):=by
 unfold fnO;show obl _ _ _ _ _ _ _ _;unfold z45
 repeat' (first|exact trivial |(refine⟨?_,?_⟩) |(intro _)|kernel_rfl)
theorem zj6[Dr](φ:Nat):z0h TV Tryz.prog 199 (z6d φ):=z0l (N:=z6c Tryz.prog φ) (zq trivial trivial trivial trivial) (z45 φ) Tryz.func199 (by kernel_rfl) (zj8 φ) (zj7 φ)
def zeg(φ:Nat):H TV (RTup TT [.val 6,.val 6]):=(.seq .x (.seq .x (.seq .x (.seq .x (.seq .x (.seq .x (.seq .x (.seq .x (.seq .x (.seq .x (.seq .x (.seq .x (.seq .x (.seq .x (.seq (.join ⟨[(135,[(2,.val 6),(8,.val 6),(9,.val 6),(10,.val 6),(11,.val 6),(13,.val 6),(14,.val 6),(15,.val 6)])],[]⟩ (kk8 (z7h φ)) (.body (.loop ⟨[(135,[(2,.val 6),(8,.val 6),(9,.val 6),(10,.val 6),(11,.val 6),(13,.val 6),(14,.val 6),(15,.val 6),(16,.val 6)])],[]⟩ (λn=>kk9 (z7g φ n)) (λzk40=>.x)))) (.seq .x (.seq .x (.seq .x (.seq (.join ⟨[(135,[(2,.val 6),(8,.val 6),(14,.val 6),(15,.val 6),(17,.val 6),(18,.val 6)])],[]⟩ (kk6 (z7i φ)) (.body (.loop ⟨[(135,[(2,.val 6),(8,.val 6),(9,.val 6),(10,.val 6),(14,.val 6),(15,.val 6),(16,.val 6),(17,.val 6),(18,.val 6)])],[]⟩ (λn=>kk9 (z7f φ n)) (λzk30=>.x)))) .x)))))))))))))))))))
def zj4(P:Program)(φ:Nat):Env TV:=⟨P,lk [(199,z6d φ)],lk [],lk [],lk []⟩
theorem zzq(φ:Nat)(a):(zj5 φ).F a=fnX TV (zj4 Tryz.prog φ) φ Tryz.f192 [6,6,6] [.val 6,.val 6] (zeg φ) a:=by kernel_rfl
theorem zzp(φ:Nat):fnO TV (zj4 Tryz.prog φ) φ Tryz.f192 [.val 6,.val 6] (zeg φ):=by
 unfold fnO;show obl _ _ _ _ _ _ _ _;unfold zeg
 repeat' (first|exact trivial |(refine⟨?_,?_⟩) |(intro _)|kernel_rfl)
theorem zzo[Dr](φ:Nat):z0h TV Tryz.prog 192 (zj5 φ):=z0l (N:=zj4 Tryz.prog φ) (zq ⟨zj6 φ,trivial⟩ trivial trivial trivial) (zeg φ) Tryz.func192 (by kernel_rfl) (zzq φ) (zzp φ)
def zl6(φ:Nat):H TV (RTup TT [.val 6]):=(.seq .x (.seq .x (.seq .x (.seq (.seq (.ins 1 130 (.seq .x (.seq (.join ⟨[(25,[(0,.val 6),(2,.val 0)]),(33,[(0,.val 6),(1,.val 6),(5,.func 190 [.ptr 0 0]),(6,.val 6)])],[.box 130 [.val 6]]⟩ (kk6 (ze9 φ)) (.seq .x .x)) (.seq (.join ⟨[(25,[(0,.val 6),(2,.val 0)]),(33,[(0,.val 6),(1,.val 6),(5,.func 190 [.ptr 0 0]),(6,.val 6)])],[.box 130 [.val 6]]⟩ (kk6 (zb1 φ)) (.seq .x .x)) (.seq (.join ⟨[(25,[(0,.val 6),(2,.val 0)]),(33,[(0,.val 6),(1,.val 6),(5,.func 190 [.ptr 0 0]),(6,.val 6)])],[.box 130 [.val 6]]⟩ (kk6 (zb2 φ)) (.seq .x .x)) .x)))) .x) (.body (.loop ⟨[(33,[(0,.val 6),(1,.val 6),(5,.func 190 [.ptr 0 0]),(6,.val 6),(10,.val 0),(11,.val 0)])],[.box 130 [.val 6]]⟩ (λn=>kk6 (z0s φ n)) (λzk30=>(.seq .x (.seq .x (.seq (.body (.seq .x (.seq .x (.seq (.ins 2 130 (.seq .x (.seq (.join ⟨[(25,[(0,.val 6),(2,.val 0)]),(33,[(0,.val 6),(1,.val 6),(5,.func 190 [.ptr 0 0]),(6,.val 6),(7,.val 0),(10,.val 0),(11,.val 0),(18,.val 6)])],[.box 130 [.val 6]]⟩ (λz=>z4g φ (λa0 a1 a2 a3 a4 a5=>zk30 (a0,a1,a2,a3,a4,a5,())) z.1 z.2.1 z.2.2.1 z.2.2.2.1 z.2.2.2.2.1 z.2.2.2.2.2.1 z.2.2.2.2.2.2.1 z.2.2.2.2.2.2.2.1 z.2.2.2.2.2.2.2.2.1 z.2.2.2.2.2.2.2.2.2.1) (.seq .x .x)) (.seq (.join ⟨[(25,[(0,.val 6),(2,.val 0)]),(33,[(0,.val 6),(1,.val 6),(5,.func 190 [.ptr 0 0]),(6,.val 6),(7,.val 0),(10,.val 0),(11,.val 0),(18,.val 6)])],[.box 130 [.val 6]]⟩ (λz=>zb3 φ (λa0 a1 a2 a3 a4 a5=>zk30 (a0,a1,a2,a3,a4,a5,())) z.1 z.2.1 z.2.2.1 z.2.2.2.1 z.2.2.2.2.1 z.2.2.2.2.2.1 z.2.2.2.2.2.2.1 z.2.2.2.2.2.2.2.1 z.2.2.2.2.2.2.2.2.1 z.2.2.2.2.2.2.2.2.2.1) (.seq .x .x)) (.seq (.join ⟨[(25,[(0,.val 6),(2,.val 0)]),(33,[(0,.val 6),(1,.val 6),(5,.func 190 [.ptr 0 0]),(6,.val 6),(7,.val 0),(10,.val 0),(11,.val 0),(18,.val 6)])],[.box 130 [.val 6]]⟩ (λz=>zb4 φ (λa0 a1 a2 a3 a4 a5=>zk30 (a0,a1,a2,a3,a4,a5,())) z.1 z.2.1 z.2.2.1 z.2.2.2.1 z.2.2.2.2.1 z.2.2.2.2.2.1 z.2.2.2.2.2.2.1 z.2.2.2.2.2.2.2.1 z.2.2.2.2.2.2.2.2.1 z.2.2.2.2.2.2.2.2.2.1) (.seq .x .x)) .x)))) .x) .x)))) .x))))))) .x))))
def zp1(P:Program)(φ:Nat):Env TV:=⟨P,lk [(191,zja φ),(192,zj5 φ)],lk [],lk [],lk []⟩
theorem y8d(φ:Nat)(a):(zp2 φ).F a=fnX TV (zp1 Tryz.prog φ) φ Tryz.f118 [6,6] [.val 6] (zl6 φ) a:=by kernel_rfl
theorem y8c(φ:Nat):fnO TV (zp1 Tryz.prog φ) φ Tryz.f118 [.val 6] (zl6 φ):=by
 unfold fnO;show obl _ _ _ _ _ _ _ _;unfold zl6
 repeat' (first|exact trivial |(refine⟨?_,?_⟩) |(intro _)|kernel_rfl)
theorem y8b[Dr](φ:Nat):z0h TV Tryz.prog 118 (zp2 φ):=z0l (N:=zp1 Tryz.prog φ) (zq ⟨zzr φ,zzo φ,trivial⟩ trivial trivial trivial) (zl6 φ) Tryz.func118 (by kernel_rfl) (y8d φ) (y8c φ)
def zew(φ:Nat):H TV (RTup TT [.val 27]):=.x
def zki(P:Program)(φ:Nat):Env TV:=⟨P,lk [(118,zp2 φ)],lk [],lk [],lk []⟩
theorem y2b(φ:Nat)(a):(zkj φ).F a=fnX TV (zki Tryz.prog φ) φ Tryz.f77 [6] [.val 27] (zew φ) a:=by kernel_rfl
theorem y2a(φ:Nat):fnO TV (zki Tryz.prog φ) φ Tryz.f77 [.val 27] (zew φ):=by
 unfold fnO;show obl _ _ _ _ _ _ _ _;unfold zew
 repeat' (first|exact trivial |(refine⟨?_,?_⟩) |(intro _)|kernel_rfl)
theorem y27[Dr](φ:Nat):z0h TV Tryz.prog 77 (zkj φ):=z0l (N:=zki Tryz.prog φ) (zq ⟨y8b φ,trivial⟩ trivial trivial trivial) (zew φ) Tryz.func77 (by kernel_rfl) (y2b φ) (y2a φ)
def z70(φ:Nat):H TV (RTup TT [.val 0]):=(.seq .x (.seq .x (.seq .x (.seq .x (.seq .x (.seq .x (.seq (.seq .x (.body (.loop ⟨[(193,[(1,.ptr 0 0),(5,.val 2),(6,.val 0),(7,.val 27),(57,.val 17),(58,.val 0),(59,.val 0)])],[.box 36 [.val 26]]⟩ (λn=>kk7 (z20 φ n)) (λzk11=>.x)))) (.seq (.seq .x (.body (.loop ⟨[(193,[(1,.ptr 0 0),(5,.val 2),(6,.val 0),(7,.val 27),(92,.val 19),(93,.val 0),(94,.val 0)])],[.box 36 [.val 26]]⟩ (λn=>kk7 (z13 φ n)) (λzk20=>.x)))) (.seq (.seq .x (.body (.loop ⟨[(193,[(1,.ptr 0 0),(5,.val 2),(6,.val 0),(7,.val 27),(120,.val 10),(121,.val 0),(122,.val 0)])],[.box 36 [.val 26]]⟩ (λn=>kk7 (z14 φ n)) (λzk29=>.x)))) (.seq (.seq .x (.body (.loop ⟨[(193,[(1,.ptr 0 0),(6,.val 0),(7,.val 27),(135,.val 2),(136,.val 0),(137,.val 0)])],[.box 36 [.val 26]]⟩ (λn=>kk6 (z15 φ n)) (λzk36=>.x)))) (.seq (.seq .x (.body (.loop ⟨[(193,[(1,.ptr 0 0),(6,.val 0),(7,.val 27),(157,.val 4),(158,.val 0),(159,.val 0)])],[.box 36 [.val 26]]⟩ (λn=>kk6 (z16 φ n)) (λzk43=>.x)))) (.seq (.seq .x (.body (.loop ⟨[(193,[(7,.val 27),(172,.val 25),(173,.val 0),(174,.val 0)])],[]⟩ (λn=>kk4 (z17 φ n)) (λzk48=>.x)))) .x))))))))))))
def z9q(P:Program)(φ:Nat):Env TV:=⟨P,lk [(73,z90 φ),(74,z8c φ),(75,z52 φ),(76,zb8 φ),(77,zkj φ)],lk [],lk [],lk []⟩
theorem zob(φ:Nat)(a):(z4z φ).F a=fnX TV (z9q Tryz.prog φ) φ Tryz.f34 [26] [.val 0] (z70 φ) a:=by kernel_rfl
theorem zoa(φ:Nat):fnO TV (z9q Tryz.prog φ) φ Tryz.f34 [.val 0] (z70 φ):=by
 unfold fnO;show obl _ _ _ _ _ _ _ _;unfold z70
 repeat' (first|exact trivial |(refine⟨?_,?_⟩) |(intro _)|kernel_rfl)
theorem z9r[Dr](φ:Nat):z0h TV Tryz.prog 34 (z4z φ):=z0l (N:=z9q Tryz.prog φ) (zq ⟨zjv φ,zh0 φ,z8f φ,zpx φ,y27 φ,trivial⟩ trivial trivial trivial) (z70 φ) Tryz.func34 (by kernel_rfl) (zob φ) (zoa φ)
def z6w(φ:Nat):H TV (RTup TT [.val 27]):=.x
def z9m(P:Program)(φ:Nat):Env TV:=⟨P,lk [],lk [],lk [],lk []⟩
theorem zo0(φ:Nat)(a):(z6x φ).F a=fnX TV (z9m Tryz.prog φ) φ Tryz.f94 [0,0,0] [.val 27] (z6w φ) a:=by kernel_rfl
theorem znz(φ:Nat):fnO TV (z9m Tryz.prog φ) φ Tryz.f94 [.val 27] (z6w φ):=by
 unfold fnO;show obl _ _ _ _ _ _ _ _;unfold z6w
 repeat' (first|exact trivial |(refine⟨?_,?_⟩) |(intro _)|kernel_rfl)
theorem zg4[Dr](φ:Nat):z0h TV Tryz.prog 94 (z6x φ):=z0l (N:=z9m Tryz.prog φ) (zq trivial trivial trivial trivial) (z6w φ) Tryz.func94 (by kernel_rfl) (zo0 φ) (znz φ)
def z7u(φ:Nat):H TV (RTup TT [.val 27]):=.x
def zbg(P:Program)(φ:Nat):Env TV:=⟨P,lk [(94,z6x φ)],lk [],lk [],lk []⟩
theorem zqb(φ:Nat)(a):(z5p φ).F a=fnX TV (zbg Tryz.prog φ) φ Tryz.f48 [26,29] [.val 27] (z7u φ) a:=by kernel_rfl
theorem zqa(φ:Nat):fnO TV (zbg Tryz.prog φ) φ Tryz.f48 [.val 27] (z7u φ):=by
 unfold fnO;show obl _ _ _ _ _ _ _ _;unfold z7u
 repeat' (first|exact trivial |(refine⟨?_,?_⟩) |(intro _)|kernel_rfl)
theorem zbh[Dr](φ:Nat):z0h TV Tryz.prog 48 (z5p φ):=z0l (N:=zbg Tryz.prog φ) (zq ⟨zg4 φ,trivial⟩ trivial trivial trivial) (z7u φ) Tryz.func48 (by kernel_rfl) (zqb φ) (zqa φ)
def z8a(φ:Nat):H TV (RTup TT [.val 27]):=.x
def zcq(P:Program)(φ:Nat):Env TV:=⟨P,lk [(94,z6x φ)],lk [],lk [],lk []⟩
theorem zrg(φ:Nat)(a):(z6h φ).F a=fnX TV (zcq Tryz.prog φ) φ Tryz.f49 [26,30] [.val 27] (z8a φ) a:=by kernel_rfl
theorem zrf(φ:Nat):fnO TV (zcq Tryz.prog φ) φ Tryz.f49 [.val 27] (z8a φ):=by
 unfold fnO;show obl _ _ _ _ _ _ _ _;unfold z8a
 repeat' (first|exact trivial |(refine⟨?_,?_⟩) |(intro _)|kernel_rfl)
theorem zcr[Dr](φ:Nat):z0h TV Tryz.prog 49 (z6h φ):=z0l (N:=zcq Tryz.prog φ) (zq ⟨zg4 φ,trivial⟩ trivial trivial trivial) (z8a φ) Tryz.func49 (by kernel_rfl) (zrg φ) (zrf φ)
def z91(φ:Nat):H TV (RTup TT [.val 34,.val 0]):=(.seq .x (.seq .x (.seq (.seq .x (.body (.loop ⟨[(77,[(2,.ptr 0 0),(4,.ptr 1 0),(19,.val 22),(20,.val 0),(21,.val 0)])],[.box 25 [.val 5],.box 231 [.own 2,.raw (.map none)],.row 40 22]⟩ (λn=>kk5 (z10 φ n)) (λzk9=>.x)))) (.seq .x (.seq .x (.seq (.seq .x (.body (.loop ⟨[(77,[(4,.ptr 0 0),(8,.func 179 [.ptr 0 0,.ptr 1 0]),(44,.val 4),(45,.val 0),(46,.val 0)])],[.box 231 [.own 2,.own 3],.box 25 [.val 5],.nst 40 3 22 none,.map 32 0 0]⟩ (λn=>kk6 (z07 φ n)) (λzk16=>(.seq .x (.seq .x (.seq (.body (.seq .x (.seq (.ins 6 179 (.seq .x (.seq .x (.seq (.join ⟨[(56,[(2,.val 0),(3,.ptr 0 0),(4,.ptr 1 0),(8,.ptr 2 0),(9,.val 0),(10,.val 27)]),(77,[(4,.ptr 0 0),(8,.func 179 [.ptr 0 0,.ptr 1 0]),(9,.val 0),(10,.ptr 3 0),(44,.val 4),(45,.val 0),(46,.val 0)])],[.box 231 [.own 4,.own 5],.box 25 [.val 5],.box 252 [.val 32],.box 153 [.val 3],.nst 40 3 22 none,.map 32 0 0]⟩ (λz=>z57 φ (λa0 a1 a2 a3 a4 a5=>zk16 (a0,a1,a2,a3,a4,a5,())) z.1 z.2.1 z.2.2.1 z.2.2.2.1 z.2.2.2.2.1 z.2.2.2.2.2.1 z.2.2.2.2.2.2.1 z.2.2.2.2.2.2.2.1 z.2.2.2.2.2.2.2.2.1 z.2.2.2.2.2.2.2.2.2.1 z.2.2.2.2.2.2.2.2.2.2.1 z.2.2.2.2.2.2.2.2.2.2.2.1) (.seq .x (.cond (.foc (3,some 0) (0,none) .x) .x))) .x))) .x) (.ins 6 179 (.seq .x (.seq .x (.seq (.join ⟨[(56,[(2,.val 0),(3,.ptr 0 0),(4,.ptr 1 0),(8,.ptr 2 0),(9,.val 0),(10,.val 27)]),(77,[(4,.ptr 0 0),(8,.func 179 [.ptr 0 0,.ptr 1 0]),(44,.val 4),(45,.val 0),(46,.val 0)])],[.box 231 [.own 3,.own 4],.box 25 [.val 5],.box 252 [.val 32],.nst 40 3 22 none,.map 32 0 0]⟩ (λz=>z59 φ (λa0 a1 a2 a3 a4 a5=>zk16 (a0,a1,a2,a3,a4,a5,())) z.1 z.2.1 z.2.2.1 z.2.2.2.1 z.2.2.2.2.1 z.2.2.2.2.2.1 z.2.2.2.2.2.2.1 z.2.2.2.2.2.2.2.1 z.2.2.2.2.2.2.2.2.1 z.2.2.2.2.2.2.2.2.2.1) (.seq .x (.cond (.foc (3,some 0) (0,none) .x) .x))) .x))) .x)))) .x))))))) (.seq (.seq .x (.body (.loop ⟨[(77,[(4,.ptr 0 0),(67,.own 1),(68,.val 0),(69,.val 0)])],[.box 231 [.own 1,.own 2],.nst 40 3 22 none,.map 32 0 0]⟩ (λn=>kk4 (z22 φ n)) (λzk56=>(.seq .x (.seq .x (.seq (.body (.seq (.foc (67,none) (69,none) .x) .x)) .x))))))) .x)))))))
def zds(P:Program)(φ:Nat):Env TV:=⟨P,lk [(73,z90 φ)],lk [(111,y2c)],lk [],lk []⟩
theorem zsg(φ:Nat)(a):(zdt φ).F a=fnX TV (zds Tryz.prog φ) φ Tryz.f149 [5,22] [.val 34,.val 0] (z91 φ) a:=by kernel_rfl
theorem zsf(φ:Nat):fnO TV (zds Tryz.prog φ) φ Tryz.f149 [.val 34,.val 0] (z91 φ):=by
 unfold fnO;show obl _ _ _ _ _ _ _ _;unfold z91
 repeat' (first|exact trivial |(refine⟨?_,?_⟩) |(intro _)|kernel_rfl)
theorem zse[Dr](φ:Nat):z0h TV Tryz.prog 149 (zdt φ):=z0l (N:=zds Tryz.prog φ) (zq ⟨zjv φ,trivial⟩ ⟨(yca),trivial⟩ trivial trivial) (z91 φ) Tryz.func149 (by kernel_rfl) (zsg φ) (zsf φ)
def z93(φ:Nat):H TV (RTup TT [.val 22]):=(.seq .x (.seq .x (.seq .x (.seq (.seq .x (.body (.loop ⟨[(118,[(2,.val 0),(3,.ptr 0 0),(4,.ptr 1 0),(7,.own 2),(8,.own 3),(23,.val 0),(24,.val 0)])],[.box 25 [.val 5],.box 231 [.val 34],.row 3 0,.fix 4 27]⟩ (λn=>kk7 (z3k φ n)) (λzk11=>.x)))) (.seq .x (.body (.loop ⟨[(118,[(3,.ptr 0 0),(4,.ptr 1 0),(7,.own 2),(8,.own 3)])],[.box 25 [.val 5],.box 231 [.val 34],.row 3 0,.fix 4 27]⟩ (λn=>kk4 (z08 φ n)) (λzk16=>(.body (.seq .x (.seq (.seq .x (.body (.loop ⟨[(118,[(3,.ptr 0 0),(4,.ptr 1 0),(7,.own 2),(8,.own 3),(10,.val 0),(35,.val 0),(36,.val 0)])],[.box 25 [.val 5],.box 231 [.val 34],.row 3 0,.fix 4 27]⟩ (λn z=>z23 φ (λa0 a1 a2 a3=>zk16 (a0,a1,a2,a3,())) n z.1 z.2.1 z.2.2.1 z.2.2.2.1 z.2.2.2.2.1 z.2.2.2.2.2.1 z.2.2.2.2.2.2.1) (λzk24=>.x)))) (.seq .x (.seq .x (.seq .x (.body (.loop ⟨[(118,[(3,.ptr 0 0),(4,.ptr 1 0),(7,.own 2),(8,.own 3),(10,.val 0),(78,.val 22),(79,.val 0),(80,.val 0)])],[.box 25 [.val 5],.box 231 [.val 34],.row 3 0,.fix 4 27]⟩ (λn z=>z24 φ (λa0 a1 a2 a3=>zk16 (a0,a1,a2,a3,())) n z.1 z.2.1 z.2.2.1 z.2.2.2.1 z.2.2.2.2.1 z.2.2.2.2.2.1 z.2.2.2.2.2.2.1 z.2.2.2.2.2.2.2.1) (λzk33=>.x)))))))))))))))))
def zdw(P:Program)(φ:Nat):Env TV:=⟨P,lk [],lk [],lk [],lk []⟩
theorem zsm(φ:Nat)(a):(zdx φ).F a=fnX TV (zdw Tryz.prog φ) φ Tryz.f150 [5,34,0] [.val 22] (z93 φ) a:=by kernel_rfl
theorem zsl(φ:Nat):fnO TV (zdw Tryz.prog φ) φ Tryz.f150 [.val 22] (z93 φ):=by
 unfold fnO;show obl _ _ _ _ _ _ _ _;unfold z93
 repeat' (first|exact trivial |(refine⟨?_,?_⟩) |(intro _)|kernel_rfl)
theorem zsk[Dr](φ:Nat):z0h TV Tryz.prog 150 (zdx φ):=z0l (N:=zdw Tryz.prog φ) (zq trivial trivial trivial trivial) (z93 φ) Tryz.func150 (by kernel_rfl) (zsm φ) (zsl φ)
def z74(φ:Nat):H TV (RTup TT [.val 0,.val 0]):=.x
def z9w(P:Program)(φ:Nat):Env TV:=⟨P,lk [(149,zdt φ),(150,zdx φ)],lk [],lk [],lk []⟩
theorem zol(φ:Nat)(a):(z9x φ).F a=fnX TV (z9w Tryz.prog φ) φ Tryz.f100 [5,0,0] [.val 0,.val 0] (z74 φ) a:=by kernel_rfl
theorem zoj(φ:Nat):fnO TV (z9w Tryz.prog φ) φ Tryz.f100 [.val 0,.val 0] (z74 φ):=by
 unfold fnO;show obl _ _ _ _ _ _ _ _;unfold z74
 repeat' (first|exact trivial |(refine⟨?_,?_⟩) |(intro _)|kernel_rfl)
theorem zoi[Dr](φ:Nat):z0h TV Tryz.prog 100 (z9x φ):=z0l (N:=z9w Tryz.prog φ) (zq ⟨zse φ,zsk φ,trivial⟩ trivial trivial trivial) (z74 φ) Tryz.func100 (by kernel_rfl) (zol φ) (zoj φ)
def z8d(φ:Nat):H TV (RTup TT [.val 27]):=.x
def zcy(P:Program)(φ:Nat):Env TV:=⟨P,lk [],lk [],lk [],lk []⟩
theorem zrq(φ:Nat)(a b):(zcz φ).F a b=fnXc TV (zcy Tryz.prog φ) φ Tryz.f152 [13] [.b (.val 0),.b (.val 0)] [.val 27] (z8d φ) a b:=by kernel_rfl
theorem zrp(φ:Nat):fnO TV (zcy Tryz.prog φ) φ Tryz.f152 [.val 27] (z8d φ):=by
 unfold fnO;show obl _ _ _ _ _ _ _ _;unfold z8d
 repeat' (first|exact trivial |(refine⟨?_,?_⟩) |(intro _)|kernel_rfl)
theorem zro[Dr](φ:Nat):y75 TV Tryz.prog 152 (zcz φ):=ygl (N:=zcy Tryz.prog φ) (zq trivial trivial trivial trivial) (z8d φ) Tryz.func152 (by kernel_rfl) (zrq φ) (zrp φ)
def zbw(φ:Nat):H TV (RTup TT [.val 0,.val 0]):=(.seq .x (.seq .x (.seq .x (.seq (.ins 3 151 (.seq .x (.seq (.seq .x (.body (.loop ⟨[(19,[(0,.val 14),(1,.func 152 [.ptr 0 0,.ptr 1 0]),(7,.val 0),(8,.val 0)]),(35,[(3,.ptr 2 0)])],[.box 3 [.val 0],.box 3 [.val 0],.box 31 [.val 15]]⟩ (λn=>kk6 (z50 φ n)) (λzk13=>.x)))) .x)) .x) .x))))
def zh1(P:Program)(φ:Nat):Env TV:=⟨P,lk [(74,z8c φ),(75,z52 φ)],lk [],lk [(152,zcz φ)],lk []⟩
theorem zwo(φ:Nat)(a):(zh2 φ).F a=fnX TV (zh1 Tryz.prog φ) φ Tryz.f101 [15,0,0] [.val 0,.val 0] (zbw φ) a:=by kernel_rfl
theorem zwn(φ:Nat):fnO TV (zh1 Tryz.prog φ) φ Tryz.f101 [.val 0,.val 0] (zbw φ):=by
 unfold fnO;show obl _ _ _ _ _ _ _ _;unfold zbw
 repeat' (first|exact trivial |(refine⟨?_,?_⟩) |(intro _)|kernel_rfl)
theorem zwm[Dr](φ:Nat):z0h TV Tryz.prog 101 (zh2 φ):=z0l (N:=zh1 Tryz.prog φ) (zq ⟨zh0 φ,z8f φ,trivial⟩ trivial ⟨zro φ,trivial⟩ trivial) (zbw φ) Tryz.func101 (by kernel_rfl) (zwo φ) (zwn φ)
def zbx(φ:Nat):H TV (RTup TT [.val 12,.val 0]):=(.seq .x (.seq .x (.seq .x (.seq .x (.seq (.seq .x (.body (.loop ⟨[(96,[(1,.val 0),(2,.ptr 0 0),(7,.ptr 1 0),(27,.val 0)])],[.box 31 [.val 15],.box 237 [.val 35]]⟩ (λn=>kk4 (z5t φ n)) (λzk9=>.x)))) (.seq .x (.seq (.seq .x (.body (.loop ⟨[(96,[(1,.val 0),(2,.ptr 0 0),(7,.ptr 1 0),(9,.val 27)])],[.box 31 [.val 15],.box 237 [.val 35]]⟩ (λn=>kk4 (z2k φ n)) (λzk14=>(.seq .x (.body (.seq .x (.seq .x (.body (.loop ⟨[(96,[(1,.val 0),(2,.ptr 0 0),(7,.ptr 1 0),(9,.val 27),(37,.val 12),(38,.val 0),(39,.val 0)])],[.box 31 [.val 15],.box 237 [.val 35]]⟩ (λn z=>z2l φ (λa0 a1 a2 a3=>zk14 (a0,a1,a2,a3,())) n z.1 z.2.1 z.2.2.1 z.2.2.2.1 z.2.2.2.2.1 z.2.2.2.2.2.1 z.2.2.2.2.2.2.1) (λzk22=>.x))))))))))) (.seq .x (.seq (.seq .x (.body (.loop ⟨[(96,[(1,.val 0),(7,.ptr 0 0),(13,.own 1),(77,.val 0),(78,.val 0)])],[.box 237 [.val 35],.row 157 11]⟩ (λn=>kk5 (z2m φ n)) (λzk28=>.x)))) .x)))))))))
def zh4(P:Program)(φ:Nat):Env TV:=⟨P,lk [(74,z8c φ),(75,z52 φ)],lk [],lk [],lk []⟩
theorem zwr(φ:Nat)(a):(zh5 φ).F a=fnX TV (zh4 Tryz.prog φ) φ Tryz.f102 [15,0] [.val 12,.val 0] (zbx φ) a:=by kernel_rfl
theorem zwq(φ:Nat):fnO TV (zh4 Tryz.prog φ) φ Tryz.f102 [.val 12,.val 0] (zbx φ):=by
 unfold fnO;show obl _ _ _ _ _ _ _ _;unfold zbx
 repeat' (first|exact trivial |(refine⟨?_,?_⟩) |(intro _)|kernel_rfl)
theorem zwp[Dr](φ:Nat):z0h TV Tryz.prog 102 (zh5 φ):=z0l (N:=zh4 Tryz.prog φ) (zq ⟨zh0 φ,z8f φ,trivial⟩ trivial trivial trivial) (zbx φ) Tryz.func102 (by kernel_rfl) (zwr φ) (zwq φ)
def z6y(φ:Nat):H TV (RTup TT [.val 27]):=.x
def z9n(P:Program)(φ:Nat):Env TV:=⟨P,lk [],lk [],lk [],lk []⟩
theorem zo3(φ:Nat)(a b):(z9o φ).F a b=fnXc TV (z9n Tryz.prog φ) φ Tryz.f104 [11] [.b (.val 29)] [.val 27] (z6y φ) a b:=by kernel_rfl
theorem zo2(φ:Nat):fnO TV (z9n Tryz.prog φ) φ Tryz.f104 [.val 27] (z6y φ):=by
 unfold fnO;show obl _ _ _ _ _ _ _ _;unfold z6y
 repeat' (first|exact trivial |(refine⟨?_,?_⟩) |(intro _)|kernel_rfl)
theorem zo1[Dr](φ:Nat):y75 TV Tryz.prog 104 (z9o φ):=ygl (N:=z9n Tryz.prog φ) (zq trivial trivial trivial trivial) (z6y φ) Tryz.func104 (by kernel_rfl) (zo3 φ) (zo2 φ)
def z8b(φ:Nat):H TV (RTup TT [.val 0,.val 27]):=(.seq .x (.seq .x (.seq .x (.seq (.join ⟨[(97,[(3,.ptr 0 0),(4,.ptr 1 0),(5,.ptr 2 0),(8,.val 0)])],[.box 36 [.val 26],.box 64 [.val 29],.box 66 [.val 30]]⟩ (kk4 (z1q φ)) (.seq .x .x)) (.seq .x (.seq (.ins 2 103 (.seq .x (.seq (.seq .x (.body (.loop ⟨[(19,[(0,.val 12),(1,.func 104 [.ptr 0 0]),(7,.val 0),(8,.val 0)]),(97,[(4,.ptr 0 0),(5,.ptr 1 0),(8,.val 0),(12,.val 12)])],[.box 64 [.val 29],.box 66 [.val 30]]⟩ (λn=>kk7 (z3h φ n)) (λzk18=>.x)))) .x)) .x) .x))))))
def zcs(P:Program)(φ:Nat):Env TV:=⟨P,lk [(100,z9x φ),(101,zh2 φ),(102,zh5 φ)],lk [],lk [(104,z9o φ)],lk []⟩
theorem zri(φ:Nat)(a):(z6i φ).F a=fnX TV (zcs Tryz.prog φ) φ Tryz.f57 [26,29,30] [.val 0,.val 27] (z8b φ) a:=by kernel_rfl
theorem zrh(φ:Nat):fnO TV (zcs Tryz.prog φ) φ Tryz.f57 [.val 0,.val 27] (z8b φ):=by
 unfold fnO;show obl _ _ _ _ _ _ _ _;unfold z8b
 repeat' (first|exact trivial |(refine⟨?_,?_⟩) |(intro _)|kernel_rfl)
theorem zct[Dr](φ:Nat):z0h TV Tryz.prog 57 (z6i φ):=z0l (N:=zcs Tryz.prog φ) (zq ⟨zoi φ,zwm φ,zwp φ,trivial⟩ trivial ⟨zo1 φ,trivial⟩ trivial) (z8b φ) Tryz.func57 (by kernel_rfl) (zri φ) (zrh φ)
def zad(φ:Nat):H TV (RTup TT [.val 0,.val 27,.val 0]):=.x
def zey(P:Program)(φ:Nat):Env TV:=⟨P,lk [(34,z4z φ),(48,z5p φ),(49,z6h φ),(57,z6i φ)],lk [],lk [],lk []⟩
theorem ztp(φ:Nat)(a):(zez φ).F a=fnX TV (zey Tryz.prog φ) φ Tryz.f20 [26,29,30] [.val 0,.val 27,.val 0] (zad φ) a:=by kernel_rfl
theorem zto(φ:Nat):fnO TV (zey Tryz.prog φ) φ Tryz.f20 [.val 0,.val 27,.val 0] (zad φ):=by
 unfold fnO;show obl _ _ _ _ _ _ _ _;unfold zad
 repeat' (first|exact trivial |(refine⟨?_,?_⟩) |(intro _)|kernel_rfl)
theorem ztn[Dr](φ:Nat):z0h TV Tryz.prog 20 (zez φ):=z0l (N:=zey Tryz.prog φ) (zq ⟨z9r φ,zbh φ,zcr φ,zct φ,trivial⟩ trivial trivial trivial) (zad φ) Tryz.func20 (by kernel_rfl) (ztp φ) (zto φ)
def zbz(φ:Nat):H TV (RTup TT [.val 27]):=.x
def zhd(P:Program)(φ:Nat):Env TV:=⟨P,lk [(27,zeo φ),(20,zez φ)],lk [],lk [],lk []⟩
theorem zx6(φ:Nat)(a):(zhe φ).F a=fnX TV (zhd Tryz.prog φ) φ Tryz.f25 [0,0,0,0] [.val 27] (zbz φ) a:=by kernel_rfl
theorem zx5(φ:Nat):fnO TV (zhd Tryz.prog φ) φ Tryz.f25 [.val 27] (zbz φ):=by
 unfold fnO;show obl _ _ _ _ _ _ _ _;unfold zbz
 repeat' (first|exact trivial |(refine⟨?_,?_⟩) |(intro _)|kernel_rfl)
theorem zx4[Dr](φ:Nat):z0h TV Tryz.prog 25 (zhe φ):=z0l (N:=zhd Tryz.prog φ) (zq ⟨zpl φ,ztn φ,trivial⟩ trivial trivial trivial) (zbz φ) Tryz.func25 (by kernel_rfl) (zx6 φ) (zx5 φ)
def zbu(φ:Nat):H TV (RTup TT [.val 40,.val 0]):=(.seq .x (.seq .x (.seq .x (.seq (.seq .x (.body (.loop ⟨[(99,[(1,.val 36),(2,.val 37),(3,.ptr 0 0),(6,.ptr 1 0),(9,.val 0),(10,.val 0),(22,.val 36),(23,.val 0),(24,.val 0)])],[.box 36 [.val 26],.box 54 [.own 2,.own 3],.row 3 0,.row 119 38]⟩ (λn=>kk10 (z2i φ n)) (λzk15=>.x)))) (.seq (.seq .x (.body (.loop ⟨[(99,[(1,.val 36),(2,.val 37),(3,.ptr 0 0),(6,.ptr 1 0),(9,.val 0),(10,.val 0),(45,.val 37),(46,.val 0),(47,.val 0)])],[.box 36 [.val 26],.box 54 [.own 2,.own 3],.row 3 0,.row 119 38]⟩ (λn=>kk10 (z1d φ n)) (λzk27=>.x)))) (.seq .x (.seq .x (.seq (.join ⟨[(99,[(6,.ptr 0 0)])],[.box 54 [.own 1,.own 2],.row 3 0,.row 119 38]⟩ (kk2 (z0x φ)) (.seq .x (.body (.rf 13 0 95 (.seq .x (.seq (.seq .x (.body (.loop ⟨[(112,[(0,.own 0),(1,.ptr 1 0),(2,.ptr 2 0),(3,.ptr 3 0),(5,.val 0),(6,.val 0),(22,.val 36),(23,.val 0),(24,.val 0)]),(100,[(6,.ptr 4 0),(99,.own 0)])],[.emp,.box 37 [.val 36],.box 38 [.val 37],.box 36 [.val 26],.box 54 [.own 5,.own 6],.row 3 0,.row 119 38]⟩ (λn=>kk10 (z1e φ n)) (λzk42=>(.seq .x (.seq .x (.seq (.body (.seq .x (.seq .x (.body (.loop ⟨[(112,[(0,.own 0),(1,.ptr 1 0),(2,.ptr 2 0),(3,.ptr 3 0),(5,.val 0),(6,.val 0),(7,.val 0),(8,.ptr 4 0),(22,.val 36),(23,.val 0),(24,.val 0),(29,.val 37),(30,.val 0),(31,.val 0)]),(100,[(6,.ptr 5 0),(99,.own 0)])],[.emp,.box 37 [.val 36],.box 38 [.val 37],.box 36 [.val 26],.box 64 [.val 29],.box 54 [.own 6,.own 7],.row 3 0,.row 119 38]⟩ (λn z=>z0w φ (λa0 a1 a2 a3 a4 a5 a6 a7 a8 a9=>zk42 (a0,a1,a2,a3,a4,a5,a6,a7,a8,a9,())) n z.1 z.2.1 z.2.2.1 z.2.2.2.1 z.2.2.2.2.1 z.2.2.2.2.2.1 z.2.2.2.2.2.2.1 z.2.2.2.2.2.2.2.1 z.2.2.2.2.2.2.2.2.1 z.2.2.2.2.2.2.2.2.2.1 z.2.2.2.2.2.2.2.2.2.2.1 z.2.2.2.2.2.2.2.2.2.2.2.1 z.2.2.2.2.2.2.2.2.2.2.2.2.1 z.2.2.2.2.2.2.2.2.2.2.2.2.2.1 z.2.2.2.2.2.2.2.2.2.2.2.2.2.2.1) (λzk58=>(.seq .x (.seq .x (.seq (.body (.seq .x (.seq .x (.seq (.yl 15 13 0 .x .x) .x)))) .x))))))))) .x))))))) (.seq (.seq .x (.body (.loop ⟨[(112,[(0,.own 0),(1,.ptr 1 0),(5,.val 0),(6,.val 0),(63,.val 37),(64,.val 0),(65,.val 0)]),(100,[(6,.ptr 2 0),(99,.own 0)])],[.emp,.box 37 [.val 36],.box 54 [.own 3,.own 4],.row 3 0,.row 119 38]⟩ (λn=>kk8 (z0r φ n)) (λzk68=>(.seq .x (.seq .x (.seq (.body (.seq .x (.seq .x (.seq (.yl 11 13 0 .x .x) .x)))) .x))))))) (.seq (.seq .x (.body (.loop ⟨[(112,[(0,.own 0),(5,.val 0),(6,.val 0),(88,.val 36),(89,.val 0),(90,.val 0)]),(100,[(6,.ptr 1 0),(99,.own 0)])],[.emp,.box 54 [.own 2,.own 3],.row 3 0,.row 119 38]⟩ (λn=>kk7 (z1f φ n)) (λzk76=>(.seq .x (.seq .x (.seq (.body (.seq .x (.seq (.yl 7 13 0 .x .x) .x))) .x))))))) (.yl 6 13 0 .x .x))))))))) .x))))))))
def zgv(P:Program)(φ:Nat):Env TV:=⟨P,lk [(34,z4z φ),(48,z5p φ),(49,z6h φ),(57,z6i φ)],lk [],lk [],lk []⟩
theorem zwe(φ:Nat)(a):(zgw φ).F a=fnX TV (zgv Tryz.prog φ) φ Tryz.f13 [26,36,37] [.val 40,.val 0] (zbu φ) a:=by kernel_rfl
theorem zwd(φ:Nat):fnO TV (zgv Tryz.prog φ) φ Tryz.f13 [.val 40,.val 0] (zbu φ):=by
 unfold fnO;show obl _ _ _ _ _ _ _ _;unfold zbu
 repeat' (first|exact trivial |(refine⟨?_,?_⟩) |(intro _)|kernel_rfl)
theorem zwc[Dr](φ:Nat):z0h TV Tryz.prog 13 (zgw φ):=z0l (N:=zgv Tryz.prog φ) (zq ⟨z9r φ,zbh φ,zcr φ,zct φ,trivial⟩ trivial trivial trivial) (zbu φ) Tryz.func13 (by kernel_rfl) (zwe φ) (zwd φ)
def zaf(φ:Nat):H TV (RTup TT [.val 27]):=.x
def zfa(P:Program)(φ:Nat):Env TV:=⟨P,lk [],lk [],lk [],lk []⟩
theorem ztx(φ:Nat)(a):(z7j φ).F a=fnX TV (zfa Tryz.prog φ) φ Tryz.f69 [0,0,0] [.val 27] (zaf φ) a:=by kernel_rfl
theorem ztw(φ:Nat):fnO TV (zfa Tryz.prog φ) φ Tryz.f69 [.val 27] (zaf φ):=by
 unfold fnO;show obl _ _ _ _ _ _ _ _;unfold zaf
 repeat' (first|exact trivial |(refine⟨?_,?_⟩) |(intro _)|kernel_rfl)
theorem zfb[Dr](φ:Nat):z0h TV Tryz.prog 69 (z7j φ):=z0l (N:=zfa Tryz.prog φ) (zq trivial trivial trivial trivial) (zaf φ) Tryz.func69 (by kernel_rfl) (ztx φ) (ztw φ)
def zek(φ:Nat):H TV (RTup TT [.val 0]):=(.seq .x (.seq .x (.seq .x (.seq (.seq .x (.body (.loop ⟨[(79,[(1,.ptr 0 0),(3,.val 0),(19,.val 22),(20,.val 0),(21,.val 0)])],[.box 54 [.val 40]]⟩ (λn=>kk5 (z71 φ n)) (λzk7=>.x)))) (.seq (.seq .x (.body (.loop ⟨[(79,[(1,.ptr 0 0),(3,.val 0),(33,.val 39),(34,.val 0),(35,.val 0)])],[.box 54 [.val 40]]⟩ (λn=>kk5 (z3c φ n)) (λzk14=>.x)))) .x)))))
def zjg(P:Program)(φ:Nat):Env TV:=⟨P,lk [(69,z7j φ)],lk [],lk [],lk []⟩
theorem y0h(φ:Nat)(a):(zav φ).F a=fnX TV (zjg Tryz.prog φ) φ Tryz.f67 [40] [.val 0] (zek φ) a:=by kernel_rfl
theorem y0g(φ:Nat):fnO TV (zjg Tryz.prog φ) φ Tryz.f67 [.val 0] (zek φ):=by
 unfold fnO;show obl _ _ _ _ _ _ _ _;unfold zek
 repeat' (first|exact trivial |(refine⟨?_,?_⟩) |(intro _)|kernel_rfl)
theorem zjh[Dr](φ:Nat):z0h TV Tryz.prog 67 (zav φ):=z0l (N:=zjg Tryz.prog φ) (zq ⟨zfb φ,trivial⟩ trivial trivial trivial) (zek φ) Tryz.func67 (by kernel_rfl) (y0h φ) (y0g φ)
end Px
end
section
set_option maxHeartbeats 4000000
set_option maxRecDepth 100000
namespace Px
open Go Go.RowKit Go.Proofs
theorem zmt(φ:Nat)(k47 :((List Int)->(List Arc)->(List Int)->(List Int)->(List Int)->(List (List Int))->(List (List Int))->(List Int)->(List Int)->Option (Flow×Int×Unit)))(x224 :(List Int))(x225 :(List Arc))(x226 :(List Int))(x227 :(List Int))(x228 :(List zk))(x229 :(List Int))(x230 :(List Int))(x231 :(List Int))(x232 :(List (List Int)))(x233 :(List (List Int)))(x234 :(List Int))(x235 :(List Int)):z87 (z8j φ k47 x224 x225 x226 x227 x228 x229 x230 x231 x232 x233 x234 x235) (zbi φ k47 x224 x225 x226 x227 x228 x229 x230 x231 x232 x233 x234 x235):=by
 unfold z8j;unfold zbi
 repeat' (first|exact z87.one|exact z87.nil|refine z87.cons ?_ ?_|refine z87.ck ?_|exact z87.same (n:=2) rfl|exact z87.same (n:=3) rfl|exact z87.same (n:=4) rfl|exact z87.same (n:=6) rfl|refine z87.bind λ_=>?_)
theorem zmu(φ:Nat)(k47 :((List Int)->(List Arc)->(List Int)->(List Int)->(List Int)->(List (List Int))->(List (List Int))->(List Int)->(List Int)->Option (Flow×Int×Unit)))(x279:Int)(x280 :(List Int))(x281 :(List Arc))(x282 :(List Int))(x283 :(List Int))(x284 :(List Int))(x285 :(List (List Int)))(x286 :(List (List Int)))(x287 :(List Int))(x288 :(List Int))(x289 :(List zk))(x290 :(List Int))(x291 :(List Int)):z87 (z8k φ k47 x279 x280 x281 x282 x283 x284 x285 x286 x287 x288 x289 x290 x291) (zbj φ k47 x279 x280 x281 x282 x283 x284 x285 x286 x287 x288 x289 x290 x291):=by
 refine⟨λr h=>?_⟩;unfold z8k at h;unfold zbj
 repeat (with_reducible (replace h:=ckS h);obtain⟨_,h⟩:=h)
 change Good r _
 repeat' (with_reducible first|assumption|exact Good.nil|refine Good.one ?_|refine Good.cons ?_ ?_|refine Good.ck ?_ ?_)
theorem zmv(φ:Nat)(x293:Int)(x294:zc)(x295 :(List Int))(x296 :(List Int)):z87 (z8l φ x293 x294 x295 x296) (zbk φ x293 x294 x295 x296):=by
 refine⟨λr h=>?_⟩;unfold z8l at h;unfold zbk
 repeat (first|unfold zb|unfold z0g|unfold ze|unfold z18|unfold z72|unfold z19|unfold z09|unfold z3i|unfold z9s|unfold zz|unfold z3j|unfold z1j|unfold z8m|unfold z0p)
 repeat (with_reducible (replace h:=ckS h);obtain⟨_,h⟩:=h)
 change Good r _
 repeat' (with_reducible first|assumption|exact Good.nil|refine Good.one ?_|refine Good.cons ?_ ?_|refine Good.ck ?_ ?_)
def zel(φ:Nat):H TV (RTup TT [.val 41,.val 0]):=(.seq .x (.seq .x (.seq (.ins 1 113 (.seq .x (.seq .x (.seq (.join ⟨[(73,[(1,.ptr 0 0),(4,.ptr 1 0)]),(27,[(2,.ptr 2 0)])],[.box 54 [.val 40],.box 200 [.val 22,.val 39,.own 3,.own 4,.own 5,.own 6,.own 7],.box 88 [.own 8,.own 9],.row 3 0,.row 3 0,.row 3 0,.nst 40 3 22 none,.nst 40 3 22 none,.row 3 0,.row 3 0]⟩ (kk10 (zf7 φ)) (.alt ⟨[(73,[(1,.ptr 0 0),(3,.val 0)]),(27,[(2,.ptr 1 0)])],[.box 54 [.val 40],.box 88 [.own 2,.own 3],.row 3 0,.row 3 0]⟩ (kk4 (z8l φ)) (kk4 (zbk φ)))) (.seq (.seq .x (.body (.loop ⟨[(73,[(4,.ptr 0 0),(28,.val 39),(29,.val 0),(30,.val 0)]),(27,[(2,.ptr 1 0)])],[.box 200 [.val 22,.val 39,.own 2,.own 3,.own 4,.own 5,.own 6],.box 88 [.own 7,.own 8],.row 3 0,.row 3 0,.row 3 0,.nst 40 3 22 none,.nst 40 3 22 none,.row 3 0,.row 3 0]⟩ (λn=>kk12 (zf4 φ n)) (λzk26=>(.seq .x (.seq .x (.seq (.body (.seq .x (.seq (.foc (4,some 5) (6,some 0) .x) (.foc (4,some 6) (6,some 1) .x)))) .x))))))) .x)))) .x) (.seq (.seq (.join ⟨[(27,[(2,.ptr 0 0),(5,.ptr 1 0),(16,.val 27)])],[.box 88 [.own 2,.own 3],.box 200 [.val 22,.val 39,.own 4,.own 5,.own 6,.own 7,.own 8],.row 3 0,.row 3 0,.row 3 0,.row 3 0,.row 3 0,.nst 40 3 22 none,.nst 40 3 22 none]⟩ (kk10 (zf8 φ)) (.ins 1 114 (.seq .x (.seq (.body (.loop ⟨[(19,[(0,.ptr 0 0)]),(27,[(2,.ptr 1 0),(5,.ptr 0 0)])],[.box 200 [.val 22,.val 39,.own 2,.own 3,.own 4,.own 5,.own 6],.box 88 [.own 7,.own 8],.row 3 0,.row 3 0,.row 3 0,.nst 40 3 22 none,.nst 40 3 22 none,.row 3 0,.row 3 0]⟩ (λn=>kk9 (zf5 φ n)) (λzk47=>(.seq (.seq (.join ⟨[(19,[(0,.ptr 0 0),(6,.val 27)]),(27,[(2,.ptr 1 0),(5,.ptr 0 0)])],[.box 200 [.val 22,.val 39,.own 2,.own 3,.own 4,.own 5,.own 6],.box 88 [.own 7,.own 8],.row 3 0,.row 3 0,.row 3 0,.nst 40 3 22 none,.nst 40 3 22 none,.row 3 0,.row 3 0]⟩ (λz=>zf9 φ (λa0 a1 a2 a3 a4 a5 a6 a7 a8=>zk47 (a0,a1,a2,a3,a4,a5,a6,a7,a8,())) z.1 z.2.1 z.2.2.1 z.2.2.2.1 z.2.2.2.2.1 z.2.2.2.2.2.1 z.2.2.2.2.2.2.1 z.2.2.2.2.2.2.2.1 z.2.2.2.2.2.2.2.2.1 z.2.2.2.2.2.2.2.2.2.1) (.ins 1 163 (.seq .x (.seq (.ins 1 189 (.seq .x (.body (.seq .x (.seq (.join ⟨[(121,[(0,.ptr 0 0),(2,.ptr 1 0),(3,.ptr 2 0),(4,.ptr 3 0),(5,.val 0)]),(193,[(0,.ptr 0 0)]),(19,[(0,.ptr 0 0)]),(27,[(2,.ptr 4 0),(5,.ptr 0 0)])],[.box 200 [.val 22,.val 39,.own 5,.own 6,.own 7,.own 8,.own 9],.box 40 [.own 10],.box 40 [.own 11],.box 260 [.own 12],.box 88 [.own 13,.own 14],.row 3 0,.row 3 0,.row 3 0,.nst 40 3 22 none,.nst 40 3 22 none,.row 3 0,.row 3 0,.row 264 43,.row 3 0,.row 3 0]⟩ (λz=>z01 φ (λa0 a1 a2 a3 a4 a5 a6 a7 a8=>zk47 (a0,a1,a2,a3,a4,a5,a6,a7,a8,())) z.1 z.2.1 z.2.2.1 z.2.2.2.1 z.2.2.2.2.1 z.2.2.2.2.2.1 z.2.2.2.2.2.2.1 z.2.2.2.2.2.2.2.1 z.2.2.2.2.2.2.2.2.1 z.2.2.2.2.2.2.2.2.2.1 z.2.2.2.2.2.2.2.2.2.2.1 z.2.2.2.2.2.2.2.2.2.2.2.1 z.2.2.2.2.2.2.2.2.2.2.2.2.1) (.alt ⟨[(121,[(0,.ptr 0 0),(2,.ptr 1 0),(3,.ptr 2 0),(4,.ptr 3 0),(5,.val 0)]),(193,[(0,.ptr 0 0)]),(19,[(0,.ptr 0 0)]),(27,[(2,.ptr 4 0),(5,.ptr 0 0)])],[.box 200 [.val 22,.val 39,.own 5,.own 6,.own 7,.own 8,.own 9],.box 40 [.own 10],.box 40 [.own 11],.box 260 [.own 12],.box 88 [.own 13,.own 14],.row 3 0,.row 3 0,.row 3 0,.nst 40 3 22 none,.nst 40 3 22 none,.row 3 0,.row 3 0,.row 264 43,.row 3 0,.row 3 0]⟩ (λz=>z8k φ (λa0 a1 a2 a3 a4 a5 a6 a7 a8=>zk47 (a0,a1,a2,a3,a4,a5,a6,a7,a8,())) z.1 z.2.1 z.2.2.1 z.2.2.2.1 z.2.2.2.2.1 z.2.2.2.2.2.1 z.2.2.2.2.2.2.1 z.2.2.2.2.2.2.2.1 z.2.2.2.2.2.2.2.2.1 z.2.2.2.2.2.2.2.2.2.1 z.2.2.2.2.2.2.2.2.2.2.1 z.2.2.2.2.2.2.2.2.2.2.2.1 z.2.2.2.2.2.2.2.2.2.2.2.2.1) (λz=>zbj φ (λa0 a1 a2 a3 a4 a5 a6 a7 a8=>zk47 (a0,a1,a2,a3,a4,a5,a6,a7,a8,())) z.1 z.2.1 z.2.2.1 z.2.2.2.1 z.2.2.2.2.1 z.2.2.2.2.2.1 z.2.2.2.2.2.2.1 z.2.2.2.2.2.2.2.1 z.2.2.2.2.2.2.2.2.1 z.2.2.2.2.2.2.2.2.2.1 z.2.2.2.2.2.2.2.2.2.2.1 z.2.2.2.2.2.2.2.2.2.2.2.1 z.2.2.2.2.2.2.2.2.2.2.2.2.1))) (.seq (.seq .x (.body (.loop ⟨[(121,[(0,.ptr 0 0),(2,.ptr 1 0),(3,.ptr 2 0),(4,.ptr 3 0),(5,.val 0),(23,.val 0),(24,.val 0)]),(193,[(0,.ptr 0 0)]),(19,[(0,.ptr 0 0)]),(27,[(2,.ptr 4 0),(5,.ptr 0 0)])],[.box 200 [.val 22,.val 39,.own 5,.own 6,.own 7,.own 8,.own 9],.box 40 [.own 10],.box 40 [.own 11],.box 260 [.own 12],.box 88 [.own 13,.own 14],.row 3 0,.row 3 0,.row 3 0,.nst 40 3 22 none,.nst 40 3 22 none,.row 3 0,.row 3 0,.row 264 43,.row 3 0,.row 3 0]⟩ (λn z=>z8g φ (λa0 a1 a2 a3 a4 a5 a6 a7 a8=>zk47 (a0,a1,a2,a3,a4,a5,a6,a7,a8,())) n z.1 z.2.1 z.2.2.1 z.2.2.2.1 z.2.2.2.2.1 z.2.2.2.2.2.1 z.2.2.2.2.2.2.1 z.2.2.2.2.2.2.2.1 z.2.2.2.2.2.2.2.2.1 z.2.2.2.2.2.2.2.2.2.1 z.2.2.2.2.2.2.2.2.2.2.1 z.2.2.2.2.2.2.2.2.2.2.2.1 z.2.2.2.2.2.2.2.2.2.2.2.2.1 z.2.2.2.2.2.2.2.2.2.2.2.2.2.1 z.2.2.2.2.2.2.2.2.2.2.2.2.2.2.1) (λzk100=>.x)))) (.seq .x (.seq .x (.seq (.body (.loop ⟨[(121,[(0,.ptr 0 0),(2,.ptr 1 0),(3,.ptr 2 0),(4,.ptr 3 0),(5,.val 0),(7,.own 4)]),(193,[(0,.ptr 0 0)]),(19,[(0,.ptr 0 0)]),(27,[(2,.ptr 5 0),(5,.ptr 0 0)])],[.box 200 [.val 22,.val 39,.own 6,.own 7,.own 8,.own 9,.own 10],.box 40 [.own 11],.box 40 [.own 12],.box 260 [.own 13],.fix 4 27,.box 88 [.own 14,.own 15],.row 3 0,.row 3 0,.row 3 0,.nst 40 3 22 none,.nst 40 3 22 none,.row 3 0,.row 3 0,.row 264 43,.row 3 0,.row 3 0]⟩ (λn z=>zd1 φ (λa0 a1 a2 a3 a4 a5 a6 a7 a8=>zk47 (a0,a1,a2,a3,a4,a5,a6,a7,a8,())) n z.1 z.2.1 z.2.2.1 z.2.2.2.1 z.2.2.2.2.1 z.2.2.2.2.2.1 z.2.2.2.2.2.2.1 z.2.2.2.2.2.2.2.1 z.2.2.2.2.2.2.2.2.1 z.2.2.2.2.2.2.2.2.2.1 z.2.2.2.2.2.2.2.2.2.2.1 z.2.2.2.2.2.2.2.2.2.2.2.1 z.2.2.2.2.2.2.2.2.2.2.2.2.1 z.2.2.2.2.2.2.2.2.2.2.2.2.2.1) (λzk115=>(.body (.seq .x (.seq (.seq .x (.body (.loop ⟨[(121,[(0,.ptr 0 0),(2,.ptr 1 0),(3,.ptr 2 0),(4,.ptr 3 0),(5,.val 0),(7,.own 4),(8,.ptr 5 0),(47,.val 0),(48,.val 0)]),(193,[(0,.ptr 0 0)]),(19,[(0,.ptr 0 0)]),(27,[(2,.ptr 6 0),(5,.ptr 0 0)])],[.box 200 [.val 22,.val 39,.own 7,.own 8,.own 9,.own 10,.own 11],.box 40 [.own 12],.box 40 [.own 13],.box 260 [.own 14],.fix 4 27,.box 3 [.val 0],.box 88 [.own 15,.own 16],.row 3 0,.row 3 0,.row 3 0,.nst 40 3 22 none,.nst 40 3 22 none,.row 3 0,.row 3 0,.row 264 43,.row 3 0,.row 3 0]⟩ (λn z=>z8h φ (λa0 a1 a2 a3 a4 a5 a6 a7 a8=>zk47 (a0,a1,a2,a3,a4,a5,a6,a7,a8,())) (λa0 a1 a2 a3 a4 a5 a6 a7 a8 a9 a10 a11 a12 a13=>zk115 (a0,a1,a2,a3,a4,a5,a6,a7,a8,a9,a10,a11,a12,a13,())) n z.1 z.2.1 z.2.2.1 z.2.2.2.1 z.2.2.2.2.1 z.2.2.2.2.2.1 z.2.2.2.2.2.2.1 z.2.2.2.2.2.2.2.1 z.2.2.2.2.2.2.2.2.1 z.2.2.2.2.2.2.2.2.2.1 z.2.2.2.2.2.2.2.2.2.2.1 z.2.2.2.2.2.2.2.2.2.2.2.1 z.2.2.2.2.2.2.2.2.2.2.2.2.1 z.2.2.2.2.2.2.2.2.2.2.2.2.2.1 z.2.2.2.2.2.2.2.2.2.2.2.2.2.2.1 z.2.2.2.2.2.2.2.2.2.2.2.2.2.2.2.1 z.2.2.2.2.2.2.2.2.2.2.2.2.2.2.2.2.1) (λzk133=>.x)))) (.seq .x (.seq .x (.seq .x (.body (.rf 189 0 201 (.seq (.seq (.foc (1,some 1005) (2,some 0) .x) (.body (.loop ⟨[(137,[(0,.own 0),(1,.ptr 1 0),(2,.ptr 2 0),(17,.own 3),(18,.val 0),(19,.val 0)]),(122,[(0,.ptr 4 0),(2,.ptr 5 0),(3,.ptr 6 0),(4,.ptr 7 0),(5,.val 0),(7,.own 8),(8,.ptr 9 0),(121,.own 0)]),(193,[(0,.ptr 4 0)]),(19,[(0,.ptr 4 0)]),(27,[(2,.ptr 10 0),(5,.ptr 4 0)])],[.emp,.box 196 [.ptr 4 0],.box 3 [.val 0],.row 3 0,.box 200 [.val 22,.val 39,.own 11,.own 12,.own 13,.own 14,.own 15],.box 40 [.own 16],.box 40 [.own 17],.box 260 [.own 18],.fix 4 27,.box 3 [.val 0],.box 88 [.own 19,.own 20],.row 3 0,.row 3 0,.row 3 0,.nst 40 3 22 (some 3),.nst 40 3 22 none,.row 3 0,.row 3 0,.row 264 43,.row 3 0,.row 3 0]⟩ (λn z=>z6k φ (λa0 a1 a2 a3 a4 a5 a6 a7 a8 a9 a10 a11 a12 a13=>zk115 (a0,a1,a2,a3,a4,a5,a6,a7,a8,a9,a10,a11,a12,a13,())) n z.1 z.2.1 z.2.2.1 z.2.2.2.1 z.2.2.2.2.1 z.2.2.2.2.2.1 z.2.2.2.2.2.2.1 z.2.2.2.2.2.2.2.1 z.2.2.2.2.2.2.2.2.1 z.2.2.2.2.2.2.2.2.2.1 z.2.2.2.2.2.2.2.2.2.2.1 z.2.2.2.2.2.2.2.2.2.2.2.1 z.2.2.2.2.2.2.2.2.2.2.2.2.1 z.2.2.2.2.2.2.2.2.2.2.2.2.2.1 z.2.2.2.2.2.2.2.2.2.2.2.2.2.2.1 z.2.2.2.2.2.2.2.2.2.2.2.2.2.2.2.1 z.2.2.2.2.2.2.2.2.2.2.2.2.2.2.2.2.1 z.2.2.2.2.2.2.2.2.2.2.2.2.2.2.2.2.2.1 z.2.2.2.2.2.2.2.2.2.2.2.2.2.2.2.2.2.2.1 z.2.2.2.2.2.2.2.2.2.2.2.2.2.2.2.2.2.2.2.1) (λzk257=>(.seq .x (.seq .x (.seq (.body (.seq .x (.seq .x (.seq .x (.seq (.yl 28 189 0 .x .x) .x))))) .x))))))) (.seq (.foc (1,some 1006) (2,some 0) .x) (.body (.loop ⟨[(137,[(0,.own 0),(1,.ptr 1 0),(2,.ptr 2 0),(79,.own 3),(80,.val 0),(81,.val 0)]),(122,[(0,.ptr 4 0),(2,.ptr 5 0),(3,.ptr 6 0),(4,.ptr 7 0),(5,.val 0),(7,.own 8),(8,.ptr 9 0),(121,.own 0)]),(193,[(0,.ptr 4 0)]),(19,[(0,.ptr 4 0)]),(27,[(2,.ptr 10 0),(5,.ptr 4 0)])],[.emp,.box 196 [.ptr 4 0],.box 3 [.val 0],.row 3 0,.box 200 [.val 22,.val 39,.own 11,.own 12,.own 13,.own 14,.own 15],.box 40 [.own 16],.box 40 [.own 17],.box 260 [.own 18],.fix 4 27,.box 3 [.val 0],.box 88 [.own 19,.own 20],.row 3 0,.row 3 0,.row 3 0,.nst 40 3 22 none,.nst 40 3 22 (some 3),.row 3 0,.row 3 0,.row 264 43,.row 3 0,.row 3 0]⟩ (λn z=>z6l φ (λa0 a1 a2 a3 a4 a5 a6 a7 a8 a9 a10 a11 a12 a13=>zk115 (a0,a1,a2,a3,a4,a5,a6,a7,a8,a9,a10,a11,a12,a13,())) n z.1 z.2.1 z.2.2.1 z.2.2.2.1 z.2.2.2.2.1 z.2.2.2.2.2.1 z.2.2.2.2.2.2.1 z.2.2.2.2.2.2.2.1 z.2.2.2.2.2.2.2.2.1 z.2.2.2.2.2.2.2.2.2.1 z.2.2.2.2.2.2.2.2.2.2.1 z.2.2.2.2.2.2.2.2.2.2.2.1 z.2.2.2.2.2.2.2.2.2.2.2.2.1 z.2.2.2.2.2.2.2.2.2.2.2.2.2.1 z.2.2.2.2.2.2.2.2.2.2.2.2.2.2.1 z.2.2.2.2.2.2.2.2.2.2.2.2.2.2.2.1 z.2.2.2.2.2.2.2.2.2.2.2.2.2.2.2.2.1 z.2.2.2.2.2.2.2.2.2.2.2.2.2.2.2.2.2.1 z.2.2.2.2.2.2.2.2.2.2.2.2.2.2.2.2.2.2.1 z.2.2.2.2.2.2.2.2.2.2.2.2.2.2.2.2.2.2.2.1) (λzk278=>(.seq .x (.seq .x (.seq (.body (.seq .x (.seq .x (.seq (.yl 40 189 0 .x .x) .x)))) .x))))))))))))))))))) (.seq (.join ⟨[(121,[(2,.ptr 0 0),(3,.ptr 1 0),(4,.ptr 2 0)]),(193,[(0,.ptr 3 0)]),(19,[(0,.ptr 3 0)]),(27,[(2,.ptr 4 0),(5,.ptr 3 0)])],[.box 40 [.own 5],.box 40 [.own 6],.box 260 [.own 7],.box 200 [.val 22,.val 39,.own 8,.own 9,.own 10,.own 11,.own 12],.box 88 [.own 13,.own 14],.row 3 0,.row 3 0,.row 264 43,.row 3 0,.row 3 0,.row 3 0,.nst 40 3 22 none,.nst 40 3 22 none,.row 3 0,.row 3 0]⟩ (λz=>z0z φ (λa0 a1 a2 a3 a4 a5 a6 a7 a8=>zk47 (a0,a1,a2,a3,a4,a5,a6,a7,a8,())) z.1 z.2.1 z.2.2.1 z.2.2.2.1 z.2.2.2.2.1 z.2.2.2.2.2.1 z.2.2.2.2.2.2.1 z.2.2.2.2.2.2.2.1 z.2.2.2.2.2.2.2.2.1 z.2.2.2.2.2.2.2.2.2.1 z.2.2.2.2.2.2.2.2.2.2.1 z.2.2.2.2.2.2.2.2.2.2.2.1) (.alt ⟨[(121,[(2,.ptr 0 0),(3,.ptr 1 0),(4,.ptr 2 0)]),(193,[(0,.ptr 3 0)]),(19,[(0,.ptr 3 0)]),(27,[(2,.ptr 4 0),(5,.ptr 3 0)])],[.box 40 [.own 5],.box 40 [.own 6],.box 260 [.own 7],.box 200 [.val 22,.val 39,.own 8,.own 9,.own 10,.own 11,.own 12],.box 88 [.own 13,.own 14],.row 3 0,.row 3 0,.row 264 43,.row 3 0,.row 3 0,.row 3 0,.nst 40 3 22 none,.nst 40 3 22 none,.row 3 0,.row 3 0]⟩ (λz=>z8j φ (λa0 a1 a2 a3 a4 a5 a6 a7 a8=>zk47 (a0,a1,a2,a3,a4,a5,a6,a7,a8,())) z.1 z.2.1 z.2.2.1 z.2.2.2.1 z.2.2.2.2.1 z.2.2.2.2.2.1 z.2.2.2.2.2.2.1 z.2.2.2.2.2.2.2.1 z.2.2.2.2.2.2.2.2.1 z.2.2.2.2.2.2.2.2.2.1 z.2.2.2.2.2.2.2.2.2.2.1 z.2.2.2.2.2.2.2.2.2.2.2.1) (λz=>zbi φ (λa0 a1 a2 a3 a4 a5 a6 a7 a8=>zk47 (a0,a1,a2,a3,a4,a5,a6,a7,a8,())) z.1 z.2.1 z.2.2.1 z.2.2.2.1 z.2.2.2.2.1 z.2.2.2.2.2.1 z.2.2.2.2.2.2.1 z.2.2.2.2.2.2.2.1 z.2.2.2.2.2.2.2.2.1 z.2.2.2.2.2.2.2.2.2.1 z.2.2.2.2.2.2.2.2.2.2.1 z.2.2.2.2.2.2.2.2.2.2.2.1))) .x))))))))) .x) (.seq .x (.seq (.seq .x (.body (.loop ⟨[(193,[(0,.ptr 0 0),(3,.own 1),(4,.own 2),(5,.own 3),(6,.val 0),(7,.val 0),(21,.own 1),(22,.val 0),(23,.val 0)]),(19,[(0,.ptr 0 0)]),(27,[(2,.ptr 4 0),(5,.ptr 0 0)])],[.box 200 [.val 22,.val 39,.own 5,.own 6,.own 7,.own 8,.own 9],.row 3 0,.row 3 0,.row 264 43,.box 88 [.own 10,.own 11],.row 3 0,.row 3 0,.row 3 0,.nst 40 3 22 none,.nst 40 3 22 none,.row 3 0,.row 3 0]⟩ (λn z=>z6j φ (λa0 a1 a2 a3 a4 a5 a6 a7 a8=>zk47 (a0,a1,a2,a3,a4,a5,a6,a7,a8,())) n z.1 z.2.1 z.2.2.1 z.2.2.2.1 z.2.2.2.2.1 z.2.2.2.2.2.1 z.2.2.2.2.2.2.1 z.2.2.2.2.2.2.2.1 z.2.2.2.2.2.2.2.2.1 z.2.2.2.2.2.2.2.2.2.1 z.2.2.2.2.2.2.2.2.2.2.1 z.2.2.2.2.2.2.2.2.2.2.2.1 z.2.2.2.2.2.2.2.2.2.2.2.2.1 z.2.2.2.2.2.2.2.2.2.2.2.2.2.1 z.2.2.2.2.2.2.2.2.2.2.2.2.2.2.1 z.2.2.2.2.2.2.2.2.2.2.2.2.2.2.2.1) (λzk163=>.x)))) (.seq .x (.seq (.seq .x (.body (.loop ⟨[(193,[(0,.ptr 0 0),(4,.own 1),(5,.own 2),(6,.val 0),(7,.val 0),(57,.own 3),(58,.val 0),(59,.val 0)]),(19,[(0,.ptr 0 0)]),(27,[(2,.ptr 4 0),(5,.ptr 0 0)])],[.box 200 [.val 22,.val 39,.own 5,.own 6,.own 7,.own 8,.own 9],.row 3 0,.row 264 43,.row 3 0,.box 88 [.own 10,.own 11],.row 3 0,.row 3 0,.row 3 0,.nst 40 3 22 none,.nst 40 3 22 none,.row 3 0,.row 3 0]⟩ (λn z=>zd2 φ (λa0 a1 a2 a3 a4 a5 a6 a7 a8=>zk47 (a0,a1,a2,a3,a4,a5,a6,a7,a8,())) n z.1 z.2.1 z.2.2.1 z.2.2.2.1 z.2.2.2.2.1 z.2.2.2.2.2.1 z.2.2.2.2.2.2.1 z.2.2.2.2.2.2.2.1 z.2.2.2.2.2.2.2.2.1 z.2.2.2.2.2.2.2.2.2.1 z.2.2.2.2.2.2.2.2.2.2.1 z.2.2.2.2.2.2.2.2.2.2.2.1 z.2.2.2.2.2.2.2.2.2.2.2.2.1 z.2.2.2.2.2.2.2.2.2.2.2.2.2.1 z.2.2.2.2.2.2.2.2.2.2.2.2.2.2.1 z.2.2.2.2.2.2.2.2.2.2.2.2.2.2.2.1) (λzk180=>.x)))) (.seq .x (.seq (.body (.loop ⟨[(193,[(0,.ptr 0 0),(4,.own 1),(5,.own 2),(6,.val 0),(12,.val 0),(13,.val 0)]),(19,[(0,.ptr 0 0)]),(27,[(2,.ptr 3 0),(5,.ptr 0 0)])],[.box 200 [.val 22,.val 39,.own 4,.own 5,.own 6,.own 7,.own 8],.row 3 0,.row 264 43,.box 88 [.own 9,.own 10],.row 3 0,.row 3 0,.row 3 0,.nst 40 3 22 none,.nst 40 3 22 none,.row 3 0,.row 3 0]⟩ (λn z=>zd3 φ (λa0 a1 a2 a3 a4 a5 a6 a7 a8=>zk47 (a0,a1,a2,a3,a4,a5,a6,a7,a8,())) n z.1 z.2.1 z.2.2.1 z.2.2.2.1 z.2.2.2.2.1 z.2.2.2.2.2.1 z.2.2.2.2.2.2.1 z.2.2.2.2.2.2.2.1 z.2.2.2.2.2.2.2.2.1 z.2.2.2.2.2.2.2.2.2.1 z.2.2.2.2.2.2.2.2.2.2.1 z.2.2.2.2.2.2.2.2.2.2.2.1 z.2.2.2.2.2.2.2.2.2.2.2.2.1 z.2.2.2.2.2.2.2.2.2.2.2.2.2.1) (λzk195=>.x))) (.seq .x (.seq .x (.seq .x (.seq (.seq .x (.body (.loop ⟨[(193,[(0,.ptr 0 0),(4,.own 1),(5,.own 2),(12,.val 0),(13,.val 0)]),(19,[(0,.ptr 0 0)]),(27,[(2,.ptr 3 0),(5,.ptr 0 0)])],[.box 200 [.val 22,.val 39,.own 4,.own 5,.own 6,.own 7,.own 8],.row 3 0,.row 264 43,.box 88 [.own 9,.own 10],.row 3 0,.row 3 0,.row 3 0,.nst 40 3 22 none,.nst 40 3 22 none,.row 3 0,.row 3 0]⟩ (λn z=>z8i φ (λa0 a1 a2 a3 a4 a5 a6 a7 a8=>zk47 (a0,a1,a2,a3,a4,a5,a6,a7,a8,())) n z.1 z.2.1 z.2.2.1 z.2.2.2.1 z.2.2.2.2.1 z.2.2.2.2.2.1 z.2.2.2.2.2.2.1 z.2.2.2.2.2.2.2.1 z.2.2.2.2.2.2.2.2.1 z.2.2.2.2.2.2.2.2.2.1 z.2.2.2.2.2.2.2.2.2.2.1 z.2.2.2.2.2.2.2.2.2.2.2.1 z.2.2.2.2.2.2.2.2.2.2.2.2.1) (λzk209=>(.seq .x (.seq (.join ⟨[(193,[(0,.ptr 0 0),(4,.own 1),(5,.own 2),(12,.val 0),(13,.val 0)]),(19,[(0,.ptr 0 0)]),(27,[(2,.ptr 3 0),(5,.ptr 0 0)])],[.box 200 [.val 22,.val 39,.own 4,.own 5,.own 6,.own 7,.own 8],.row 3 0,.row 264 43,.box 88 [.own 9,.own 10],.row 3 0,.row 3 0,.row 3 0,.nst 40 3 22 none,.nst 40 3 22 none,.row 3 0,.row 3 0]⟩ (λz=>zd4 φ (λa0 a1 a2 a3 a4 a5 a6 a7 a8 a9 a10 a11 a12=>zk209 (a0,a1,a2,a3,a4,a5,a6,a7,a8,a9,a10,a11,a12,())) z.1 z.2.1 z.2.2.1 z.2.2.2.1 z.2.2.2.2.1 z.2.2.2.2.2.1 z.2.2.2.2.2.2.1 z.2.2.2.2.2.2.2.1 z.2.2.2.2.2.2.2.2.1 z.2.2.2.2.2.2.2.2.2.1 z.2.2.2.2.2.2.2.2.2.2.1 z.2.2.2.2.2.2.2.2.2.2.2.1 z.2.2.2.2.2.2.2.2.2.2.2.2.1) (.body .x)) .x)))))) .x)))))))))))) .x)) .x) .x)))) (.seq (.seq .x (.body (.loop ⟨[(19,[(10,.own 0),(11,.val 0),(12,.val 0)]),(27,[(2,.ptr 1 0),(5,.ptr 2 0)])],[.row 3 0,.box 88 [.own 3,.own 4],.box 200 [.val 22,.val 39,.own 5,.own 0,.own 6,.own 7,.own 8],.row 3 0,.row 3 0,.row 3 0,.row 3 0,.nst 40 3 22 none,.nst 40 3 22 none]⟩ (λn=>kk11 (zf6 φ n)) (λzk70=>.x)))) .x))) .x)) .x) .x))))
def zji(P:Program)(φ:Nat):Env TV:=⟨P,lk [(67,zav φ)],lk [],lk [],lk []⟩
theorem y0k(φ:Nat)(a):(zjj φ).F a=fnX TV (zji Tryz.prog φ) φ Tryz.f65 [40] [.val 41,.val 0] (zel φ) a:=by kernel_rfl
theorem y0j(φ:Nat):fnO TV (zji Tryz.prog φ) φ Tryz.f65 [.val 41,.val 0] (zel φ):=by
 unfold fnO;show obl _ _ _ _ _ _ _ _;unfold zel
 repeat' (first|exact trivial |(refine⟨?_,?_⟩) |(intro _) |(as_aux_lemma=>kernel_rfl)|exact zmt ..|exact zmu ..|exact zmv ..)
theorem y0i[Dr](φ:Nat):z0h TV Tryz.prog 65 (zjj φ):=z0l (N:=zji Tryz.prog φ) (zq ⟨zjh φ,trivial⟩ trivial trivial trivial) (zel φ) Tryz.func65 (by kernel_rfl) (y0k φ) (y0j φ)
end Px
end
section
set_option maxHeartbeats 4000000
set_option maxRecDepth 100000
namespace Px
open Go Go.RowKit Go.Proofs
def z8p(φ:Nat):H TV (RTup TT [.val 27]):=(.seq .x (.seq .x (.seq .x (.seq (.seq .x (.body (.loop ⟨[(72,[(3,.ptr 0 0),(5,.own 1),(22,.val 39),(23,.val 0),(24,.val 0)])],[.box 88 [.val 41],.row 3 0]⟩ (λn=>kk5 (z2y φ n)) (λzk8=>.x)))) (.seq (.seq .x (.body (.loop ⟨[(72,[(63,.own 0),(64,.val 0),(65,.val 0)])],[.row 3 0]⟩ (λn=>kk3 (z1a φ n)) (λzk13=>.x)))) .x)))))
def zd5(P:Program)(φ:Nat):Env TV:=⟨P,lk [(69,z7j φ)],lk [],lk [],lk []⟩
theorem zrw(φ:Nat)(a):(z8q φ).F a=fnX TV (zd5 Tryz.prog φ) φ Tryz.f68 [40,41] [.val 27] (z8p φ) a:=by kernel_rfl
theorem zrv(φ:Nat):fnO TV (zd5 Tryz.prog φ) φ Tryz.f68 [.val 27] (z8p φ):=by
 unfold fnO;show obl _ _ _ _ _ _ _ _;unfold z8p
 repeat' (first|exact trivial |(refine⟨?_,?_⟩) |(intro _)|kernel_rfl)
theorem zjk[Dr](φ:Nat):z0h TV Tryz.prog 68 (z8q φ):=z0l (N:=zd5 Tryz.prog φ) (zq ⟨zfb φ,trivial⟩ trivial trivial trivial) (z8p φ) Tryz.func68 (by kernel_rfl) (zrw φ) (zrv φ)
def zh9(φ:Nat):H TV (RTup TT [.val 0,.val 0]):=(.seq .x (.seq .x (.seq .x (.seq .x (.seq (.seq .x (.body (.loop ⟨[(45,[(3,.ptr 0 0),(7,.val 0),(21,.val 39),(22,.val 0),(23,.val 0)])],[.box 88 [.val 41]]⟩ (λn=>kk5 (z49 φ n)) (λzk10=>.x)))) .x)))))
def zlt(P:Program)(φ:Nat):Env TV:=⟨P,lk [(67,zav φ),(68,z8q φ)],lk [],lk [],lk []⟩
theorem y3e(φ:Nat)(a):(zha φ).F a=fnX TV (zlt Tryz.prog φ) φ Tryz.f30 [40,41] [.val 0,.val 0] (zh9 φ) a:=by kernel_rfl
theorem y3d(φ:Nat):fnO TV (zlt Tryz.prog φ) φ Tryz.f30 [.val 0,.val 0] (zh9 φ):=by
 unfold fnO;show obl _ _ _ _ _ _ _ _;unfold zh9
 repeat' (first|exact trivial |(refine⟨?_,?_⟩) |(intro _)|kernel_rfl)
theorem zru[Dr](φ:Nat):z0h TV Tryz.prog 30 (zha φ):=z0l (N:=zlt Tryz.prog φ) (zq ⟨zjh φ,zjk φ,trivial⟩ trivial trivial trivial) (zh9 φ) Tryz.func30 (by kernel_rfl) (y3e φ) (y3d φ)
def zas(φ:Nat):H TV (RTup TT [.row 76 53]):=.x
def zfy(P:Program)(φ:Nat):Env TV:=⟨P,lk [],lk [],lk [],lk []⟩
theorem zuv(φ:Nat)(a):(zfz φ).F a=fnX TV (zfy Tryz.prog φ) φ Tryz.f55 [54] [.row 76 53] (zas φ) a:=by kernel_rfl
theorem zuu(φ:Nat):fnO TV (zfy Tryz.prog φ) φ Tryz.f55 [.row 76 53] (zas φ):=by
 unfold fnO;show obl _ _ _ _ _ _ _ _;unfold zas
 repeat' (first|exact trivial |(refine⟨?_,?_⟩) |(intro _)|kernel_rfl)
theorem zut[Dr](φ:Nat):z0h TV Tryz.prog 55 (zfz φ):=z0l (N:=zfy Tryz.prog φ) (zq trivial trivial trivial trivial) (zas φ) Tryz.func55 (by kernel_rfl) (zuv φ) (zuu φ)
def z12(φ:Nat):H TV (List (TT 53)):=(.seq .x (.body (.loop ⟨[(53,[(0,.own 0),(1,.val 0),(2,.val 0),(3,.cmp 53),(8,.val 0)]),(1,[(0,.own 0)])],[.row 76 53]⟩ (λn=>kk5 (z27 φ n)) (λzk10=>(.seq .x (.seq (.body (.seq .x (.body (.loop ⟨[(53,[(0,.own 0),(1,.val 0),(2,.val 0),(3,.cmp 53),(8,.val 0),(9,.val 0)]),(1,[(0,.own 0)])],[.row 76 53]⟩ (λn z=>z29 φ (λa0 a1 a2 a3 a4=>zk10 (a0,a1,a2,a3,a4,())) n z.1 z.2.1 z.2.2.1 z.2.2.2.1 z.2.2.2.2.1 z.2.2.2.2.2.1) (λzk17=>.x))))) .x))))))
def z2z(P:Program)(φ:Nat):Env TV:=⟨P,lk [],lk [],lk [],lk []⟩
theorem zbp(φ:Nat)(l a):(z30 φ).F l a=fnM TV (z2z Tryz.prog φ) φ Tryz.f119 76 53 [.val 0,.val 0,.cmp 53] (z12 φ) l a:=by kernel_rfl
theorem zbo(φ:Nat):fnMO TV (z2z Tryz.prog φ) φ Tryz.f119 76 53 (z12 φ):=by
 unfold fnMO;show obl _ _ _ _ _ _ _ _;unfold z12
 repeat' (first|exact trivial |(refine⟨?_,?_⟩) |(intro _)|kernel_rfl)
theorem zbn[Dr](φ:Nat):ztk TV Tryz.prog 119 (z30 φ):=zvd (N:=z2z Tryz.prog φ) (zq trivial trivial trivial trivial) (z12 φ) Tryz.func119 (by kernel_rfl) (zbp φ) (zbo φ)
def z2f(φ:Nat):H TV (List (TT 53)):=(.seq .x (.body (.loop ⟨[(38,[(0,.own 0),(1,.val 0),(2,.val 0),(3,.val 0),(10,.val 0)]),(1,[(0,.own 0)])],[.row 76 53]⟩ (λn=>kk5 (z3u φ n)) (λzk11=>.x))))
def z4s(P:Program)(φ:Nat):Env TV:=⟨P,lk [],lk [],lk [],lk []⟩
theorem zg2(φ:Nat)(l a):(z4t φ).F l a=fnM TV (z4s Tryz.prog φ) φ Tryz.f193 76 53 [.val 0,.val 0,.val 0,.cmp 53] (z2f φ) l a:=by kernel_rfl
theorem zg1(φ:Nat):fnMO TV (z4s Tryz.prog φ) φ Tryz.f193 76 53 (z2f φ):=by
 unfold fnMO;show obl _ _ _ _ _ _ _ _;unfold z2f
 repeat' (first|exact trivial |(refine⟨?_,?_⟩) |(intro _)|kernel_rfl)
theorem zg0[Dr](φ:Nat):ztk TV Tryz.prog 193 (z4t φ):=zvd (N:=z4s Tryz.prog φ) (zq trivial trivial trivial trivial) (z2f φ) Tryz.func193 (by kernel_rfl) (zg2 φ) (zg1 φ)
def z3w(φ:Nat):H TV (List (TT 53)):=(.seq .x (.seq .x (.seq (.body (.loop ⟨[(58,[(0,.own 0),(2,.val 0),(4,.cmp 53),(10,.val 0),(11,.val 0)]),(1,[(0,.own 0)])],[.row 76 53]⟩ (λn=>kk5 (z2u φ n)) (λzk11=>.x))) .x)))
def z64(P:Program)(φ:Nat):Env TV:=⟨P,lk [],lk [(193,z4t φ)],lk [],lk []⟩
theorem zix(φ:Nat)(l a):(z65 φ).F l a=fnM TV (z64 Tryz.prog φ) φ Tryz.f165 76 53 [.val 0,.val 0,.val 0,.cmp 53] (z3w φ) l a:=by kernel_rfl
theorem ziw(φ:Nat):fnMO TV (z64 Tryz.prog φ) φ Tryz.f165 76 53 (z3w φ):=by
 unfold fnMO;show obl _ _ _ _ _ _ _ _;unfold z3w
 repeat' (first|exact trivial |(refine⟨?_,?_⟩) |(intro _)|kernel_rfl)
theorem ziv[Dr](φ:Nat):ztk TV Tryz.prog 165 (z65 φ):=zvd (N:=z64 Tryz.prog φ) (zq trivial ⟨(zg0 φ),trivial⟩ trivial trivial) (z3w φ) Tryz.func165 (by kernel_rfl) (zix φ) (ziw φ)
def z2v(φ d:Nat):H TV (List (TT 53)):=(.seq (.seq .x (.cond (.seq .x (.seq .x (.seq (.body (.loop ⟨[(220,[(0,.own 0),(1,.val 0),(4,.cmp 53),(10,.val 0),(11,.val 0)]),(1,[(0,.own 0)])],[.row 76 53]⟩ (λn=>kk5 (z1t φ n)) (λzk11=>.x))) (.seq (.seq .x (.body (.loop ⟨[(220,[(0,.own 0),(10,.val 0),(13,.val 0)]),(1,[(0,.own 0)])],[.row 76 53]⟩ (λn=>kk3 (z3y φ n)) (λzk16=>.x)))) .x)))) .x)) (.seq (.seq .x (.cond (.seq .x (.seq .x (.seq (.body (.loop ⟨[(220,[(0,.own 0),(2,.val 0),(4,.cmp 53),(14,.val 0),(15,.val 0)]),(1,[(0,.own 0)])],[.row 76 53]⟩ (λn=>kk5 (z1u φ n)) (λzk22=>.x))) (.seq (.seq .x (.body (.loop ⟨[(220,[(0,.own 0),(14,.val 0),(17,.val 0)]),(1,[(0,.own 0)])],[.row 76 53]⟩ (λn=>kk3 (z3z φ n)) (λzk27=>.x)))) .x)))) .x)) (.seq .x (.seq .x (.seq .x (.seq (.join ⟨[(220,[(0,.own 0),(1,.val 0),(2,.val 0),(3,.val 0),(4,.cmp 53),(18,.val 0),(19,.val 0),(20,.val 0),(21,.val 0)]),(1,[(0,.own 0)])],[.row 76 53]⟩ (λz=>z40 φ (z06 φ d) z.1 z.2.1 z.2.2.1 z.2.2.2.1 z.2.2.2.2.1 z.2.2.2.2.2.1 z.2.2.2.2.2.2.1 z.2.2.2.2.2.2.2.1 z.2.2.2.2.2.2.2.2.1) (.seq .x .x)) (.seq .x (.seq (.body (.loop ⟨[(220,[(0,.own 0),(1,.val 0),(2,.val 0),(3,.val 0),(4,.cmp 53),(18,.val 0),(19,.val 0),(20,.val 0),(21,.val 0),(22,.val 0)]),(1,[(0,.own 0)])],[.row 76 53]⟩ (λn z=>z1v φ (z06 φ d) n z.1 z.2.1 z.2.2.1 z.2.2.2.1 z.2.2.2.2.1 z.2.2.2.2.2.1 z.2.2.2.2.2.2.1 z.2.2.2.2.2.2.2.1 z.2.2.2.2.2.2.2.2.1 z.2.2.2.2.2.2.2.2.2.1) (λzk48=>.x))) (.seq .x (.seq (.join ⟨[(220,[(0,.own 0),(1,.val 0),(3,.val 0),(4,.cmp 53),(18,.val 0),(20,.val 0),(24,.val 0)]),(1,[(0,.own 0)])],[.row 76 53]⟩ (λz=>z41 φ (z06 φ d) z.1 z.2.1 z.2.2.1 z.2.2.2.1 z.2.2.2.2.1 z.2.2.2.2.2.1 z.2.2.2.2.2.2.1) (.seq .x .x)) (.seq (.join ⟨[(220,[(0,.own 0),(3,.val 0),(4,.cmp 53),(18,.val 0),(24,.val 0)]),(1,[(0,.own 0)])],[.row 76 53]⟩ (λz=>z42 φ (z06 φ d) z.1 z.2.1 z.2.2.1 z.2.2.2.1 z.2.2.2.2.1) (.seq .x .x)) .x)))))))))))
def z5i(P:Program)(φ d:Nat):Env TV:=⟨P,lk [],lk [(165,z65 φ),(120,z2w φ d)],lk [],lk []⟩
theorem zgc(φ d:Nat)(l a):(z2w φ (d+1)).F l a=fnM TV (z5i Tryz.prog φ d) φ Tryz.f120 76 53 [.val 0,.val 0,.val 0,.cmp 53] (z2v φ d) l a:=by kernel_rfl
theorem zgb(φ d:Nat):fnMO TV (z5i Tryz.prog φ d) φ Tryz.f120 76 53 (z2v φ d):=by
 unfold fnMO;show obl _ _ _ _ _ _ _ _;unfold z2v
 repeat' (first|exact trivial |(refine⟨?_,?_⟩) |(intro _)|kernel_rfl)
theorem z84[Dr](φ:Nat):∀d,ztk TV Tryz.prog 120 (z2w φ d)
 |0=>λl a l2 sv h=>absurd (show (none:Option (List (TT 53)))=some l2 from h) (λq=>by cases q)
 |d+1=>zvd (N:=z5i Tryz.prog φ d) (zq trivial ⟨(ziv φ),(z84 φ d),trivial⟩ trivial trivial) (z2v φ d) Tryz.func120 (by kernel_rfl) (zgc φ d) (zgb φ d)
def z3x(φ:Nat):H TV (List (TT 53)):=(.seq .x (.seq .x (.seq (.body (.loop ⟨[(63,[(0,.own 0),(1,.val 0),(2,.cmp 53),(6,.val 0),(7,.val 0),(8,.val 0)]),(1,[(0,.own 0)])],[.row 76 53]⟩ (λn=>kk6 (z5f φ n)) (λzk10=>.x))) (.seq .x (.body (.loop ⟨[(63,[(0,.own 0),(1,.val 0),(2,.cmp 53),(6,.val 0)]),(1,[(0,.own 0)])],[.row 76 53]⟩ (λn=>kk4 (z5g φ n)) (λzk17=>(.seq .x (.body (.seq .x (.seq (.body (.loop ⟨[(63,[(0,.own 0),(1,.val 0),(2,.cmp 53),(6,.val 0),(7,.val 0),(8,.val 0)]),(1,[(0,.own 0)])],[.row 76 53]⟩ (λn z=>z5h φ (λa0 a1 a2 a3=>zk17 (a0,a1,a2,a3,())) n z.1 z.2.1 z.2.2.1 z.2.2.2.1 z.2.2.2.2.1 z.2.2.2.2.2.1) (λzk24=>.x))) .x)))))))))))
def z66(P:Program)(φ:Nat):Env TV:=⟨P,lk [],lk [(119,z30 φ),(120,z2w φ φ)],lk [],lk []⟩
theorem zj0(φ:Nat)(l a):(z67 φ).F l a=fnM TV (z66 Tryz.prog φ) φ Tryz.f78 76 53 [.val 0,.cmp 53] (z3x φ) l a:=by kernel_rfl
theorem ziz(φ:Nat):fnMO TV (z66 Tryz.prog φ) φ Tryz.f78 76 53 (z3x φ):=by
 unfold fnMO;show obl _ _ _ _ _ _ _ _;unfold z3x
 repeat' (first|exact trivial |(refine⟨?_,?_⟩) |(intro _)|kernel_rfl)
theorem ziy[Dr](φ:Nat):ztk TV Tryz.prog 78 (z67 φ):=zvd (N:=z66 Tryz.prog φ) (zq trivial ⟨(zbn φ),(z84 φ φ),trivial⟩ trivial trivial) (z3x φ) Tryz.func78 (by kernel_rfl) (zj0 φ) (ziz φ)
def z39(φ:Nat):H TV (List (TT 53)):=.x
def z5n(P:Program)(φ:Nat):Env TV:=⟨P,lk [],lk [(78,z67 φ)],lk [],lk []⟩
theorem zil(φ:Nat)(l a):(z5o φ).F l a=fnM TV (z5n Tryz.prog φ) φ Tryz.f35 76 53 [.cmp 53] (z39 φ) l a:=by kernel_rfl
theorem zik(φ:Nat):fnMO TV (z5n Tryz.prog φ) φ Tryz.f35 76 53 (z39 φ):=by
 unfold fnMO;show obl _ _ _ _ _ _ _ _;unfold z39
 repeat' (first|exact trivial |(refine⟨?_,?_⟩) |(intro _)|kernel_rfl)
theorem zij[Dr](φ:Nat):ztk TV Tryz.prog 35 (z5o φ):=zvd (N:=z5n Tryz.prog φ) (zq trivial ⟨(ziy φ),trivial⟩ trivial trivial) (z39 φ) Tryz.func35 (by kernel_rfl) (zil φ) (zik φ)
def zbt(φ:Nat):H TV (RTup TT [.val 0]):=.x
def zgr(P:Program)(φ:Nat):Env TV:=⟨P,lk [],lk [],lk [],lk []⟩
theorem zw4(φ:Nat)(a):(zgs φ).F a=fnX TV (zgr Tryz.prog φ) φ Tryz.f41 [0,0] [.val 0] (zbt φ) a:=by kernel_rfl
theorem zw3(φ:Nat):fnO TV (zgr Tryz.prog φ) φ Tryz.f41 [.val 0] (zbt φ):=by
 unfold fnO;show obl _ _ _ _ _ _ _ _;unfold zbt
 repeat' (first|exact trivial |(refine⟨?_,?_⟩) |(intro _)|kernel_rfl)
theorem zw2[Dr](φ:Nat):z0h TV Tryz.prog 41 (zgs φ):=z0l (N:=zgr Tryz.prog φ) (zq trivial trivial trivial trivial) (zbt φ) Tryz.func41 (by kernel_rfl) (zw4 φ) (zw3 φ)
def zqo(φ:Nat):H TV (RTup TT [.val 0]):=(.seq .x (.seq .x (.seq (.seq .x (.body (.loop ⟨[(18,[(3,.val 0),(6,.val 22),(7,.val 0),(8,.val 0)])],[]⟩ (λn=>kk4 (zra φ n)) (λzk6=>.x)))) .x)))
def zw5(P:Program)(φ:Nat):Env TV:=⟨P,lk [],lk [],lk [],lk []⟩
theorem ydp(φ:Nat)(a):(zw6 φ).F a=fnX TV (zw5 Tryz.prog φ) φ Tryz.f40 [22] [.val 0] (zqo φ) a:=by kernel_rfl
theorem ydo(φ:Nat):fnO TV (zw5 Tryz.prog φ) φ Tryz.f40 [.val 0] (zqo φ):=by
 unfold fnO;show obl _ _ _ _ _ _ _ _;unfold zqo
 repeat' (first|exact trivial |(refine⟨?_,?_⟩) |(intro _)|kernel_rfl)
theorem ydn[Dr](φ:Nat):z0h TV Tryz.prog 40 (zw6 φ):=z0l (N:=zw5 Tryz.prog φ) (zq trivial trivial trivial trivial) (zqo φ) Tryz.func40 (by kernel_rfl) (ydp φ) (ydo φ)
def z7t(φ:Nat):H TV (RTup TT [.val 0]):=.x
def zbe(P:Program)(φ:Nat):Env TV:=⟨P,lk [(41,zgs φ),(40,zw6 φ)],lk [],lk [],lk []⟩
theorem zq9(φ:Nat)(a):(zbf φ).F a=fnX TV (zbe Tryz.prog φ) φ Tryz.f36 [53,53] [.val 0] (z7t φ) a:=by kernel_rfl
theorem zq8(φ:Nat):fnO TV (zbe Tryz.prog φ) φ Tryz.f36 [.val 0] (z7t φ):=by
 unfold fnO;show obl _ _ _ _ _ _ _ _;unfold z7t
 repeat' (first|exact trivial |(refine⟨?_,?_⟩) |(intro _)|kernel_rfl)
theorem zq7[Dr](φ:Nat):z0h TV Tryz.prog 36 (zbf φ):=z0l (N:=zbe Tryz.prog φ) (zq ⟨zw2 φ,ydn φ,trivial⟩ trivial trivial trivial) (z7t φ) Tryz.func36 (by kernel_rfl) (zq9 φ) (zq8 φ)
def z7s(φ:Nat):H TV (RTup TT [.val 37]):=(.seq .x (.seq .x (.seq .x (.seq (.seq .x (.body (.loop ⟨[(49,[(1,.val 0),(4,.own 0),(12,.own 1),(13,.val 0),(14,.val 0)])],[.row 66 30,.row 76 53]⟩ (λn=>kk5 (z6a φ n)) (λzk10=>.x)))) .x))))
def zbc(P:Program)(φ:Nat):Env TV:=⟨P,lk [(55,zfz φ),(36,zbf φ)],lk [(35,z5o φ)],lk [],lk []⟩
theorem zq6(φ:Nat)(a):(zbd φ).F a=fnX TV (zbc Tryz.prog φ) φ Tryz.f18 [54,0] [.val 37] (z7s φ) a:=by kernel_rfl
theorem zq5(φ:Nat):fnO TV (zbc Tryz.prog φ) φ Tryz.f18 [.val 37] (z7s φ):=by
 unfold fnO;show obl _ _ _ _ _ _ _ _;unfold z7s
 repeat' (first|exact trivial |(refine⟨?_,?_⟩) |(intro _)|kernel_rfl)
theorem zq4[Dr](φ:Nat):z0h TV Tryz.prog 18 (zbd φ):=z0l (N:=zbc Tryz.prog φ) (zq ⟨zut φ,zq7 φ,trivial⟩ ⟨(zij φ),trivial⟩ trivial trivial) (z7s φ) Tryz.func18 (by kernel_rfl) (zq6 φ) (zq5 φ)
def zep(φ:Nat):H TV (RTup TT [.val 27]):=(.seq .x (.seq .x (.seq .x (.seq .x (.seq (.join ⟨[(161,[(1,.own 0),(2,.own 1),(3,.ptr 2 0),(4,.val 0)])],[.row 64 29,.row 66 30,.box 42 [.own 3,.val 0,.val 22],.row 84 45]⟩ (kk6 (zag φ)) (.ins 3 26 (.seq .x (.seq (.join ⟨[(93,[(1,.own 0),(2,.own 1),(6,.ptr 2 0),(7,.val 0),(8,.ptr 3 0)]),(161,[(1,.own 0),(2,.own 1)])],[.row 64 29,.row 66 30,.box 42 [.own 4,.val 0,.own 5],.box 54 [.own 6,.own 7],.row 84 45,.row 3 0,.row 3 0,.row 119 38]⟩ (kk8 (z3p φ)) (.ins 3 13 (.seq .x (.seq .x (.seq .x (.seq (.seq .x (.body (.loop ⟨[(99,[(1,.own 0),(2,.own 1),(3,.ptr 2 0),(6,.ptr 3 0),(9,.val 0),(10,.val 0),(22,.own 0),(23,.val 0),(24,.val 0)]),(93,[(1,.own 0),(2,.own 1),(6,.ptr 4 0)]),(161,[(1,.own 0),(2,.own 1)])],[.row 64 29,.row 66 30,.box 36 [.val 26],.box 54 [.own 5,.own 6],.box 42 [.own 7,.val 0,.own 8],.row 3 0,.row 119 38,.row 84 45,.row 3 0]⟩ (λn=>kk12 (zdl φ n)) (λzk513=>.x)))) (.seq (.seq .x (.body (.loop ⟨[(99,[(1,.own 0),(2,.own 1),(3,.ptr 2 0),(6,.ptr 3 0),(9,.val 0),(10,.val 0),(45,.own 1),(46,.val 0),(47,.val 0)]),(93,[(1,.own 0),(2,.own 1),(6,.ptr 4 0)]),(161,[(1,.own 0),(2,.own 1)])],[.row 64 29,.row 66 30,.box 36 [.val 26],.box 54 [.own 5,.own 6],.box 42 [.own 7,.val 0,.own 8],.row 3 0,.row 119 38,.row 84 45,.row 3 0]⟩ (λn=>kk12 (zdm φ n)) (λzk527=>.x)))) (.seq .x (.seq .x (.seq (.join ⟨[(99,[(6,.ptr 0 0)]),(93,[(1,.own 1),(2,.own 2),(6,.ptr 3 0)]),(161,[(1,.own 1),(2,.own 2)])],[.box 54 [.own 4,.own 5],.row 64 29,.row 66 30,.box 42 [.own 6,.val 0,.own 7],.row 3 0,.row 119 38,.row 84 45,.row 3 0]⟩ (kk7 (z6p φ)) (.seq .x (.body (.rf 13 0 95 (.seq .x (.seq (.seq .x (.body (.loop ⟨[(112,[(0,.own 0),(1,.ptr 1 0),(2,.ptr 2 0),(3,.ptr 3 0),(5,.val 0),(6,.val 0),(22,.own 4),(23,.val 0),(24,.val 0)]),(100,[(6,.ptr 5 0),(99,.own 0)]),(93,[(1,.own 4),(2,.own 6),(6,.ptr 7 0)]),(161,[(1,.own 4),(2,.own 6)])],[.emp,.box 37 [.own 4],.box 38 [.own 6],.box 36 [.val 26],.row 64 29,.box 54 [.own 8,.own 9],.row 66 30,.box 42 [.own 10,.val 0,.own 11],.row 3 0,.row 119 38,.row 84 45,.row 3 0]⟩ (λn=>kk12 (zdn φ n)) (λzk549=>(.seq .x (.seq .x (.seq (.body (.seq .x (.seq .x (.body (.loop ⟨[(112,[(0,.own 0),(1,.ptr 1 0),(2,.ptr 2 0),(3,.ptr 3 0),(5,.val 0),(6,.val 0),(7,.val 0),(8,.ptr 4 0),(22,.own 5),(23,.val 0),(24,.val 0),(29,.own 6),(30,.val 0),(31,.val 0)]),(100,[(6,.ptr 7 0),(99,.own 0)]),(93,[(1,.own 5),(2,.own 6),(6,.ptr 8 0)]),(161,[(1,.own 5),(2,.own 6)])],[.emp,.box 37 [.own 5],.box 38 [.own 6],.box 36 [.val 26],.box 64 [.val 29],.row 64 29,.row 66 30,.box 54 [.own 9,.own 10],.box 42 [.own 11,.val 0,.own 12],.row 3 0,.row 119 38,.row 84 45,.row 3 0]⟩ (λn z=>z8x φ (λa0 a1 a2 a3 a4 a5 a6 a7 a8 a9 a10 a11=>zk549 (a0,a1,a2,a3,a4,a5,a6,a7,a8,a9,a10,a11,())) n z.1 z.2.1 z.2.2.1 z.2.2.2.1 z.2.2.2.2.1 z.2.2.2.2.2.1 z.2.2.2.2.2.2.1 z.2.2.2.2.2.2.2.1 z.2.2.2.2.2.2.2.2.1 z.2.2.2.2.2.2.2.2.2.1 z.2.2.2.2.2.2.2.2.2.2.1 z.2.2.2.2.2.2.2.2.2.2.2.1 z.2.2.2.2.2.2.2.2.2.2.2.2.1 z.2.2.2.2.2.2.2.2.2.2.2.2.2.1 z.2.2.2.2.2.2.2.2.2.2.2.2.2.2.1 z.2.2.2.2.2.2.2.2.2.2.2.2.2.2.2.1) (λzk566=>(.seq .x (.seq .x (.seq (.body (.seq .x (.seq .x (.seq (.yl 15 13 0 .x .x) .x)))) .x))))))))) .x))))))) (.seq (.seq .x (.body (.loop ⟨[(112,[(0,.own 0),(1,.ptr 1 0),(5,.val 0),(6,.val 0),(63,.own 2),(64,.val 0),(65,.val 0)]),(100,[(6,.ptr 3 0),(99,.own 0)]),(93,[(1,.own 4),(2,.own 2),(6,.ptr 5 0)]),(161,[(1,.own 4),(2,.own 2)])],[.emp,.box 37 [.own 4],.row 66 30,.box 54 [.own 6,.own 7],.row 64 29,.box 42 [.own 8,.val 0,.own 9],.row 3 0,.row 119 38,.row 84 45,.row 3 0]⟩ (λn=>kk11 (zdo φ n)) (λzk579=>(.seq .x (.seq .x (.seq (.body (.seq .x (.seq .x (.seq (.yl 11 13 0 .x .x) .x)))) .x))))))) (.seq (.seq .x (.body (.loop ⟨[(112,[(0,.own 0),(5,.val 0),(6,.val 0),(88,.own 1),(89,.val 0),(90,.val 0)]),(100,[(6,.ptr 2 0),(99,.own 0)]),(93,[(1,.own 1),(2,.own 3),(6,.ptr 4 0)]),(161,[(1,.own 1),(2,.own 3)])],[.emp,.row 64 29,.box 54 [.own 5,.own 6],.row 66 30,.box 42 [.own 7,.val 0,.own 8],.row 3 0,.row 119 38,.row 84 45,.row 3 0]⟩ (λn=>kk11 (zdp φ n)) (λzk591=>(.seq .x (.seq .x (.seq (.body (.seq .x (.seq (.yl 7 13 0 .x .x) .x))) .x))))))) (.yl 6 13 0 .x .x))))))))) .x)))))))) .x)) (.seq .x (.seq .x (.seq .x (.seq .x (.seq .x (.seq (.seq .x (.body (.loop ⟨[(93,[(1,.own 0),(2,.own 1),(6,.ptr 2 0),(9,.ptr 3 0),(43,.val 39),(44,.val 0),(45,.val 0)]),(161,[(1,.own 0),(2,.own 1)])],[.row 64 29,.row 66 30,.box 42 [.own 4,.val 0,.val 22],.box 88 [.val 41],.row 84 45]⟩ (λn=>kk9 (z8w φ n)) (λzk499=>.x)))) .x)))))))) .x)) (.seq .x (.seq (.join ⟨[(161,[(1,.own 0),(2,.own 1),(3,.ptr 2 0),(4,.val 0),(5,.ptr 3 0),(6,.val 0)])],[.row 64 29,.row 66 30,.box 42 [.own 4,.val 0,.val 22],.box 42 [.own 5,.val 0,.val 22],.row 84 45,.row 84 45]⟩ (kk10 (zah φ)) (.ins 3 26 (.seq .x (.seq (.join ⟨[(93,[(1,.own 0),(2,.own 1),(6,.ptr 2 0),(7,.val 0),(8,.ptr 3 0)]),(161,[(1,.own 0),(2,.own 1),(3,.ptr 4 0),(4,.val 0)])],[.row 64 29,.row 66 30,.box 42 [.own 5,.val 0,.own 6],.box 54 [.own 7,.own 8],.box 42 [.own 9,.val 0,.val 22],.row 84 45,.row 3 0,.row 3 0,.row 119 38,.row 84 45]⟩ (kk12 (z3o φ)) (.ins 3 13 (.seq .x (.seq .x (.seq .x (.seq (.seq .x (.body (.loop ⟨[(99,[(1,.own 0),(2,.own 1),(3,.ptr 2 0),(6,.ptr 3 0),(9,.val 0),(10,.val 0),(22,.own 0),(23,.val 0),(24,.val 0)]),(93,[(1,.own 0),(2,.own 1),(6,.ptr 4 0)]),(161,[(1,.own 0),(2,.own 1),(3,.ptr 5 0),(4,.val 0)])],[.row 64 29,.row 66 30,.box 36 [.val 26],.box 54 [.own 6,.own 7],.box 42 [.own 8,.val 0,.own 9],.box 42 [.own 10,.val 0,.val 22],.row 3 0,.row 119 38,.row 84 45,.row 3 0,.row 84 45]⟩ (λn=>kk16 (zdg φ n)) (λzk375=>.x)))) (.seq (.seq .x (.body (.loop ⟨[(99,[(1,.own 0),(2,.own 1),(3,.ptr 2 0),(6,.ptr 3 0),(9,.val 0),(10,.val 0),(45,.own 1),(46,.val 0),(47,.val 0)]),(93,[(1,.own 0),(2,.own 1),(6,.ptr 4 0)]),(161,[(1,.own 0),(2,.own 1),(3,.ptr 5 0),(4,.val 0)])],[.row 64 29,.row 66 30,.box 36 [.val 26],.box 54 [.own 6,.own 7],.box 42 [.own 8,.val 0,.own 9],.box 42 [.own 10,.val 0,.val 22],.row 3 0,.row 119 38,.row 84 45,.row 3 0,.row 84 45]⟩ (λn=>kk16 (zdh φ n)) (λzk393=>.x)))) (.seq .x (.seq .x (.seq (.join ⟨[(99,[(6,.ptr 0 0)]),(93,[(1,.own 1),(2,.own 2),(6,.ptr 3 0)]),(161,[(1,.own 1),(2,.own 2),(3,.ptr 4 0),(4,.val 0)])],[.box 54 [.own 5,.own 6],.row 64 29,.row 66 30,.box 42 [.own 7,.val 0,.own 8],.box 42 [.own 9,.val 0,.val 22],.row 3 0,.row 119 38,.row 84 45,.row 3 0,.row 84 45]⟩ (kk11 (z6o φ)) (.seq .x (.body (.rf 13 0 95 (.seq .x (.seq (.seq .x (.body (.loop ⟨[(112,[(0,.own 0),(1,.ptr 1 0),(2,.ptr 2 0),(3,.ptr 3 0),(5,.val 0),(6,.val 0),(22,.own 4),(23,.val 0),(24,.val 0)]),(100,[(6,.ptr 5 0),(99,.own 0)]),(93,[(1,.own 4),(2,.own 6),(6,.ptr 7 0)]),(161,[(1,.own 4),(2,.own 6),(3,.ptr 8 0),(4,.val 0)])],[.emp,.box 37 [.own 4],.box 38 [.own 6],.box 36 [.val 26],.row 64 29,.box 54 [.own 9,.own 10],.row 66 30,.box 42 [.own 11,.val 0,.own 12],.box 42 [.own 13,.val 0,.val 22],.row 3 0,.row 119 38,.row 84 45,.row 3 0,.row 84 45]⟩ (λn=>kk16 (zdi φ n)) (λzk423=>(.seq .x (.seq .x (.seq (.body (.seq .x (.seq .x (.body (.loop ⟨[(112,[(0,.own 0),(1,.ptr 1 0),(2,.ptr 2 0),(3,.ptr 3 0),(5,.val 0),(6,.val 0),(7,.val 0),(8,.ptr 4 0),(22,.own 5),(23,.val 0),(24,.val 0),(29,.own 6),(30,.val 0),(31,.val 0)]),(100,[(6,.ptr 7 0),(99,.own 0)]),(93,[(1,.own 5),(2,.own 6),(6,.ptr 8 0)]),(161,[(1,.own 5),(2,.own 6),(3,.ptr 9 0),(4,.val 0)])],[.emp,.box 37 [.own 5],.box 38 [.own 6],.box 36 [.val 26],.box 64 [.val 29],.row 64 29,.row 66 30,.box 54 [.own 10,.own 11],.box 42 [.own 12,.val 0,.own 13],.box 42 [.own 14,.val 0,.val 22],.row 3 0,.row 119 38,.row 84 45,.row 3 0,.row 84 45]⟩ (λn z=>z8v φ (λa0 a1 a2 a3 a4 a5 a6 a7 a8 a9 a10 a11 a12 a13 a14 a15=>zk423 (a0,a1,a2,a3,a4,a5,a6,a7,a8,a9,a10,a11,a12,a13,a14,a15,())) n z.1 z.2.1 z.2.2.1 z.2.2.2.1 z.2.2.2.2.1 z.2.2.2.2.2.1 z.2.2.2.2.2.2.1 z.2.2.2.2.2.2.2.1 z.2.2.2.2.2.2.2.2.1 z.2.2.2.2.2.2.2.2.2.1 z.2.2.2.2.2.2.2.2.2.2.1 z.2.2.2.2.2.2.2.2.2.2.2.1 z.2.2.2.2.2.2.2.2.2.2.2.2.1 z.2.2.2.2.2.2.2.2.2.2.2.2.2.1 z.2.2.2.2.2.2.2.2.2.2.2.2.2.2.1 z.2.2.2.2.2.2.2.2.2.2.2.2.2.2.2.1 z.2.2.2.2.2.2.2.2.2.2.2.2.2.2.2.2.1 z.2.2.2.2.2.2.2.2.2.2.2.2.2.2.2.2.2.1 z.2.2.2.2.2.2.2.2.2.2.2.2.2.2.2.2.2.2.1 z.2.2.2.2.2.2.2.2.2.2.2.2.2.2.2.2.2.2.2.1) (λzk444=>(.seq .x (.seq .x (.seq (.body (.seq .x (.seq .x (.seq (.yl 15 13 0 .x .x) .x)))) .x))))))))) .x))))))) (.seq (.seq .x (.body (.loop ⟨[(112,[(0,.own 0),(1,.ptr 1 0),(5,.val 0),(6,.val 0),(63,.own 2),(64,.val 0),(65,.val 0)]),(100,[(6,.ptr 3 0),(99,.own 0)]),(93,[(1,.own 4),(2,.own 2),(6,.ptr 5 0)]),(161,[(1,.own 4),(2,.own 2),(3,.ptr 6 0),(4,.val 0)])],[.emp,.box 37 [.own 4],.row 66 30,.box 54 [.own 7,.own 8],.row 64 29,.box 42 [.own 9,.val 0,.own 10],.box 42 [.own 11,.val 0,.val 22],.row 3 0,.row 119 38,.row 84 45,.row 3 0,.row 84 45]⟩ (λn=>kk15 (zdj φ n)) (λzk461=>(.seq .x (.seq .x (.seq (.body (.seq .x (.seq .x (.seq (.yl 11 13 0 .x .x) .x)))) .x))))))) (.seq (.seq .x (.body (.loop ⟨[(112,[(0,.own 0),(5,.val 0),(6,.val 0),(88,.own 1),(89,.val 0),(90,.val 0)]),(100,[(6,.ptr 2 0),(99,.own 0)]),(93,[(1,.own 1),(2,.own 3),(6,.ptr 4 0)]),(161,[(1,.own 1),(2,.own 3),(3,.ptr 5 0),(4,.val 0)])],[.emp,.row 64 29,.box 54 [.own 6,.own 7],.row 66 30,.box 42 [.own 8,.val 0,.own 9],.box 42 [.own 10,.val 0,.val 22],.row 3 0,.row 119 38,.row 84 45,.row 3 0,.row 84 45]⟩ (λn=>kk15 (zdk φ n)) (λzk477=>(.seq .x (.seq .x (.seq (.body (.seq .x (.seq (.yl 7 13 0 .x .x) .x))) .x))))))) (.yl 6 13 0 .x .x))))))))) .x)))))))) .x)) (.seq .x (.seq .x (.seq .x (.seq .x (.seq .x (.seq (.seq .x (.body (.loop ⟨[(93,[(1,.own 0),(2,.own 1),(6,.ptr 2 0),(9,.ptr 3 0),(43,.val 39),(44,.val 0),(45,.val 0)]),(161,[(1,.own 0),(2,.own 1),(3,.ptr 4 0),(4,.val 0)])],[.row 64 29,.row 66 30,.box 42 [.own 5,.val 0,.val 22],.box 88 [.val 41],.box 42 [.own 6,.val 0,.val 22],.row 84 45,.row 84 45]⟩ (λn=>kk13 (z8u φ n)) (λzk357=>.x)))) .x)))))))) .x)) (.seq (.join ⟨[(161,[(1,.own 0),(2,.own 1),(3,.ptr 2 0),(4,.val 0),(5,.ptr 3 0),(6,.val 0),(7,.ptr 4 0),(8,.val 0)])],[.row 64 29,.row 66 30,.box 42 [.own 5,.val 0,.val 22],.box 42 [.own 6,.val 0,.val 22],.box 54 [.own 7,.own 8],.row 84 45,.row 84 45,.row 3 0,.row 119 38]⟩ (kk13 (z4j φ)) (.ins 3 13 (.seq .x (.seq .x (.seq .x (.seq (.seq .x (.body (.loop ⟨[(99,[(1,.own 0),(2,.own 1),(3,.ptr 2 0),(6,.ptr 3 0),(9,.val 0),(10,.val 0),(22,.own 0),(23,.val 0),(24,.val 0)]),(161,[(1,.own 0),(2,.own 1),(3,.ptr 4 0),(4,.val 0),(5,.ptr 5 0),(6,.val 0)])],[.row 64 29,.row 66 30,.box 36 [.val 26],.box 54 [.own 6,.own 7],.box 42 [.own 8,.val 0,.val 22],.box 42 [.own 9,.val 0,.val 22],.row 3 0,.row 119 38,.row 84 45,.row 84 45]⟩ (λn=>kk17 (zdb φ n)) (λzk219=>.x)))) (.seq (.seq .x (.body (.loop ⟨[(99,[(1,.own 0),(2,.own 1),(3,.ptr 2 0),(6,.ptr 3 0),(9,.val 0),(10,.val 0),(45,.own 1),(46,.val 0),(47,.val 0)]),(161,[(1,.own 0),(2,.own 1),(3,.ptr 4 0),(4,.val 0),(5,.ptr 5 0),(6,.val 0)])],[.row 64 29,.row 66 30,.box 36 [.val 26],.box 54 [.own 6,.own 7],.box 42 [.own 8,.val 0,.val 22],.box 42 [.own 9,.val 0,.val 22],.row 3 0,.row 119 38,.row 84 45,.row 84 45]⟩ (λn=>kk17 (zdc φ n)) (λzk238=>.x)))) (.seq .x (.seq .x (.seq (.join ⟨[(99,[(6,.ptr 0 0)]),(161,[(1,.own 1),(2,.own 2),(3,.ptr 3 0),(4,.val 0),(5,.ptr 4 0),(6,.val 0)])],[.box 54 [.own 5,.own 6],.row 64 29,.row 66 30,.box 42 [.own 7,.val 0,.val 22],.box 42 [.own 8,.val 0,.val 22],.row 3 0,.row 119 38,.row 84 45,.row 84 45]⟩ (kk12 (z6n φ)) (.seq .x (.body (.rf 13 0 95 (.seq .x (.seq (.seq .x (.body (.loop ⟨[(112,[(0,.own 0),(1,.ptr 1 0),(2,.ptr 2 0),(3,.ptr 3 0),(5,.val 0),(6,.val 0),(22,.own 4),(23,.val 0),(24,.val 0)]),(100,[(6,.ptr 5 0),(99,.own 0)]),(161,[(1,.own 4),(2,.own 6),(3,.ptr 7 0),(4,.val 0),(5,.ptr 8 0),(6,.val 0)])],[.emp,.box 37 [.own 4],.box 38 [.own 6],.box 36 [.val 26],.row 64 29,.box 54 [.own 9,.own 10],.row 66 30,.box 42 [.own 11,.val 0,.val 22],.box 42 [.own 12,.val 0,.val 22],.row 3 0,.row 119 38,.row 84 45,.row 84 45]⟩ (λn=>kk17 (zdd φ n)) (λzk270=>(.seq .x (.seq .x (.seq (.body (.seq .x (.seq .x (.body (.loop ⟨[(112,[(0,.own 0),(1,.ptr 1 0),(2,.ptr 2 0),(3,.ptr 3 0),(5,.val 0),(6,.val 0),(7,.val 0),(8,.ptr 4 0),(22,.own 5),(23,.val 0),(24,.val 0),(29,.own 6),(30,.val 0),(31,.val 0)]),(100,[(6,.ptr 7 0),(99,.own 0)]),(161,[(1,.own 5),(2,.own 6),(3,.ptr 8 0),(4,.val 0),(5,.ptr 9 0),(6,.val 0)])],[.emp,.box 37 [.own 5],.box 38 [.own 6],.box 36 [.val 26],.box 64 [.val 29],.row 64 29,.row 66 30,.box 54 [.own 10,.own 11],.box 42 [.own 12,.val 0,.val 22],.box 42 [.own 13,.val 0,.val 22],.row 3 0,.row 119 38,.row 84 45,.row 84 45]⟩ (λn z=>z8t φ (λa0 a1 a2 a3 a4 a5 a6 a7 a8 a9 a10 a11 a12 a13 a14 a15 a16=>zk270 (a0,a1,a2,a3,a4,a5,a6,a7,a8,a9,a10,a11,a12,a13,a14,a15,a16,())) n z.1 z.2.1 z.2.2.1 z.2.2.2.1 z.2.2.2.2.1 z.2.2.2.2.2.1 z.2.2.2.2.2.2.1 z.2.2.2.2.2.2.2.1 z.2.2.2.2.2.2.2.2.1 z.2.2.2.2.2.2.2.2.2.1 z.2.2.2.2.2.2.2.2.2.2.1 z.2.2.2.2.2.2.2.2.2.2.2.1 z.2.2.2.2.2.2.2.2.2.2.2.2.1 z.2.2.2.2.2.2.2.2.2.2.2.2.2.1 z.2.2.2.2.2.2.2.2.2.2.2.2.2.2.1 z.2.2.2.2.2.2.2.2.2.2.2.2.2.2.2.1 z.2.2.2.2.2.2.2.2.2.2.2.2.2.2.2.2.1 z.2.2.2.2.2.2.2.2.2.2.2.2.2.2.2.2.2.1 z.2.2.2.2.2.2.2.2.2.2.2.2.2.2.2.2.2.2.1 z.2.2.2.2.2.2.2.2.2.2.2.2.2.2.2.2.2.2.2.1 z.2.2.2.2.2.2.2.2.2.2.2.2.2.2.2.2.2.2.2.2.1) (λzk292=>(.seq .x (.seq .x (.seq (.body (.seq .x (.seq .x (.seq (.yl 15 13 0 .x .x) .x)))) .x))))))))) .x))))))) (.seq (.seq .x (.body (.loop ⟨[(112,[(0,.own 0),(1,.ptr 1 0),(5,.val 0),(6,.val 0),(63,.own 2),(64,.val 0),(65,.val 0)]),(100,[(6,.ptr 3 0),(99,.own 0)]),(161,[(1,.own 4),(2,.own 2),(3,.ptr 5 0),(4,.val 0),(5,.ptr 6 0),(6,.val 0)])],[.emp,.box 37 [.own 4],.row 66 30,.box 54 [.own 7,.own 8],.row 64 29,.box 42 [.own 9,.val 0,.val 22],.box 42 [.own 10,.val 0,.val 22],.row 3 0,.row 119 38,.row 84 45,.row 84 45]⟩ (λn=>kk16 (zde φ n)) (λzk310=>(.seq .x (.seq .x (.seq (.body (.seq .x (.seq .x (.seq (.yl 11 13 0 .x .x) .x)))) .x))))))) (.seq (.seq .x (.body (.loop ⟨[(112,[(0,.own 0),(5,.val 0),(6,.val 0),(88,.own 1),(89,.val 0),(90,.val 0)]),(100,[(6,.ptr 2 0),(99,.own 0)]),(161,[(1,.own 1),(2,.own 3),(3,.ptr 4 0),(4,.val 0),(5,.ptr 5 0),(6,.val 0)])],[.emp,.row 64 29,.box 54 [.own 6,.own 7],.row 66 30,.box 42 [.own 8,.val 0,.val 22],.box 42 [.own 9,.val 0,.val 22],.row 3 0,.row 119 38,.row 84 45,.row 84 45]⟩ (λn=>kk16 (zdf φ n)) (λzk327=>(.seq .x (.seq .x (.seq (.body (.seq .x (.seq (.yl 7 13 0 .x .x) .x))) .x))))))) (.yl 6 13 0 .x .x))))))))) .x)))))))) .x)) (.seq .x (.seq (.join ⟨[(161,[(3,.ptr 0 0),(4,.val 0),(5,.ptr 1 0),(6,.val 0),(7,.ptr 2 0),(8,.val 0),(9,.ptr 3 0),(10,.val 0)])],[.box 42 [.own 4,.val 0,.val 22],.box 42 [.own 5,.val 0,.val 22],.box 54 [.own 6,.own 7],.box 54 [.own 8,.own 9],.row 84 45,.row 84 45,.row 3 0,.row 119 38,.row 3 0,.row 119 38]⟩ (kk14 (z4k φ)) (.ins 3 13 (.seq .x (.seq .x (.seq .x (.seq (.seq .x (.body (.loop ⟨[(99,[(1,.own 0),(2,.own 1),(3,.ptr 2 0),(6,.ptr 3 0),(9,.val 0),(10,.val 0),(22,.own 0),(23,.val 0),(24,.val 0)]),(161,[(3,.ptr 4 0),(4,.val 0),(5,.ptr 5 0),(6,.val 0),(7,.ptr 6 0),(8,.val 0)])],[.row 64 29,.row 66 30,.box 36 [.val 26],.box 54 [.own 7,.own 8],.box 42 [.own 9,.val 0,.val 22],.box 42 [.own 10,.val 0,.val 22],.box 54 [.own 11,.own 12],.row 3 0,.row 119 38,.row 84 45,.row 84 45,.row 3 0,.row 119 38]⟩ (λn=>kk20 (zfd φ n)) (λzk76=>.x)))) (.seq (.seq .x (.body (.loop ⟨[(99,[(1,.own 0),(2,.own 1),(3,.ptr 2 0),(6,.ptr 3 0),(9,.val 0),(10,.val 0),(45,.own 1),(46,.val 0),(47,.val 0)]),(161,[(3,.ptr 4 0),(4,.val 0),(5,.ptr 5 0),(6,.val 0),(7,.ptr 6 0),(8,.val 0)])],[.row 64 29,.row 66 30,.box 36 [.val 26],.box 54 [.own 7,.own 8],.box 42 [.own 9,.val 0,.val 22],.box 42 [.own 10,.val 0,.val 22],.box 54 [.own 11,.own 12],.row 3 0,.row 119 38,.row 84 45,.row 84 45,.row 3 0,.row 119 38]⟩ (λn=>kk20 (zfe φ n)) (λzk98=>.x)))) (.seq .x (.seq .x (.seq (.join ⟨[(99,[(6,.ptr 0 0)]),(161,[(3,.ptr 1 0),(4,.val 0),(5,.ptr 2 0),(6,.val 0),(7,.ptr 3 0),(8,.val 0)])],[.box 54 [.own 4,.own 5],.box 42 [.own 6,.val 0,.val 22],.box 42 [.own 7,.val 0,.val 22],.box 54 [.own 8,.own 9],.row 3 0,.row 119 38,.row 84 45,.row 84 45,.row 3 0,.row 119 38]⟩ (kk13 (z6m φ)) (.seq .x (.body (.rf 13 0 95 (.seq .x (.seq (.seq .x (.body (.loop ⟨[(112,[(0,.own 0),(1,.ptr 1 0),(2,.ptr 2 0),(3,.ptr 3 0),(5,.val 0),(6,.val 0),(22,.own 4),(23,.val 0),(24,.val 0)]),(100,[(6,.ptr 5 0),(99,.own 0)]),(161,[(3,.ptr 6 0),(4,.val 0),(5,.ptr 7 0),(6,.val 0),(7,.ptr 8 0),(8,.val 0)])],[.emp,.box 37 [.own 4],.box 38 [.own 9],.box 36 [.val 26],.row 64 29,.box 54 [.own 10,.own 11],.box 42 [.own 12,.val 0,.val 22],.box 42 [.own 13,.val 0,.val 22],.box 54 [.own 14,.own 15],.row 66 30,.row 3 0,.row 119 38,.row 84 45,.row 84 45,.row 3 0,.row 119 38]⟩ (λn=>kk20 (zd8 φ n)) (λzk134=>(.seq .x (.seq .x (.seq (.body (.seq .x (.seq .x (.body (.loop ⟨[(112,[(0,.own 0),(1,.ptr 1 0),(2,.ptr 2 0),(3,.ptr 3 0),(5,.val 0),(6,.val 0),(7,.val 0),(8,.ptr 4 0),(22,.own 5),(23,.val 0),(24,.val 0),(29,.own 6),(30,.val 0),(31,.val 0)]),(100,[(6,.ptr 7 0),(99,.own 0)]),(161,[(3,.ptr 8 0),(4,.val 0),(5,.ptr 9 0),(6,.val 0),(7,.ptr 10 0),(8,.val 0)])],[.emp,.box 37 [.own 5],.box 38 [.own 6],.box 36 [.val 26],.box 64 [.val 29],.row 64 29,.row 66 30,.box 54 [.own 11,.own 12],.box 42 [.own 13,.val 0,.val 22],.box 42 [.own 14,.val 0,.val 22],.box 54 [.own 15,.own 16],.row 3 0,.row 119 38,.row 84 45,.row 84 45,.row 3 0,.row 119 38]⟩ (λn z=>z8s φ (λa0 a1 a2 a3 a4 a5 a6 a7 a8 a9 a10 a11 a12 a13 a14 a15 a16 a17 a18 a19=>zk134 (a0,a1,a2,a3,a4,a5,a6,a7,a8,a9,a10,a11,a12,a13,a14,a15,a16,a17,a18,a19,())) n z.1 z.2.1 z.2.2.1 z.2.2.2.1 z.2.2.2.2.1 z.2.2.2.2.2.1 z.2.2.2.2.2.2.1 z.2.2.2.2.2.2.2.1 z.2.2.2.2.2.2.2.2.1 z.2.2.2.2.2.2.2.2.2.1 z.2.2.2.2.2.2.2.2.2.2.1 z.2.2.2.2.2.2.2.2.2.2.2.1 z.2.2.2.2.2.2.2.2.2.2.2.2.1 z.2.2.2.2.2.2.2.2.2.2.2.2.2.1 z.2.2.2.2.2.2.2.2.2.2.2.2.2.2.1 z.2.2.2.2.2.2.2.2.2.2.2.2.2.2.2.1 z.2.2.2.2.2.2.2.2.2.2.2.2.2.2.2.2.1 z.2.2.2.2.2.2.2.2.2.2.2.2.2.2.2.2.2.1 z.2.2.2.2.2.2.2.2.2.2.2.2.2.2.2.2.2.2.1 z.2.2.2.2.2.2.2.2.2.2.2.2.2.2.2.2.2.2.2.1 z.2.2.2.2.2.2.2.2.2.2.2.2.2.2.2.2.2.2.2.2.1 z.2.2.2.2.2.2.2.2.2.2.2.2.2.2.2.2.2.2.2.2.2.1 z.2.2.2.2.2.2.2.2.2.2.2.2.2.2.2.2.2.2.2.2.2.2.1 z.2.2.2.2.2.2.2.2.2.2.2.2.2.2.2.2.2.2.2.2.2.2.2.1) (λzk159=>(.seq .x (.seq .x (.seq (.body (.seq .x (.seq .x (.seq (.yl 15 13 0 .x .x) .x)))) .x))))))))) .x))))))) (.seq (.seq .x (.body (.loop ⟨[(112,[(0,.own 0),(1,.ptr 1 0),(5,.val 0),(6,.val 0),(63,.own 2),(64,.val 0),(65,.val 0)]),(100,[(6,.ptr 3 0),(99,.own 0)]),(161,[(3,.ptr 4 0),(4,.val 0),(5,.ptr 5 0),(6,.val 0),(7,.ptr 6 0),(8,.val 0)])],[.emp,.box 37 [.own 7],.row 66 30,.box 54 [.own 8,.own 9],.box 42 [.own 10,.val 0,.val 22],.box 42 [.own 11,.val 0,.val 22],.box 54 [.own 12,.own 13],.row 64 29,.row 3 0,.row 119 38,.row 84 45,.row 84 45,.row 3 0,.row 119 38]⟩ (λn=>kk19 (zd9 φ n)) (λzk180=>(.seq .x (.seq .x (.seq (.body (.seq .x (.seq .x (.seq (.yl 11 13 0 .x .x) .x)))) .x))))))) (.seq (.seq .x (.body (.loop ⟨[(112,[(0,.own 0),(5,.val 0),(6,.val 0),(88,.own 1),(89,.val 0),(90,.val 0)]),(100,[(6,.ptr 2 0),(99,.own 0)]),(161,[(3,.ptr 3 0),(4,.val 0),(5,.ptr 4 0),(6,.val 0),(7,.ptr 5 0),(8,.val 0)])],[.emp,.row 64 29,.box 54 [.own 6,.own 7],.box 42 [.own 8,.val 0,.val 22],.box 42 [.own 9,.val 0,.val 22],.box 54 [.own 10,.own 11],.row 3 0,.row 119 38,.row 84 45,.row 84 45,.row 3 0,.row 119 38]⟩ (λn=>kk18 (zda φ n)) (λzk199=>(.seq .x (.seq .x (.seq (.body (.seq .x (.seq (.yl 7 13 0 .x .x) .x))) .x))))))) (.yl 6 13 0 .x .x))))))))) .x)))))))) .x)) .x))))))))))
def zjr(P:Program)(φ:Nat):Env TV:=⟨P,lk [(25,zhe φ),(27,zeo φ),(34,z4z φ),(48,z5p φ),(49,z6h φ),(57,z6i φ),(65,zjj φ),(30,zha φ),(18,zbd φ)],lk [],lk [],lk []⟩
theorem y0y(φ:Nat)(a):(zjs φ).F a=fnX TV (zjr Tryz.prog φ) φ Tryz.f6 [] [.val 27] (zep φ) a:=by kernel_rfl
theorem y0x(φ:Nat):fnO TV (zjr Tryz.prog φ) φ Tryz.f6 [.val 27] (zep φ):=by
 unfold fnO;show obl _ _ _ _ _ _ _ _;unfold zep
 repeat' (first|exact trivial |(refine⟨?_,?_⟩) |(intro _)|kernel_rfl)
theorem y0w[Dr](φ:Nat):z0h TV Tryz.prog 6 (zjs φ):=z0l (N:=zjr Tryz.prog φ) (zq ⟨zx4 φ,zpl φ,z9r φ,zbh φ,zcr φ,zct φ,y0i φ,zru φ,zq4 φ,trivial⟩ trivial trivial trivial) (zep φ) Tryz.func6 (by kernel_rfl) (y0y φ) (y0x φ)
def z78(φ:Nat):H TV (RTup TT [.val 27]):=(.seq .x (.seq .x (.seq (.seq .x (.body (.loop ⟨[(65,[(1,.ptr 0 0),(3,.val 0)])],[.box 36 [.val 26]]⟩ (λn=>kk2 (z2t φ n)) (λzk4=>.x)))) .x)))
def za6(P:Program)(φ:Nat):Env TV:=⟨P,lk [],lk [],lk [],lk []⟩
theorem zox(φ:Nat)(a):(za7 φ).F a=fnX TV (za6 Tryz.prog φ) φ Tryz.f22 [26] [.val 27] (z78 φ) a:=by kernel_rfl
theorem zow(φ:Nat):fnO TV (za6 Tryz.prog φ) φ Tryz.f22 [.val 27] (z78 φ):=by
 unfold fnO;show obl _ _ _ _ _ _ _ _;unfold z78
 repeat' (first|exact trivial |(refine⟨?_,?_⟩) |(intro _)|kernel_rfl)
theorem zov[Dr](φ:Nat):z0h TV Tryz.prog 22 (za7 φ):=z0l (N:=za6 Tryz.prog φ) (zq trivial trivial trivial trivial) (z78 φ) Tryz.func22 (by kernel_rfl) (zox φ) (zow φ)
def zhf(φ:Nat):H TV (RTup TT [.val 27]):=.x
def zlv(P:Program)(φ:Nat):Env TV:=⟨P,lk [(22,za7 φ)],lk [],lk [],lk []⟩
theorem y3r(φ:Nat)(a):(zlw φ).F a=fnX TV (zlv Tryz.prog φ) φ Tryz.f7 [26,36,37] [.val 27] (zhf φ) a:=by kernel_rfl
theorem y3q(φ:Nat):fnO TV (zlv Tryz.prog φ) φ Tryz.f7 [.val 27] (zhf φ):=by
 unfold fnO;show obl _ _ _ _ _ _ _ _;unfold zhf
 repeat' (first|exact trivial |(refine⟨?_,?_⟩) |(intro _)|kernel_rfl)
theorem y3p[Dr](φ:Nat):z0h TV Tryz.prog 7 (zlw φ):=z0l (N:=zlv Tryz.prog φ) (zq ⟨zov φ,trivial⟩ trivial trivial trivial) (zhf φ) Tryz.func7 (by kernel_rfl) (y3r φ) (y3q φ)
def z79(φ:Nat):H TV (RTup TT [.row 3 0]):=.x
def za9(P:Program)(φ:Nat):Env TV:=⟨P,lk [],lk [],lk [],lk []⟩
theorem zp5(φ:Nat)(a):(zaa φ).F a=fnX TV (za9 Tryz.prog φ) φ Tryz.f66 [22] [.row 3 0] (z79 φ) a:=by kernel_rfl
theorem zp4(φ:Nat):fnO TV (za9 Tryz.prog φ) φ Tryz.f66 [.row 3 0] (z79 φ):=by
 unfold fnO;show obl _ _ _ _ _ _ _ _;unfold z79
 repeat' (first|exact trivial |(refine⟨?_,?_⟩) |(intro _)|kernel_rfl)
theorem zp3[Dr](φ:Nat):z0h TV Tryz.prog 66 (zaa φ):=z0l (N:=za9 Tryz.prog φ) (zq trivial trivial trivial trivial) (z79 φ) Tryz.func66 (by kernel_rfl) (zp5 φ) (zp4 φ)
def zae(φ:Nat):H TV (RTup TT [.val 22,.val 27]):=(.seq .x (.seq .x (.seq .x (.seq (.seq .x (.body (.loop ⟨[(140,[(1,.val 36),(3,.val 46),(8,.own 0),(10,.own 1),(11,.val 0),(24,.val 39),(25,.val 0),(26,.val 0)])],[.row 3 0,.row 3 0]⟩ (λn=>kk8 (zp φ n)) (λzk14=>(.seq .x (.seq .x (.seq (.body (.seq .x (.seq .x (.seq (.join ⟨[(140,[(1,.val 36),(3,.val 46),(8,.own 0),(10,.own 1),(11,.val 0),(13,.ptr 2 0),(14,.val 0),(24,.val 39),(25,.val 0),(26,.val 0)])],[.row 3 0,.row 3 0,.box 119 [.val 38]]⟩ (λz=>z2x φ (λa0 a1 a2 a3 a4 a5 a6 a7=>zk14 (a0,a1,a2,a3,a4,a5,a6,a7,())) z.1 z.2.1 z.2.2.1 z.2.2.2.1 z.2.2.2.2.1 z.2.2.2.2.2.1 z.2.2.2.2.2.2.1 z.2.2.2.2.2.2.2.1 z.2.2.2.2.2.2.2.2.1 z.2.2.2.2.2.2.2.2.2.1) (.body .x)) .x)))) .x))))))) .x))))
def zf1(P:Program)(φ:Nat):Env TV:=⟨P,lk [(66,zaa φ)],lk [],lk [],lk []⟩
theorem zts(φ:Nat)(a):(zf2 φ).F a=fnX TV (zf1 Tryz.prog φ) φ Tryz.f28 [40,36,37,46] [.val 22,.val 27] (zae φ) a:=by kernel_rfl
theorem ztr(φ:Nat):fnO TV (zf1 Tryz.prog φ) φ Tryz.f28 [.val 22,.val 27] (zae φ):=by
 unfold fnO;show obl _ _ _ _ _ _ _ _;unfold zae
 repeat' (first|exact trivial |(refine⟨?_,?_⟩) |(intro _)|kernel_rfl)
theorem ztq[Dr](φ:Nat):z0h TV Tryz.prog 28 (zf2 φ):=z0l (N:=zf1 Tryz.prog φ) (zq ⟨zp3 φ,trivial⟩ trivial trivial trivial) (zae φ) Tryz.func28 (by kernel_rfl) (zts φ) (ztr φ)
def zby(φ:Nat):H TV (RTup TT [.val 0]):=(.seq .x (.seq .x (.seq .x (.seq .x (.seq (.seq .x (.body (.loop ⟨[(87,[(2,.ptr 0 0),(3,.ptr 1 0),(28,.val 22),(29,.val 0),(30,.val 0)])],[.box 54 [.val 40],.box 88 [.val 41]]⟩ (λn=>kk5 (z3n φ n)) (λzk10=>.x)))) (.seq (.seq .x (.body (.loop ⟨[(87,[(3,.ptr 0 0),(39,.val 39),(40,.val 0),(41,.val 0)])],[.box 88 [.val 41]]⟩ (λn=>kk4 (z1i φ n)) (λzk16=>.x)))) .x))))))
def zh7(P:Program)(φ:Nat):Env TV:=⟨P,lk [(67,zav φ),(68,z8q φ),(69,z7j φ)],lk [],lk [],lk []⟩
theorem zwu(φ:Nat)(a):(zh8 φ).F a=fnX TV (zh7 Tryz.prog φ) φ Tryz.f29 [40,41] [.val 0] (zby φ) a:=by kernel_rfl
theorem zwt(φ:Nat):fnO TV (zh7 Tryz.prog φ) φ Tryz.f29 [.val 0] (zby φ):=by
 unfold fnO;show obl _ _ _ _ _ _ _ _;unfold zby
 repeat' (first|exact trivial |(refine⟨?_,?_⟩) |(intro _)|kernel_rfl)
theorem zws[Dr](φ:Nat):z0h TV Tryz.prog 29 (zh8 φ):=z0l (N:=zh7 Tryz.prog φ) (zq ⟨zjh φ,zjk φ,zfb φ,trivial⟩ trivial trivial trivial) (zby φ) Tryz.func29 (by kernel_rfl) (zwu φ) (zwt φ)
def z7r(φ:Nat):H TV (RTup TT [.val 0]):=.x
def zba(P:Program)(φ:Nat):Env TV:=⟨P,lk [(13,zgw φ),(28,zf2 φ),(29,zh8 φ),(30,zha φ)],lk [],lk [],lk []⟩
theorem zq3(φ:Nat)(a):(zbb φ).F a=fnX TV (zba Tryz.prog φ) φ Tryz.f8 [26,36,37,47] [.val 0] (z7r φ) a:=by kernel_rfl
theorem zq2(φ:Nat):fnO TV (zba Tryz.prog φ) φ Tryz.f8 [.val 0] (z7r φ):=by
 unfold fnO;show obl _ _ _ _ _ _ _ _;unfold z7r
 repeat' (first|exact trivial |(refine⟨?_,?_⟩) |(intro _)|kernel_rfl)
theorem zq1[Dr](φ:Nat):z0h TV Tryz.prog 8 (zbb φ):=z0l (N:=zba Tryz.prog φ) (zq ⟨zwc φ,ztq φ,zws φ,zru φ,trivial⟩ trivial trivial trivial) (z7r φ) Tryz.func8 (by kernel_rfl) (zq3 φ) (zq2 φ)
def z97(φ:Nat):H TV (RTup TT [.val 27]):=.x
def ze3(P:Program)(φ:Nat):Env TV:=⟨P,lk [],lk [],lk [],lk []⟩
theorem zt1(φ:Nat)(a):(z6t φ).F a=fnX TV (ze3 Tryz.prog φ) φ Tryz.f171 [0,0,0] [.val 27] (z97 φ) a:=by kernel_rfl
theorem zt0(φ:Nat):fnO TV (ze3 Tryz.prog φ) φ Tryz.f171 [.val 27] (z97 φ):=by
 unfold fnO;show obl _ _ _ _ _ _ _ _;unfold z97
 repeat' (first|exact trivial |(refine⟨?_,?_⟩) |(intro _)|kernel_rfl)
theorem ze4[Dr](φ:Nat):z0h TV Tryz.prog 171 (z6t φ):=z0l (N:=ze3 Tryz.prog φ) (zq trivial trivial trivial trivial) (z97 φ) Tryz.func171 (by kernel_rfl) (zt1 φ) (zt0 φ)
def zc9(φ:Nat):H TV (RTup TT [.val 27]):=.x
def zhw(P:Program)(φ:Nat):Env TV:=⟨P,lk [(171,z6t φ)],lk [],lk [],lk []⟩
theorem zy5(φ:Nat)(a):(zhx φ).F a=fnX TV (zhw Tryz.prog φ) φ Tryz.f131 [1] [.val 27] (zc9 φ) a:=by kernel_rfl
theorem zy4(φ:Nat):fnO TV (zhw Tryz.prog φ) φ Tryz.f131 [.val 27] (zc9 φ):=by
 unfold fnO;show obl _ _ _ _ _ _ _ _;unfold zc9
 repeat' (first|exact trivial |(refine⟨?_,?_⟩) |(intro _)|kernel_rfl)
theorem zy3[Dr](φ:Nat):z0h TV Tryz.prog 131 (zhx φ):=z0l (N:=zhw Tryz.prog φ) (zq ⟨ze4 φ,trivial⟩ trivial trivial trivial) (zc9 φ) Tryz.func131 (by kernel_rfl) (zy5 φ) (zy4 φ)
end Px
end
section
set_option maxHeartbeats 4000000
set_option maxRecDepth 100000
namespace Px
open Go Go.RowKit Go.Proofs
def zer(φ:Nat):H TV (RTup TT [.val 27]):=.x
def zjz(P:Program)(φ:Nat):Env TV:=⟨P,lk [(171,z6t φ)],lk [],lk [],lk []⟩
theorem y1n(φ:Nat)(a):(zk0 φ).F a=fnX TV (zjz Tryz.prog φ) φ Tryz.f132 [3,0] [.val 27] (zer φ) a:=by kernel_rfl
theorem y1m(φ:Nat):fnO TV (zjz Tryz.prog φ) φ Tryz.f132 [.val 27] (zer φ):=by
 unfold fnO;show obl _ _ _ _ _ _ _ _;unfold zer
 repeat' (first|exact trivial |(refine⟨?_,?_⟩) |(intro _)|kernel_rfl)
theorem y1l[Dr](φ:Nat):z0h TV Tryz.prog 132 (zk0 φ):=z0l (N:=zjz Tryz.prog φ) (zq ⟨ze4 φ,trivial⟩ trivial trivial trivial) (zer φ) Tryz.func132 (by kernel_rfl) (y1n φ) (y1m φ)
def zc6(φ:Nat):H TV (RTup TT [.val 0]):=(.seq .x (.seq .x (.seq (.seq .x (.body (.loop ⟨[(46,[(1,.ptr 0 0),(3,.val 0)])],[.box 25 [.val 5]]⟩ (λn=>kk2 (z5w φ n)) (λzk4=>.x)))) (.seq (.seq .x (.body (.loop ⟨[(46,[(1,.ptr 0 0),(4,.val 0)])],[.box 25 [.val 5]]⟩ (λn=>kk2 (z4l φ n)) (λzk8=>.x)))) .x))))
def zhs(P:Program)(φ:Nat):Env TV:=⟨P,lk [(131,zhx φ),(132,zk0 φ)],lk [],lk [],lk []⟩
theorem zxy(φ:Nat)(a):(zc7 φ).F a=fnX TV (zhs Tryz.prog φ) φ Tryz.f83 [5] [.val 0] (zc6 φ) a:=by kernel_rfl
theorem zxx(φ:Nat):fnO TV (zhs Tryz.prog φ) φ Tryz.f83 [.val 0] (zc6 φ):=by
 unfold fnO;show obl _ _ _ _ _ _ _ _;unfold zc6
 repeat' (first|exact trivial |(refine⟨?_,?_⟩) |(intro _)|kernel_rfl)
theorem znc[Dr](φ:Nat):z0h TV Tryz.prog 83 (zc7 φ):=z0l (N:=zhs Tryz.prog φ) (zq ⟨zy3 φ,y1l φ,trivial⟩ trivial trivial trivial) (zc6 φ) Tryz.func83 (by kernel_rfl) (zxy φ) (zxx φ)
def zan(φ:Nat):H TV (RTup TT [.val 27]):=.x
def zfp(P:Program)(φ:Nat):Env TV:=⟨P,lk [],lk [],lk [],lk []⟩
theorem zuf(φ:Nat)(a):(z2c φ).F a=fnX TV (zfp Tryz.prog φ) φ Tryz.f135 [0,0,0] [.val 27] (zan φ) a:=by kernel_rfl
theorem zue(φ:Nat):fnO TV (zfp Tryz.prog φ) φ Tryz.f135 [.val 27] (zan φ):=by
 unfold fnO;show obl _ _ _ _ _ _ _ _;unfold zan
 repeat' (first|exact trivial |(refine⟨?_,?_⟩) |(intro _)|kernel_rfl)
theorem z4q[Dr](φ:Nat):z0h TV Tryz.prog 135 (z2c φ):=z0l (N:=zfp Tryz.prog φ) (zq trivial trivial trivial trivial) (zan φ) Tryz.func135 (by kernel_rfl) (zuf φ) (zue φ)
def z77(φ:Nat):H TV (RTup TT [.val 27]):=.x
def za4(P:Program)(φ:Nat):Env TV:=⟨P,lk [(135,z2c φ)],lk [],lk [],lk []⟩
theorem zou(φ:Nat)(a):(za5 φ).F a=fnX TV (za4 Tryz.prog φ) φ Tryz.f133 [7] [.val 27] (z77 φ) a:=by kernel_rfl
theorem zot(φ:Nat):fnO TV (za4 Tryz.prog φ) φ Tryz.f133 [.val 27] (z77 φ):=by
 unfold fnO;show obl _ _ _ _ _ _ _ _;unfold z77
 repeat' (first|exact trivial |(refine⟨?_,?_⟩) |(intro _)|kernel_rfl)
theorem zos[Dr](φ:Nat):z0h TV Tryz.prog 133 (za5 φ):=z0l (N:=za4 Tryz.prog φ) (zq ⟨z4q φ,trivial⟩ trivial trivial trivial) (z77 φ) Tryz.func133 (by kernel_rfl) (zou φ) (zot φ)
def z6b(φ:Nat):H TV (RTup TT [.val 27]):=.x
def z9a(P:Program)(φ:Nat):Env TV:=⟨P,lk [(135,z2c φ)],lk [],lk [],lk []⟩
theorem zng(φ:Nat)(a):(z9b φ).F a=fnX TV (z9a Tryz.prog φ) φ Tryz.f134 [9,0] [.val 27] (z6b φ) a:=by kernel_rfl
theorem znf(φ:Nat):fnO TV (z9a Tryz.prog φ) φ Tryz.f134 [.val 27] (z6b φ):=by
 unfold fnO;show obl _ _ _ _ _ _ _ _;unfold z6b
 repeat' (first|exact trivial |(refine⟨?_,?_⟩) |(intro _)|kernel_rfl)
theorem zne[Dr](φ:Nat):z0h TV Tryz.prog 134 (z9b φ):=z0l (N:=z9a Tryz.prog φ) (zq ⟨z4q φ,trivial⟩ trivial trivial trivial) (z6b φ) Tryz.func134 (by kernel_rfl) (zng φ) (znf φ)
def zam(φ:Nat):H TV (RTup TT [.val 0]):=(.seq .x (.seq .x (.seq (.seq .x (.body (.loop ⟨[(57,[(0,.val 14),(3,.own 0),(4,.val 0)])],[.fix 4 27]⟩ (λn=>kk3 (z5e φ n)) (λzk5=>.x)))) .x)))
def zfn(P:Program)(φ:Nat):Env TV:=⟨P,lk [(135,z2c φ)],lk [],lk [],lk []⟩
theorem zud(φ:Nat)(a):(zfo φ).F a=fnX TV (zfn Tryz.prog φ) φ Tryz.f136 [14] [.val 0] (zam φ) a:=by kernel_rfl
theorem zuc(φ:Nat):fnO TV (zfn Tryz.prog φ) φ Tryz.f136 [.val 0] (zam φ):=by
 unfold fnO;show obl _ _ _ _ _ _ _ _;unfold zam
 repeat' (first|exact trivial |(refine⟨?_,?_⟩) |(intro _)|kernel_rfl)
theorem zub[Dr](φ:Nat):z0h TV Tryz.prog 136 (zfo φ):=z0l (N:=zfn Tryz.prog φ) (zq ⟨z4q φ,trivial⟩ trivial trivial trivial) (zam φ) Tryz.func136 (by kernel_rfl) (zud φ) (zuc φ)
def zca(φ:Nat):H TV (RTup TT [.val 0]):=(.seq .x (.seq .x (.seq (.seq .x (.body (.loop ⟨[(106,[(1,.ptr 0 0),(3,.val 0)])],[.box 31 [.val 15]]⟩ (λn=>kk2 (z5y φ n)) (λzk4=>.x)))) (.seq (.seq .x (.body (.loop ⟨[(106,[(1,.ptr 0 0),(4,.val 0)])],[.box 31 [.val 15]]⟩ (λn=>kk2 (z4m φ n)) (λzk8=>.x)))) (.seq (.seq .x (.body (.loop ⟨[(106,[(1,.ptr 0 0),(5,.val 0)])],[.box 31 [.val 15]]⟩ (λn=>kk2 (z3q φ n)) (λzk12=>.x)))) .x)))))
def zhy(P:Program)(φ:Nat):Env TV:=⟨P,lk [(133,za5 φ),(134,z9b φ),(135,z2c φ),(136,zfo φ)],lk [],lk [],lk []⟩
theorem zy7(φ:Nat)(a):(z99 φ).F a=fnX TV (zhy Tryz.prog φ) φ Tryz.f84 [15] [.val 0] (zca φ) a:=by kernel_rfl
theorem zy6(φ:Nat):fnO TV (zhy Tryz.prog φ) φ Tryz.f84 [.val 0] (zca φ):=by
 unfold fnO;show obl _ _ _ _ _ _ _ _;unfold zca
 repeat' (first|exact trivial |(refine⟨?_,?_⟩) |(intro _)|kernel_rfl)
theorem zhz[Dr](φ:Nat):z0h TV Tryz.prog 84 (z99 φ):=z0l (N:=zhy Tryz.prog φ) (zq ⟨zos φ,zne φ,z4q φ,zub φ,trivial⟩ trivial trivial trivial) (zca φ) Tryz.func84 (by kernel_rfl) (zy7 φ) (zy6 φ)
def zes(φ:Nat):H TV (RTup TT [.val 27]):=(.seq .x (.seq .x (.seq (.seq .x (.body (.loop ⟨[(96,[(1,.ptr 0 0),(3,.val 0),(4,.val 0)])],[.box 36 [.val 26]]⟩ (λn=>kk3 (z76 φ n)) (λzk5=>.x)))) (.seq (.seq .x (.body (.loop ⟨[(96,[(1,.ptr 0 0),(3,.val 0),(6,.val 0)])],[.box 36 [.val 26]]⟩ (λn=>kk3 (z4n φ n)) (λzk10=>.x)))) (.seq (.seq .x (.body (.loop ⟨[(96,[(1,.ptr 0 0),(3,.val 0),(7,.val 0)])],[.box 36 [.val 26]]⟩ (λn=>kk3 (z4o φ n)) (λzk15=>.x)))) .x)))))
def zk1(P:Program)(φ:Nat):Env TV:=⟨P,lk [(135,z2c φ)],lk [],lk [],lk []⟩
theorem y1q(φ:Nat)(a):(zk2 φ).F a=fnX TV (zk1 Tryz.prog φ) φ Tryz.f85 [26] [.val 27] (zes φ) a:=by kernel_rfl
theorem y1p(φ:Nat):fnO TV (zk1 Tryz.prog φ) φ Tryz.f85 [.val 27] (zes φ):=by
 unfold fnO;show obl _ _ _ _ _ _ _ _;unfold zes
 repeat' (first|exact trivial |(refine⟨?_,?_⟩) |(intro _)|kernel_rfl)
theorem y1o[Dr](φ:Nat):z0h TV Tryz.prog 85 (zk2 φ):=z0l (N:=zk1 Tryz.prog φ) (zq ⟨z4q φ,trivial⟩ trivial trivial trivial) (zes φ) Tryz.func85 (by kernel_rfl) (y1q φ) (y1p φ)
def zcd(φ:Nat):H TV (RTup TT [.val 27]):=(.seq .x (.seq .x (.seq (.seq .x (.body (.loop ⟨[(51,[(1,.ptr 0 0),(3,.val 0),(4,.val 0)])],[.box 36 [.val 26]]⟩ (λn=>kk3 (z60 φ n)) (λzk5=>.x)))) (.seq (.seq .x (.body (.loop ⟨[(51,[(1,.ptr 0 0),(3,.val 0),(6,.val 0)])],[.box 36 [.val 26]]⟩ (λn=>kk3 (z4p φ n)) (λzk9=>.x)))) .x))))
def zi6(P:Program)(φ:Nat):Env TV:=⟨P,lk [],lk [],lk [],lk []⟩
theorem zyh(φ:Nat)(a):(zi7 φ).F a=fnX TV (zi6 Tryz.prog φ) φ Tryz.f86 [26] [.val 27] (zcd φ) a:=by kernel_rfl
theorem zyg(φ:Nat):fnO TV (zi6 Tryz.prog φ) φ Tryz.f86 [.val 27] (zcd φ):=by
 unfold fnO;show obl _ _ _ _ _ _ _ _;unfold zcd
 repeat' (first|exact trivial |(refine⟨?_,?_⟩) |(intro _)|kernel_rfl)
theorem zyf[Dr](φ:Nat):z0h TV Tryz.prog 86 (zi7 φ):=z0l (N:=zi6 Tryz.prog φ) (zq trivial trivial trivial trivial) (zcd φ) Tryz.func86 (by kernel_rfl) (zyh φ) (zyg φ)
def zc5(φ:Nat):H TV (RTup TT [.val 0]):=(.seq .x (.seq (.seq .x (.body (.loop ⟨[(62,[(1,.ptr 0 0),(3,.val 0)])],[.box 129 [.val 23]]⟩ (λn=>kk2 (z5u φ n)) (λzk4=>.x)))) (.seq (.seq .x (.body (.loop ⟨[(62,[(1,.ptr 0 0),(5,.val 0)])],[.box 129 [.val 23]]⟩ (λn=>kk2 (z5v φ n)) (λzk7=>.x)))) .x)))
def zhq(P:Program)(φ:Nat):Env TV:=⟨P,lk [],lk [],lk [],lk []⟩
theorem zxw(φ:Nat)(a):(zhr φ).F a=fnX TV (zhq Tryz.prog φ) φ Tryz.f87 [23] [.val 0] (zc5 φ) a:=by kernel_rfl
theorem zxv(φ:Nat):fnO TV (zhq Tryz.prog φ) φ Tryz.f87 [.val 0] (zc5 φ):=by
 unfold fnO;show obl _ _ _ _ _ _ _ _;unfold zc5
 repeat' (first|exact trivial |(refine⟨?_,?_⟩) |(intro _)|kernel_rfl)
theorem zxu[Dr](φ:Nat):z0h TV Tryz.prog 87 (zhr φ):=z0l (N:=zhq Tryz.prog φ) (zq trivial trivial trivial trivial) (zc5 φ) Tryz.func87 (by kernel_rfl) (zxw φ) (zxv φ)
def zc3(φ:Nat):H TV (RTup TT [.val 6]):=(.seq .x (.seq .x (.seq (.body (.loop ⟨[(26,[(0,.val 6),(1,.val 6),(2,.val 6),(7,.val 6)])],[]⟩ (λn=>kk4 (z3d φ n)) (λzk8=>(.seq .x (.seq (.body (.seq (.join ⟨[(26,[(0,.val 6),(1,.val 6),(2,.val 6),(7,.val 6)])],[]⟩ (λz=>z95 φ (λa0 a1 a2 a3=>zk8 (a0,a1,a2,a3,())) z.1 z.2.1 z.2.2.1 z.2.2.2.1) (.seq .x .x)) .x)) .x))))) .x)))
def zhk(P:Program)(φ:Nat):Env TV:=⟨P,lk [],lk [],lk [],lk []⟩
theorem zxq(φ:Nat)(a):(zhl φ).F a=fnX TV (zhk Tryz.prog φ) φ Tryz.f172 [6,6,6] [.val 6] (zc3 φ) a:=by kernel_rfl
theorem zxp(φ:Nat):fnO TV (zhk Tryz.prog φ) φ Tryz.f172 [.val 6] (zc3 φ):=by
 unfold fnO;show obl _ _ _ _ _ _ _ _;unfold zc3
 repeat' (first|exact trivial |(refine⟨?_,?_⟩) |(intro _)|kernel_rfl)
theorem zxo[Dr](φ:Nat):z0h TV Tryz.prog 172 (zhl φ):=z0l (N:=zhk Tryz.prog φ) (zq trivial trivial trivial trivial) (zc3 φ) Tryz.func172 (by kernel_rfl) (zxq φ) (zxp φ)
def zhj(φ:Nat):H TV (RTup TT [.val 6]):=(.seq .x (.seq .x (.seq (.seq .x (.body (.loop ⟨[(22,[(0,.val 6),(1,.val 6),(5,.val 6)])],[]⟩ (λn=>kk3 (z5j φ n)) (λzk6=>(.seq .x (.seq (.body (.seq (.join ⟨[(22,[(0,.val 6),(1,.val 6),(5,.val 6)])],[]⟩ (λz=>zc2 φ (λa0 a1 a2=>zk6 (a0,a1,a2,())) z.1 z.2.1 z.2.2.1) (.seq .x .x)) .x)) .x)))))) .x)))
def zm2(P:Program)(φ:Nat):Env TV:=⟨P,lk [(172,zhl φ)],lk [],lk [],lk []⟩
theorem y4a(φ:Nat)(a):(zm3 φ).F a=fnX TV (zm2 Tryz.prog φ) φ Tryz.f137 [6,6] [.val 6] (zhj φ) a:=by kernel_rfl
theorem y48(φ:Nat):fnO TV (zm2 Tryz.prog φ) φ Tryz.f137 [.val 6] (zhj φ):=by
 unfold fnO;show obl _ _ _ _ _ _ _ _;unfold zhj
 repeat' (first|exact trivial |(refine⟨?_,?_⟩) |(intro _)|kernel_rfl)
theorem y47[Dr](φ:Nat):z0h TV Tryz.prog 137 (zm3 φ):=z0l (N:=zm2 Tryz.prog φ) (zq ⟨zxo φ,trivial⟩ trivial trivial trivial) (zhj φ) Tryz.func137 (by kernel_rfl) (y4a φ) (y48 φ)
def zc4(φ:Nat):H TV (RTup TT [.val 27]):=.x
def zhn(P:Program)(φ:Nat):Env TV:=⟨P,lk [(137,zm3 φ)],lk [],lk [],lk []⟩
theorem zxt(φ:Nat)(a):(zho φ).F a=fnX TV (zhn Tryz.prog φ) φ Tryz.f88 [6] [.val 27] (zc4 φ) a:=by kernel_rfl
theorem zxs(φ:Nat):fnO TV (zhn Tryz.prog φ) φ Tryz.f88 [.val 27] (zc4 φ):=by
 unfold fnO;show obl _ _ _ _ _ _ _ _;unfold zc4
 repeat' (first|exact trivial |(refine⟨?_,?_⟩) |(intro _)|kernel_rfl)
theorem zxr[Dr](φ:Nat):z0h TV Tryz.prog 88 (zho φ):=z0l (N:=zhn Tryz.prog φ) (zq ⟨y47 φ,trivial⟩ trivial trivial trivial) (zc4 φ) Tryz.func88 (by kernel_rfl) (zxt φ) (zxs φ)
def z75(φ:Nat):H TV (RTup TT [.val 0]):=(.seq .x (.seq .x (.seq .x (.seq .x (.seq .x (.seq .x (.seq .x (.seq (.seq .x (.body (.loop ⟨[(70,[(1,.ptr 0 0),(4,.val 0)])],[.box 36 [.val 26]]⟩ (λn=>kk2 (z1m φ n)) (λzk8=>.x)))) .x))))))))
def za2(P:Program)(φ:Nat):Env TV:=⟨P,lk [(83,zc7 φ),(84,z99 φ),(85,zk2 φ),(86,zi7 φ),(87,zhr φ),(88,zho φ)],lk [],lk [],lk []⟩
theorem zor(φ:Nat)(a):(za3 φ).F a=fnX TV (za2 Tryz.prog φ) φ Tryz.f42 [26] [.val 0] (z75 φ) a:=by kernel_rfl
theorem zoq(φ:Nat):fnO TV (za2 Tryz.prog φ) φ Tryz.f42 [.val 0] (z75 φ):=by
 unfold fnO;show obl _ _ _ _ _ _ _ _;unfold z75
 repeat' (first|exact trivial |(refine⟨?_,?_⟩) |(intro _)|kernel_rfl)
theorem zop[Dr](φ:Nat):z0h TV Tryz.prog 42 (za3 φ):=z0l (N:=za2 Tryz.prog φ) (zq ⟨znc φ,zhz φ,y1o φ,zyf φ,zxu φ,zxr φ,trivial⟩ trivial trivial trivial) (z75 φ) Tryz.func42 (by kernel_rfl) (zor φ) (zoq φ)
def z9e(φ:Nat):H TV (RTup TT [.val 27]):=.x
def ze8(P:Program)(φ:Nat):Env TV:=⟨P,lk [],lk [],lk [],lk []⟩
theorem zt5(φ:Nat)(a):(z9f φ).F a=fnX TV (ze8 Tryz.prog φ) φ Tryz.f43 [0,0,0] [.val 27] (z9e φ) a:=by kernel_rfl
theorem zt4(φ:Nat):fnO TV (ze8 Tryz.prog φ) φ Tryz.f43 [.val 27] (z9e φ):=by
 unfold fnO;show obl _ _ _ _ _ _ _ _;unfold z9e
 repeat' (first|exact trivial |(refine⟨?_,?_⟩) |(intro _)|kernel_rfl)
theorem zkd[Dr](φ:Nat):z0h TV Tryz.prog 43 (z9f φ):=z0l (N:=ze8 Tryz.prog φ) (zq trivial trivial trivial trivial) (z9e φ) Tryz.func43 (by kernel_rfl) (zt5 φ) (zt4 φ)
def zar(φ:Nat):H TV (RTup TT [.val 27]):=.x
def zfw(P:Program)(φ:Nat):Env TV:=⟨P,lk [(43,z9f φ)],lk [],lk [],lk []⟩
theorem zus(φ:Nat)(a):(zfx φ).F a=fnX TV (zfw Tryz.prog φ) φ Tryz.f51 [26,29] [.val 27] (zar φ) a:=by kernel_rfl
theorem zur(φ:Nat):fnO TV (zfw Tryz.prog φ) φ Tryz.f51 [.val 27] (zar φ):=by
 unfold fnO;show obl _ _ _ _ _ _ _ _;unfold zar
 repeat' (first|exact trivial |(refine⟨?_,?_⟩) |(intro _)|kernel_rfl)
theorem zuq[Dr](φ:Nat):z0h TV Tryz.prog 51 (zfx φ):=z0l (N:=zfw Tryz.prog φ) (zq ⟨zkd φ,trivial⟩ trivial trivial trivial) (zar φ) Tryz.func51 (by kernel_rfl) (zus φ) (zur φ)
def zch(φ:Nat):H TV (RTup TT [.val 27]):=.x
def zic(P:Program)(φ:Nat):Env TV:=⟨P,lk [(43,z9f φ)],lk [],lk [],lk []⟩
theorem zyr(φ:Nat)(a):(zid φ).F a=fnX TV (zic Tryz.prog φ) φ Tryz.f52 [26,30] [.val 27] (zch φ) a:=by kernel_rfl
theorem zyq(φ:Nat):fnO TV (zic Tryz.prog φ) φ Tryz.f52 [.val 27] (zch φ):=by
 unfold fnO;show obl _ _ _ _ _ _ _ _;unfold zch
 repeat' (first|exact trivial |(refine⟨?_,?_⟩) |(intro _)|kernel_rfl)
theorem zyp[Dr](φ:Nat):z0h TV Tryz.prog 52 (zid φ):=z0l (N:=zic Tryz.prog φ) (zq ⟨zkd φ,trivial⟩ trivial trivial trivial) (zch φ) Tryz.func52 (by kernel_rfl) (zyr φ) (zyq φ)
def zaj(φ:Nat):H TV (RTup TT [.val 27]):=.x
def zfj(P:Program)(φ:Nat):Env TV:=⟨P,lk [(171,z6t φ)],lk [],lk [],lk []⟩
theorem zu3(φ:Nat)(a):(zak φ).F a=fnX TV (zfj Tryz.prog φ) φ Tryz.f148 [5,0] [.val 27] (zaj φ) a:=by kernel_rfl
theorem zu2(φ:Nat):fnO TV (zfj Tryz.prog φ) φ Tryz.f148 [.val 27] (zaj φ):=by
 unfold fnO;show obl _ _ _ _ _ _ _ _;unfold zaj
 repeat' (first|exact trivial |(refine⟨?_,?_⟩) |(intro _)|kernel_rfl)
theorem zlk[Dr](φ:Nat):z0h TV Tryz.prog 148 (zak φ):=z0l (N:=zfj Tryz.prog φ) (zq ⟨ze4 φ,trivial⟩ trivial trivial trivial) (zaj φ) Tryz.func148 (by kernel_rfl) (zu3 φ) (zu2 φ)
def zal(φ:Nat):H TV (RTup TT [.val 0]):=.x
def zfk(P:Program)(φ:Nat):Env TV:=⟨P,lk [],lk [],lk [],lk []⟩
theorem zu6(φ:Nat)(a):(zfl φ).F a=fnX TV (zfk Tryz.prog φ) φ Tryz.f178 [0,0] [.val 0] (zal φ) a:=by kernel_rfl
theorem zu5(φ:Nat):fnO TV (zfk Tryz.prog φ) φ Tryz.f178 [.val 0] (zal φ):=by
 unfold fnO;show obl _ _ _ _ _ _ _ _;unfold zal
 repeat' (first|exact trivial |(refine⟨?_,?_⟩) |(intro _)|kernel_rfl)
theorem zu4[Dr](φ:Nat):z0h TV Tryz.prog 178 (zfl φ):=z0l (N:=zfk Tryz.prog φ) (zq trivial trivial trivial trivial) (zal φ) Tryz.func178 (by kernel_rfl) (zu6 φ) (zu5 φ)
def zc8(φ:Nat):H TV (RTup TT [.val 22,.val 0]):=(.seq .x (.seq .x (.seq .x (.seq .x (.seq .x (.seq (.seq .x (.body (.loop ⟨[(106,[(1,.val 0),(2,.ptr 0 0),(7,.own 1),(8,.val 0)])],[.box 25 [.val 5],.row 3 0]⟩ (λn=>kk4 (z5x φ n)) (λzk9=>.x)))) (.seq .x (.seq .x (.seq (.body (.loop ⟨[(106,[(2,.ptr 0 0),(7,.own 1),(9,.val 27)])],[.box 25 [.val 5],.row 3 0]⟩ (λn=>kk3 (z1k φ n)) (λzk13=>(.seq .x (.body (.seq .x (.seq .x (.body (.loop ⟨[(106,[(2,.ptr 0 0),(7,.own 1),(9,.val 27),(10,.val 0)])],[.box 25 [.val 5],.row 3 0]⟩ (λn z=>z0m φ (λa0 a1 a2=>zk13 (a0,a1,a2,())) n z.1 z.2.1 z.2.2.1 z.2.2.2.1) (λzk18=>(.seq .x (.seq (.body (.seq .x (.seq .x (.seq .x (.seq (.join ⟨[(106,[(2,.ptr 0 0),(7,.own 1),(9,.val 27),(10,.val 0),(11,.ptr 2 0),(12,.val 0),(13,.val 0)])],[.box 25 [.val 5],.row 3 0,.box 153 [.val 3]]⟩ (λz=>z6s φ (λa0 a1 a2 a3=>zk18 (a0,a1,a2,a3,())) z.1 z.2.1 z.2.2.1 z.2.2.2.1 z.2.2.2.2.1 z.2.2.2.2.2.1 z.2.2.2.2.2.2.1) (.seq .x .x)) (.seq (.join ⟨[(106,[(2,.ptr 0 0),(7,.own 1),(9,.val 27),(10,.val 0),(11,.ptr 2 0),(12,.val 0),(13,.val 0)])],[.box 25 [.val 5],.row 3 0,.box 153 [.val 3]]⟩ (λz=>z5b φ (λa0 a1 a2 a3=>zk18 (a0,a1,a2,a3,())) z.1 z.2.1 z.2.2.1 z.2.2.2.1 z.2.2.2.2.1 z.2.2.2.2.2.1 z.2.2.2.2.2.2.1) (.seq .x .x)) .x)))))) .x)))))))))))) .x)))))))))
def zht(P:Program)(φ:Nat):Env TV:=⟨P,lk [(83,zc7 φ),(148,zak φ),(178,zfl φ)],lk [],lk [],lk []⟩
theorem zy1(φ:Nat)(a):(zhu φ).F a=fnX TV (zht Tryz.prog φ) φ Tryz.f147 [5,0] [.val 22,.val 0] (zc8 φ) a:=by kernel_rfl
theorem zy0(φ:Nat):fnO TV (zht Tryz.prog φ) φ Tryz.f147 [.val 22,.val 0] (zc8 φ):=by
 unfold fnO;show obl _ _ _ _ _ _ _ _;unfold zc8
 repeat' (first|exact trivial |(refine⟨?_,?_⟩) |(intro _)|kernel_rfl)
theorem zxz[Dr](φ:Nat):z0h TV Tryz.prog 147 (zhu φ):=z0l (N:=zht Tryz.prog φ) (zq ⟨znc φ,zlk φ,zu4 φ,trivial⟩ trivial trivial trivial) (zc8 φ) Tryz.func147 (by kernel_rfl) (zy1 φ) (zy0 φ)
def z96(φ:Nat):H TV (RTup TT [.val 0,.val 0]):=.x
def ze0(P:Program)(φ:Nat):Env TV:=⟨P,lk [(147,zhu φ),(148,zak φ)],lk [],lk [],lk []⟩
theorem zsz(φ:Nat)(a):(ze1 φ).F a=fnX TV (ze0 Tryz.prog φ) φ Tryz.f96 [5,0,0] [.val 0,.val 0] (z96 φ) a:=by kernel_rfl
theorem zsy(φ:Nat):fnO TV (ze0 Tryz.prog φ) φ Tryz.f96 [.val 0,.val 0] (z96 φ):=by
 unfold fnO;show obl _ _ _ _ _ _ _ _;unfold z96
 repeat' (first|exact trivial |(refine⟨?_,?_⟩) |(intro _)|kernel_rfl)
theorem zsx[Dr](φ:Nat):z0h TV Tryz.prog 96 (ze1 φ):=z0l (N:=ze0 Tryz.prog φ) (zq ⟨zxz φ,zlk φ,trivial⟩ trivial trivial trivial) (z96 φ) Tryz.func96 (by kernel_rfl) (zsz φ) (zsy φ)
def zcb(φ:Nat):H TV (RTup TT [.val 0,.val 0]):=(.seq .x (.seq .x (.seq .x (.seq .x (.seq (.seq .x (.body (.loop ⟨[(54,[(1,.val 0),(2,.val 0),(3,.ptr 0 0),(9,.val 0)])],[.box 31 [.val 15]]⟩ (λn=>kk4 (z5c φ n)) (λzk11=>.x)))) .x)))))
def zi0(P:Program)(φ:Nat):Env TV:=⟨P,lk [(84,z99 φ),(135,z2c φ)],lk [],lk [],lk []⟩
theorem zya(φ:Nat)(a):(zi1 φ).F a=fnX TV (zi0 Tryz.prog φ) φ Tryz.f97 [15,0,0] [.val 0,.val 0] (zcb φ) a:=by kernel_rfl
theorem zy9(φ:Nat):fnO TV (zi0 Tryz.prog φ) φ Tryz.f97 [.val 0,.val 0] (zcb φ):=by
 unfold fnO;show obl _ _ _ _ _ _ _ _;unfold zcb
 repeat' (first|exact trivial |(refine⟨?_,?_⟩) |(intro _)|kernel_rfl)
theorem zy8[Dr](φ:Nat):z0h TV Tryz.prog 97 (zi1 φ):=z0l (N:=zi0 Tryz.prog φ) (zq ⟨zhz φ,z4q φ,trivial⟩ trivial trivial trivial) (zcb φ) Tryz.func97 (by kernel_rfl) (zya φ) (zy9 φ)
def zcc(φ:Nat):H TV (RTup TT [.val 12,.val 0]):=(.seq .x (.seq .x (.seq .x (.seq .x (.seq .x (.seq (.seq .x (.body (.loop ⟨[(118,[(1,.val 0),(2,.ptr 0 0),(7,.own 1),(8,.val 0)])],[.box 31 [.val 15],.row 3 0]⟩ (λn=>kk4 (z5z φ n)) (λzk9=>.x)))) (.seq .x (.seq (.seq .x (.body (.loop ⟨[(118,[(1,.val 0),(2,.ptr 0 0),(7,.own 1),(9,.val 0)])],[.box 31 [.val 15],.row 3 0]⟩ (λn=>kk4 (z5d φ n)) (λzk14=>(.seq .x (.seq (.body (.seq .x (.body (.loop ⟨[(118,[(1,.val 0),(2,.ptr 0 0),(7,.own 1),(9,.val 0),(10,.val 0)])],[.box 31 [.val 15],.row 3 0]⟩ (λn z=>z1n φ (λa0 a1 a2 a3=>zk14 (a0,a1,a2,a3,())) n z.1 z.2.1 z.2.2.1 z.2.2.2.1 z.2.2.2.2.1) (λzk20=>.x))))) .x)))))) (.seq .x (.seq (.seq .x (.body (.loop ⟨[(118,[(1,.val 0),(7,.own 0),(13,.own 1),(14,.val 0)])],[.row 3 0,.row 157 11]⟩ (λn=>kk4 (z2n φ n)) (λzk25=>.x)))) .x))))))))))
def zi3(P:Program)(φ:Nat):Env TV:=⟨P,lk [(84,z99 φ),(135,z2c φ)],lk [],lk [],lk []⟩
theorem zyd(φ:Nat)(a):(zi4 φ).F a=fnX TV (zi3 Tryz.prog φ) φ Tryz.f98 [15,0] [.val 12,.val 0] (zcc φ) a:=by kernel_rfl
theorem zyc(φ:Nat):fnO TV (zi3 Tryz.prog φ) φ Tryz.f98 [.val 12,.val 0] (zcc φ):=by
 unfold fnO;show obl _ _ _ _ _ _ _ _;unfold zcc
 repeat' (first|exact trivial |(refine⟨?_,?_⟩) |(intro _)|kernel_rfl)
theorem zyb[Dr](φ:Nat):z0h TV Tryz.prog 98 (zi4 φ):=z0l (N:=zi3 Tryz.prog φ) (zq ⟨zhz φ,z4q φ,trivial⟩ trivial trivial trivial) (zcc φ) Tryz.func98 (by kernel_rfl) (zyd φ) (zyc φ)
def zci(φ:Nat):H TV (RTup TT [.val 0,.val 27]):=(.seq .x (.seq .x (.seq .x (.seq .x (.seq (.join ⟨[(103,[(3,.ptr 0 0),(4,.ptr 1 0),(5,.ptr 2 0),(8,.val 0),(10,.val 0)])],[.box 36 [.val 26],.box 64 [.val 29],.box 66 [.val 30]]⟩ (kk5 (z3s φ)) (.seq .x .x)) (.seq .x (.seq (.seq .x (.body (.loop ⟨[(103,[(4,.ptr 0 0),(5,.ptr 1 0),(8,.val 0),(10,.val 0),(13,.val 12),(15,.val 0)])],[.box 64 [.val 29],.box 66 [.val 30]]⟩ (λn=>kk6 (z3r φ n)) (λzk18=>.x)))) .x)))))))
def zie(P:Program)(φ:Nat):Env TV:=⟨P,lk [(96,ze1 φ),(97,zi1 φ),(98,zi4 φ)],lk [],lk [],lk []⟩
theorem zyu(φ:Nat)(a):(zif φ).F a=fnX TV (zie Tryz.prog φ) φ Tryz.f53 [26,29,30] [.val 0,.val 27] (zci φ) a:=by kernel_rfl
theorem zyt(φ:Nat):fnO TV (zie Tryz.prog φ) φ Tryz.f53 [.val 0,.val 27] (zci φ):=by
 unfold fnO;show obl _ _ _ _ _ _ _ _;unfold zci
 repeat' (first|exact trivial |(refine⟨?_,?_⟩) |(intro _)|kernel_rfl)
theorem zys[Dr](φ:Nat):z0h TV Tryz.prog 53 (zif φ):=z0l (N:=zie Tryz.prog φ) (zq ⟨zsx φ,zy8 φ,zyb φ,trivial⟩ trivial trivial trivial) (zci φ) Tryz.func53 (by kernel_rfl) (zyu φ) (zyt φ)
def zib(φ:Nat):H TV (RTup TT [.val 40,.val 0]):=(.seq .x (.seq .x (.seq .x (.seq .x (.seq .x (.seq .x (.seq (.seq .x (.body (.loop ⟨[(221,[(1,.val 36),(2,.val 37),(3,.ptr 0 0),(6,.ptr 1 0),(9,.ptr 2 0),(10,.val 0),(11,.val 0),(12,.val 0)])],[.box 36 [.val 26],.box 54 [.own 3,.own 4],.box 54 [.own 5,.own 6],.row 3 0,.row 119 38,.row 3 0,.row 119 38]⟩ (λn=>kk10 (z4f φ n)) (λzk15=>.x)))) (.seq (.seq .x (.body (.loop ⟨[(221,[(1,.val 36),(2,.val 37),(3,.ptr 0 0),(6,.ptr 1 0),(9,.ptr 2 0),(10,.val 0),(11,.val 0),(13,.val 0)])],[.box 36 [.val 26],.box 54 [.own 3,.own 4],.box 54 [.own 5,.own 6],.row 3 0,.row 119 38,.row 3 0,.row 119 38]⟩ (λn=>kk10 (z36 φ n)) (λzk27=>.x)))) (.seq .x (.seq .x (.seq .x (.seq (.seq .x (.body (.loop ⟨[(221,[(1,.val 36),(2,.val 37),(3,.ptr 0 0),(6,.ptr 1 0),(9,.ptr 2 0),(11,.val 0),(14,.val 0),(15,.val 0)])],[.box 36 [.val 26],.box 54 [.own 3,.own 4],.box 54 [.own 5,.own 6],.row 3 0,.row 119 38,.row 3 0,.row 119 38]⟩ (λn=>kk10 (z37 φ n)) (λzk39=>(.seq .x (.seq (.body (.seq .x (.body (.loop ⟨[(221,[(1,.val 36),(2,.val 37),(3,.ptr 0 0),(6,.ptr 1 0),(9,.ptr 2 0),(11,.val 0),(14,.val 0),(15,.val 0),(16,.val 0)])],[.box 36 [.val 26],.box 54 [.own 3,.own 4],.box 54 [.own 5,.own 6],.row 3 0,.row 119 38,.row 3 0,.row 119 38]⟩ (λn z=>z2e φ (λa0 a1 a2 a3 a4 a5 a6 a7 a8 a9=>zk39 (a0,a1,a2,a3,a4,a5,a6,a7,a8,a9,())) n z.1 z.2.1 z.2.2.1 z.2.2.2.1 z.2.2.2.2.1 z.2.2.2.2.2.1 z.2.2.2.2.2.2.1 z.2.2.2.2.2.2.2.1 z.2.2.2.2.2.2.2.2.1 z.2.2.2.2.2.2.2.2.2.1 z.2.2.2.2.2.2.2.2.2.2.1) (λzk51=>.x))))) .x)))))) (.seq (.seq .x (.body (.loop ⟨[(221,[(1,.val 36),(2,.val 37),(6,.ptr 0 0),(9,.ptr 1 0),(11,.val 0),(14,.val 0),(19,.val 0)])],[.box 54 [.own 2,.own 3],.box 54 [.own 4,.own 5],.row 3 0,.row 119 38,.row 3 0,.row 119 38]⟩ (λn=>kk9 (z1o φ n)) (λzk62=>.x)))) (.seq (.seq .x (.body (.loop ⟨[(221,[(1,.val 36),(6,.ptr 0 0),(9,.ptr 1 0),(11,.val 0),(14,.val 0),(20,.val 0)])],[.box 54 [.own 2,.own 3],.box 54 [.own 4,.own 5],.row 3 0,.row 119 38,.row 3 0,.row 119 38]⟩ (λn=>kk8 (z38 φ n)) (λzk71=>.x)))) .x))))))))))))))
def zm5(P:Program)(φ:Nat):Env TV:=⟨P,lk [(42,za3 φ),(51,zfx φ),(52,zid φ),(53,zif φ)],lk [],lk [],lk []⟩
theorem y4d(φ:Nat)(a):(zm6 φ).F a=fnX TV (zm5 Tryz.prog φ) φ Tryz.f14 [26,36,37] [.val 40,.val 0] (zib φ) a:=by kernel_rfl
theorem y4c(φ:Nat):fnO TV (zm5 Tryz.prog φ) φ Tryz.f14 [.val 40,.val 0] (zib φ):=by
 unfold fnO;show obl _ _ _ _ _ _ _ _;unfold zib
 repeat' (first|exact trivial |(refine⟨?_,?_⟩) |(intro _)|kernel_rfl)
theorem y4b[Dr](φ:Nat):z0h TV Tryz.prog 14 (zm6 φ):=z0l (N:=zm5 Tryz.prog φ) (zq ⟨zop φ,zuq φ,zyp φ,zys φ,trivial⟩ trivial trivial trivial) (zib φ) Tryz.func14 (by kernel_rfl) (y4d φ) (y4c φ)
def zev(φ:Nat):H TV (RTup TT [.val 22,.val 27]):=(.seq .x (.seq .x (.seq (.seq .x (.body (.loop ⟨[(205,[(1,.val 36),(2,.val 37),(4,.ptr 0 0),(7,.ptr 1 0),(10,.own 2),(11,.val 0)])],[.box 54 [.val 40],.box 42 [.val 47],.row 3 0]⟩ (λn=>kk6 (z3e φ n)) (λzk11=>.x)))) (.seq .x (.seq .x (.seq (.seq .x (.body (.loop ⟨[(205,[(1,.val 36),(2,.val 37),(4,.ptr 0 0),(7,.ptr 1 0),(10,.own 2),(12,.own 3),(13,.val 0),(14,.val 0)])],[.box 54 [.val 40],.box 42 [.val 47],.row 3 0,.row 3 0]⟩ (λn=>kk8 (z3f φ n)) (λzk20=>.x)))) (.seq .x (.seq .x (.seq .x (.seq (.seq .x (.body (.loop ⟨[(205,[(1,.val 36),(2,.val 37),(4,.ptr 0 0),(7,.ptr 1 0),(10,.own 2),(12,.own 3),(13,.val 0),(15,.own 4),(16,.val 0),(17,.val 0),(18,.val 0)])],[.box 54 [.val 40],.box 42 [.val 47],.row 3 0,.row 3 0,.row 3 0]⟩ (λn=>kk11 (z0n φ n)) (λzk32=>(.seq .x (.seq (.body (.seq .x (.seq .x (.seq (.join ⟨[(205,[(1,.val 36),(2,.val 37),(4,.ptr 0 0),(7,.ptr 1 0),(10,.own 2),(12,.own 3),(13,.val 0),(15,.own 4),(16,.val 0),(17,.val 0),(18,.val 0),(20,.val 0)])],[.box 54 [.val 40],.box 42 [.val 47],.row 3 0,.row 3 0,.row 3 0]⟩ (λz=>z2d φ (λa0 a1 a2 a3 a4 a5 a6 a7 a8 a9 a10=>zk32 (a0,a1,a2,a3,a4,a5,a6,a7,a8,a9,a10,())) z.1 z.2.1 z.2.2.1 z.2.2.2.1 z.2.2.2.2.1 z.2.2.2.2.2.1 z.2.2.2.2.2.2.1 z.2.2.2.2.2.2.2.1 z.2.2.2.2.2.2.2.2.1 z.2.2.2.2.2.2.2.2.2.1 z.2.2.2.2.2.2.2.2.2.2.1 z.2.2.2.2.2.2.2.2.2.2.2.1) (.seq .x (.cond (.seq .x (.seq (.join ⟨[(205,[(1,.val 36),(2,.val 37),(4,.ptr 0 0),(7,.ptr 1 0),(10,.own 2),(12,.own 3),(13,.val 0),(15,.own 4),(16,.val 0),(17,.val 0),(18,.val 0),(19,.ptr 5 0),(20,.val 0),(21,.val 0)])],[.box 54 [.val 40],.box 42 [.val 47],.row 3 0,.row 3 0,.row 3 0,.box 119 [.val 38]]⟩ (λz=>z7p φ (λa0 a1 a2 a3 a4 a5 a6 a7 a8 a9 a10=>zk32 (a0,a1,a2,a3,a4,a5,a6,a7,a8,a9,a10,())) z.1 z.2.1 z.2.2.1 z.2.2.2.1 z.2.2.2.2.1 z.2.2.2.2.2.1 z.2.2.2.2.2.2.1 z.2.2.2.2.2.2.2.1 z.2.2.2.2.2.2.2.2.1 z.2.2.2.2.2.2.2.2.2.1 z.2.2.2.2.2.2.2.2.2.2.1 z.2.2.2.2.2.2.2.2.2.2.2.1 z.2.2.2.2.2.2.2.2.2.2.2.2.1 z.2.2.2.2.2.2.2.2.2.2.2.2.2.1) (.seq .x .x)) .x)) .x))) .x)))) .x)))))) .x))))))))))
def zkb(P:Program)(φ:Nat):Env TV:=⟨P,lk [],lk [],lk [],lk []⟩
theorem y1w(φ:Nat)(a):(zkc φ).F a=fnX TV (zkb Tryz.prog φ) φ Tryz.f31 [40,36,37,47] [.val 22,.val 27] (zev φ) a:=by kernel_rfl
theorem y1v(φ:Nat):fnO TV (zkb Tryz.prog φ) φ Tryz.f31 [.val 22,.val 27] (zev φ):=by
 unfold fnO;show obl _ _ _ _ _ _ _ _;unfold zev
 repeat' (first|exact trivial |(refine⟨?_,?_⟩) |(intro _)|kernel_rfl)
theorem y1u[Dr](φ:Nat):z0h TV Tryz.prog 31 (zkc φ):=z0l (N:=zkb Tryz.prog φ) (zq trivial trivial trivial trivial) (zev φ) Tryz.func31 (by kernel_rfl) (y1w φ) (y1v φ)
def zap(φ:Nat):H TV (RTup TT [.val 27]):=.x
def zfs(P:Program)(φ:Nat):Env TV:=⟨P,lk [],lk [],lk [],lk []⟩
theorem zuk(φ:Nat)(a):(z7o φ).F a=fnX TV (zfs Tryz.prog φ) φ Tryz.f115 [0,0,0] [.val 27] (zap φ) a:=by kernel_rfl
theorem zuj(φ:Nat):fnO TV (zfs Tryz.prog φ) φ Tryz.f115 [.val 27] (zap φ):=by
 unfold fnO;show obl _ _ _ _ _ _ _ _;unfold zap
 repeat' (first|exact trivial |(refine⟨?_,?_⟩) |(intro _)|kernel_rfl)
theorem zft[Dr](φ:Nat):z0h TV Tryz.prog 115 (z7o φ):=z0l (N:=zfs Tryz.prog φ) (zq trivial trivial trivial trivial) (zap φ) Tryz.func115 (by kernel_rfl) (zuk φ) (zuj φ)
def zce(φ:Nat):H TV (RTup TT [.val 0]):=(.seq .x (.seq .x (.seq .x (.seq (.seq .x (.body (.loop ⟨[(89,[(1,.ptr 0 0),(3,.val 0),(4,.val 0)])],[.box 54 [.val 40]]⟩ (λn=>kk3 (z61 φ n)) (λzk5=>.x)))) (.seq (.seq .x (.body (.loop ⟨[(89,[(1,.ptr 0 0),(3,.val 0),(5,.val 0)])],[.box 54 [.val 40]]⟩ (λn=>kk3 (z2p φ n)) (λzk10=>.x)))) .x)))))
def zi8(P:Program)(φ:Nat):Env TV:=⟨P,lk [(115,z7o φ)],lk [],lk [],lk []⟩
theorem zyj(φ:Nat)(a):(zcf φ).F a=fnX TV (zi8 Tryz.prog φ) φ Tryz.f70 [40] [.val 0] (zce φ) a:=by kernel_rfl
theorem zyi(φ:Nat):fnO TV (zi8 Tryz.prog φ) φ Tryz.f70 [.val 0] (zce φ):=by
 unfold fnO;show obl _ _ _ _ _ _ _ _;unfold zce
 repeat' (first|exact trivial |(refine⟨?_,?_⟩) |(intro _)|kernel_rfl)
theorem znh[Dr](φ:Nat):z0h TV Tryz.prog 70 (zcf φ):=z0l (N:=zi8 Tryz.prog φ) (zq ⟨zft φ,trivial⟩ trivial trivial trivial) (zce φ) Tryz.func70 (by kernel_rfl) (zyj φ) (zyi φ)
def z7x(φ:Nat):H TV (RTup TT [.val 27]):=(.seq .x (.seq .x (.seq .x (.seq (.seq .x (.body (.loop ⟨[(82,[(2,.ptr 0 0),(3,.ptr 1 0),(5,.own 2),(6,.val 0)])],[.box 54 [.val 40],.box 88 [.val 41],.row 3 0]⟩ (λn=>kk4 (z25 φ n)) (λzk7=>.x)))) (.seq (.seq .x (.body (.loop ⟨[(82,[(5,.own 0),(8,.val 0)])],[.row 3 0]⟩ (λn=>kk2 (z0v φ n)) (λzk11=>.x)))) .x)))))
def zbm(P:Program)(φ:Nat):Env TV:=⟨P,lk [(115,z7o φ)],lk [],lk [],lk []⟩
theorem zqi(φ:Nat)(a):(z7y φ).F a=fnX TV (zbm Tryz.prog φ) φ Tryz.f71 [40,41] [.val 27] (z7x φ) a:=by kernel_rfl
theorem zqh(φ:Nat):fnO TV (zbm Tryz.prog φ) φ Tryz.f71 [.val 27] (z7x φ):=by
 unfold fnO;show obl _ _ _ _ _ _ _ _;unfold z7x
 repeat' (first|exact trivial |(refine⟨?_,?_⟩) |(intro _)|kernel_rfl)
theorem zir[Dr](φ:Nat):z0h TV Tryz.prog 71 (z7y φ):=z0l (N:=zbm Tryz.prog φ) (zq ⟨zft φ,trivial⟩ trivial trivial trivial) (z7x φ) Tryz.func71 (by kernel_rfl) (zqi φ) (zqh φ)
def zcg(φ:Nat):H TV (RTup TT [.val 27]):=(.seq .x (.seq .x (.seq (.seq .x (.body (.loop ⟨[(82,[(2,.ptr 0 0),(3,.ptr 1 0),(5,.val 0)])],[.box 54 [.val 40],.box 88 [.val 41]]⟩ (λn=>kk3 (z4r φ n)) (λzk6=>.x)))) (.seq (.seq .x (.body (.loop ⟨[(82,[(2,.ptr 0 0),(3,.ptr 1 0),(6,.val 0)])],[.box 54 [.val 40],.box 88 [.val 41]]⟩ (λn=>kk3 (z2q φ n)) (λzk11=>.x)))) .x))))
def zi9(P:Program)(φ:Nat):Env TV:=⟨P,lk [(115,z7o φ)],lk [],lk [],lk []⟩
theorem zyn(φ:Nat)(a):(zia φ).F a=fnX TV (zi9 Tryz.prog φ) φ Tryz.f72 [40,41] [.val 27] (zcg φ) a:=by kernel_rfl
theorem zym(φ:Nat):fnO TV (zi9 Tryz.prog φ) φ Tryz.f72 [.val 27] (zcg φ):=by
 unfold fnO;show obl _ _ _ _ _ _ _ _;unfold zcg
 repeat' (first|exact trivial |(refine⟨?_,?_⟩) |(intro _)|kernel_rfl)
theorem zyl[Dr](φ:Nat):z0h TV Tryz.prog 72 (zia φ):=z0l (N:=zi9 Tryz.prog φ) (zq ⟨zft φ,trivial⟩ trivial trivial trivial) (zcg φ) Tryz.func72 (by kernel_rfl) (zyn φ) (zym φ)
def zao(φ:Nat):H TV (RTup TT [.val 0]):=.x
def zfq(P:Program)(φ:Nat):Env TV:=⟨P,lk [(70,zcf φ),(71,z7y φ),(72,zia φ)],lk [],lk [],lk []⟩
theorem zui(φ:Nat)(a):(zfr φ).F a=fnX TV (zfq Tryz.prog φ) φ Tryz.f32 [40,41] [.val 0] (zao φ) a:=by kernel_rfl
theorem zuh(φ:Nat):fnO TV (zfq Tryz.prog φ) φ Tryz.f32 [.val 0] (zao φ):=by
 unfold fnO;show obl _ _ _ _ _ _ _ _;unfold zao
 repeat' (first|exact trivial |(refine⟨?_,?_⟩) |(intro _)|kernel_rfl)
theorem zug[Dr](φ:Nat):z0h TV Tryz.prog 32 (zfr φ):=z0l (N:=zfq Tryz.prog φ) (zq ⟨znh φ,zir φ,zyl φ,trivial⟩ trivial trivial trivial) (zao φ) Tryz.func32 (by kernel_rfl) (zui φ) (zuh φ)
def zeu(φ:Nat):H TV (RTup TT [.val 0,.val 0]):=(.seq .x (.seq .x (.seq .x (.seq .x (.seq .x (.seq (.seq .x (.body (.loop ⟨[(50,[(2,.ptr 0 0),(3,.ptr 1 0),(7,.val 0),(8,.val 0)])],[.box 54 [.val 40],.box 88 [.val 41]]⟩ (λn=>kk4 (z4d φ n)) (λzk9=>.x)))) .x))))))
def zk3(P:Program)(φ:Nat):Env TV:=⟨P,lk [(70,zcf φ),(71,z7y φ)],lk [],lk [],lk []⟩
theorem y1t(φ:Nat)(a):(zka φ).F a=fnX TV (zk3 Tryz.prog φ) φ Tryz.f33 [40,41] [.val 0,.val 0] (zeu φ) a:=by kernel_rfl
theorem y1s(φ:Nat):fnO TV (zk3 Tryz.prog φ) φ Tryz.f33 [.val 0,.val 0] (zeu φ):=by
 unfold fnO;show obl _ _ _ _ _ _ _ _;unfold zeu
 repeat' (first|exact trivial |(refine⟨?_,?_⟩) |(intro _)|kernel_rfl)
theorem y1r[Dr](φ:Nat):z0h TV Tryz.prog 33 (zka φ):=z0l (N:=zk3 Tryz.prog φ) (zq ⟨znh φ,zir φ,trivial⟩ trivial trivial trivial) (zeu φ) Tryz.func33 (by kernel_rfl) (y1t φ) (y1s φ)
def zaq(φ:Nat):H TV (RTup TT [.val 0]):=.x
def zfu(P:Program)(φ:Nat):Env TV:=⟨P,lk [(14,zm6 φ),(31,zkc φ),(32,zfr φ),(33,zka φ)],lk [],lk [],lk []⟩
theorem zun(φ:Nat)(a):(zfv φ).F a=fnX TV (zfu Tryz.prog φ) φ Tryz.f9 [26,36,37,47] [.val 0] (zaq φ) a:=by kernel_rfl
theorem zum(φ:Nat):fnO TV (zfu Tryz.prog φ) φ Tryz.f9 [.val 0] (zaq φ):=by
 unfold fnO;show obl _ _ _ _ _ _ _ _;unfold zaq
 repeat' (first|exact trivial |(refine⟨?_,?_⟩) |(intro _)|kernel_rfl)
theorem zul[Dr](φ:Nat):z0h TV Tryz.prog 9 (zfv φ):=z0l (N:=zfu Tryz.prog φ) (zq ⟨y4b φ,y1u φ,zug φ,y1r φ,trivial⟩ trivial trivial trivial) (zaq φ) Tryz.func9 (by kernel_rfl) (zun φ) (zum φ)
def z0d(φ:Nat):H TV (RTup TT [.val 27]):=.x
def z0u(P:Program)(φ:Nat):Env TV:=⟨P,lk [(6,zjs φ),(7,zlw φ),(8,zbb φ),(9,zfv φ)],lk [],lk [],lk []⟩
theorem z7e(φ:Nat)(a):(z0e φ).F a=fnX TV (z0u Tryz.prog φ) φ Tryz.f3 [26,36,37,47] [.val 27] (z0d φ) a:=by kernel_rfl
theorem z7d(φ:Nat):fnO TV (z0u Tryz.prog φ) φ Tryz.f3 [.val 27] (z0d φ):=by
 unfold fnO;show obl _ _ _ _ _ _ _ _;unfold z0d
 repeat' (first|exact trivial |(refine⟨?_,?_⟩) |(intro _)|kernel_rfl)
theorem z7c[Dr](φ:Nat):z0h TV Tryz.prog 3 (z0e φ):=z0l (N:=z0u Tryz.prog φ) (zq ⟨y0w φ,y3p φ,zq1 φ,zul φ,trivial⟩ trivial trivial trivial) (z0d φ) Tryz.func3 (by kernel_rfl) (z7e φ) (z7d φ)
end Px
end
section
namespace Px
open Go
theorem yar{σ ρ:Type}(L:Nat->Int->σ->Option ρ)(len:Nat)(Inv:Nat->σ->Prop)(G:Option ρ->Prop)
  (step:∀n i s,i<len->Inv i s->(∀s',Inv (i+1) s'->G (L n ((i:Int)+1) s'))->G (L (n+1) i s))
  (done:∀n s,Inv len s->G (L (n+1) len s)):∀n i s,i<=len->Inv i s->len-i<n->G (L n i s):=by
 intro n
 induction n with
 |zero=>intro i s _ _ h;omega
 |succ n ih=>
  intro i s hi hI hn;by_cases h:i=len
  .subst h;exact done n s hI
  .refine step n i s (by omega) hI λs' hs'=>?_
   have:=ih (i+1) s' (by omega) hs' (by omega);simpa using this
theorem z0a{σ ρ:Type}(L:Nat->Int->σ->Option ρ)(len:Nat)(Inv:Nat->σ->Prop)(G:Option ρ->Prop)
  (step:∀n i s,i<len->Inv i s->(∀s',Inv (i+1) s'->G (L n ((i:Int)+1) s'))->G (L (n+1) i s))
  (done:∀n s,Inv len s->G (L (n+1) len s)) (n:Nat) (s:σ) (h:Inv 0 s) (hn:len<n):G (L n 0 s):=by
 simpa using yar L len Inv G step done n 0 s (w2y _) h (by omega)
theorem ymk(x:Int):W x=if x % 18446744073709551616 >= 9223372036854775808 then x % 18446744073709551616-18446744073709551616 else x % 18446744073709551616:=by simp[W,IntKind.wrap,IntKind.bits,IntKind.signed]
theorem y78(x:Int):U x=x % 18446744073709551616:=by simp[U,IntKind.wrap,IntKind.bits,IntKind.signed]
theorem W_id{x:Int}(h : -9223372036854775808<=x)(h':x<=9223372036854775807):W x=x:=by rw[ymk];split<;>omega
theorem U_id{x:Int}(h:0<=x)(h':x<=18446744073709551615):U x=x:=by rw[y78];omega
theorem zmb{α:Type}[Inhabited α](ok:α->Bool)(l:List α)(i:Nat)(h:i<l.length):(l.take (i+1)).all ok =((l.take i).all ok&&ok (gt l (i:Int))):=by rw[w2q h,w4m];simp[gt,h]
theorem zgi{α:Type}[Inhabited α](ok:α->Bool)(l:List α)(i:Nat)(h:i<l.length):(l.take (i+1)).any ok =((l.take i).any ok||ok (gt l (i:Int))):=by rw[w2q h,List.any_append];simp[gt,h]
theorem z2r{α:Type}[Inhabited α](l:List α)(i:Nat)(h:i<l.length):l.take (i+1)=l.take i++[gt l (i:Int)]:=by rw[w2q h];simp[gt,h]
theorem z7k{α:Type}[Inhabited α]{l:List α}{i:Int}(h0:0<=i)(h:i<(l.length:Int)):gt l i∈l:=by
 have hlt:i.toNat<l.length:=by omega
 simp[gt,hlt]
theorem z4b{α:Type}[Inhabited α]{l:List α}{i:Nat}(h:i<l.length):gt l (i:Int)=l[i]:=by simp[gt,h]
theorem y9g{α:Type}[Inhabited α](l:List α)(i:Nat)(h:i<l.length):l.drop i=gt l (i:Int)::l.drop (i+1):=by rw[z4b h,List.getElem_cons_drop]
theorem y1f{α:Type}[Inhabited α]{l:List α}{x:α}(h:x∈l):∃i:Nat,i<l.length/\gt l (i:Int)=x:=by obtain⟨i,hi,e⟩:=w28 h;exact⟨i,hi,by rw[z4b hi,e]⟩
theorem zx{α:Type}[Inhabited α](l:List α)(i j:Int)(x:α)(hi:0<=i)(h:i<(l.length:Int))(hj:0<=j):gt (zl l i x) j=if j=i then x else gt l j:=by
 unfold gt zl;by_cases e:j=i
 .subst e;have:j.toNat<l.length:=by omega
  simp[List.getD,w1q,this]
 .have:i.toNat≠j.toNat:=by omega
  simp[List.getD,w1q,this,e]
theorem zem{α:Type}[Inhabited α](n:Nat)(x:α)(j:Int)(hj:0<=j)(h:j<n):gt (List.replicate n x) j=x:=by
 have:j.toNat<n:=by omega
 simp[gt,List.getD,w48,this]
theorem z9u{α:Type}[Inhabited α](l m:List α)(j:Int)(h0:0<=j)(h:j<(l.length:Int)):gt (l++m) j=gt l j:=by
 have:j.toNat<l.length:=by omega
 simp[gt,List.getD,w1z,this]
theorem z83{α:Type}[Inhabited α](l m:List α)(j:Int)(h :(l.length:Int)<=j):gt (l++m) j=gt m (j-l.length):=by
 have:¬j.toNat<l.length:=by omega
 have e :(j-l.length).toNat=j.toNat-l.length:=by omega
 simp[gt,List.getD,w1z,this,e]
theorem zqx{α ρ:Type}[Inhabited α](L:Nat->Int->Int->Option ρ)(k:Int->Option ρ)(l:List α)(ok:α->Bool)
  (step:∀(n i:Nat)(s:Int),i<l.length->L (n+1) i s=L n ((i:Int)+1) (bif ok (gt l i) then s else 1)) (done:∀n s,L (n+1) l.length s=k s) :
  ∀n s,l.length<n->L n 0 s=k (bif l.all ok then s else 1):=by
 intro n s hn;refine yar L l.length (λi t=>t=bif (l.take i).all ok then s else 1) (λo=>o=k (bif l.all ok then s else 1)) ?_ ?_ n 0 s (w2y _) (by simp) (by omega)
 .intro n i t hi ht hs;rw[step n i t hi];refine hs _ ?_;rw[zmb ok l i hi,ht];cases (l.take i).all ok<;>cases ok (gt l (i:Int))<;>simp
 .intro n t ht;rw[done,ht,w1m]
theorem yaq{α ρ:Type}[Inhabited α](L:Nat->Int->Option ρ)(k:Option ρ)(l:List α)(p:α->Bool)(g:α->Option ρ)
  (step:∀n i:Nat,i<l.length->L (n+1) i=bif p (gt l i) then g (gt l i) else L n ((i:Int)+1)) (done:∀n,L (n+1) l.length=k) :
  ∀n,l.length<n->L n 0=match l.find? p with|some x=>g x|none=>k:=by
 intro n hn;refine z0a (λn i(_:Unit)=>L n i) l.length (λi _=>∀x∈l.take i,p x=false) (λo=>o=match l.find? p with|some x=>g x|none=>k) ?_ ?_ n () (by simp) hn
 .intro n i _ hi hI hs;simp only[step n i hi];cases e:p (gt l (i:Int)) with
  |false=>
   refine hs () ?_;rw[z2r l i hi];intro x hx;rcases w0q.1 hx with h|h
   .exact hI x h
   .simp at h;rw[h];exact e
  |true=>
   have:l.find? p=some (gt l (i:Int)):=by
    have h1:l=l.take i++(gt l (i:Int)::l.drop (i+1)):=by rw[z4b hi,List.getElem_cons_drop,w21]
    generalize gt l (i:Int)=y at *;rw[h1,List.find?_append,w4z.2 (λx hx=>by simp[hI x hx])];simp[w3j,e]
   rw[this];rfl
 .intro n _ hI;simp only[done];rw[w1m] at hI;rw[w4z.2 (λx hx=>by simp[hI x hx])]
theorem ye2{α ρ:Type}(l:List α)(p:α->Bool)(r k:ρ):(match l.find? p with|some _=>r|none=>k)=bif l.any p then r else k:=by
 induction l with
 |nil=>rfl
 |cons x l ih=>
  rw[w3j,w4e];cases p x
  .simpa using ih
  .rfl
theorem z73{α ρ:Type}[Inhabited α](L:Nat->Int->Option ρ)(k r:Option ρ)(l:List α)(p:α->Bool)
  (step:∀n i:Nat,i<l.length->L (n+1) i=bif p (gt l i) then r else L n ((i:Int)+1)) (done:∀n,L (n+1) l.length=k)
  (n:Nat) (hn:l.length<n):L n 0=bif l.any p then r else k:=by
 rw[yaq L k l p (λ_=>r) step done n hn,ye2]
def bet(a b c:Int):Bool:=decide (b<=a)&&decide (a<=c)
theorem z33{a b c:Int}: bet a b c=true↔b<=a/\a<=c:=by simp[bet]
theorem zgj{a b c:Int}(h:bet a b c=true):b<=a/\a<=c:=z33.1 h
theorem mk_t(n:Int)(b:Nat)(h0:0<=n)(h:n<=100000)(hb:b<=1000000):zd n b:=by refine⟨h0,?_,by omega⟩;have :(b:Int)*n<=1000000*100000:=w47 (by omega) h h0 (by omega);omega
theorem yj5{x y z:Int}: min2 x y<z↔x<z\/y<z:=by unfold min2;split<;>omega
end Px
end
section
namespace Px
open Go
theorem z1r(φ:Nat)(a b c:Int):zt φ a b c=some (bet a b c,()):=rfl
def zli(t:z2g):Bool:=bet t.load 0 1000000&&bet t.tare 0 1000000&&bet t.length 0 1000000&&bet t.brake 0 1000000&&bet t.gauge 0 7&&bet t.life 1 1073741824&&bet t.floor 0 100
def zhg(n:Int)(w:zr4):Bool:=bet w.type_ 0 (n-1)&&bet w.owner 0 63&&bet w.home 0 511&&bet w.built 0 1073741824&&bet w.worth 0 1099511627776
def zlh(n:Int)(s:Swap):Bool:=bet s.wanted 0 (n-1)&&bet s.given 0 (n-1)&&(s.wanted !=s.given)&&bet s.cost 0 1000000000
def zve(w:Wash):Bool:=bet w.from_ 0 63&&bet w.to 0 63&&(w.from_ !=w.to)&&bet w.minutes 0 100000
def keyW(w:Wash):Int:=64*w.from_+w.to
def z3v(l:List Wash)(i:Nat):Bool:=zve (gt l (i:Int))&&!(l.take i).any λv=>keyW v==keyW (gt l (i:Int))
def z5m(l:List Wash):Bool:=(List.range l.length).all (z3v l)
def z0i(x:z1w):Int:=
 bif decide (32<x.types.length)||decide (4096<x.wagons.length)||decide (1024<x.swaps.length)||decide (4096<x.washes.length) then 2 else
 bif x.types.all zli&&x.wagons.all (zhg x.types.length)&&x.swaps.all (zlh x.types.length)&&z5m x.washes then 0 else 1
theorem zab(p:Nat->Bool)(i:Nat):(List.range (i+1)).all p =((List.range i).all p&&p i):=by rw[w1a,w4m];simp
theorem zoc(φ:Nat)(x:z1w)(hl:x.swaps.length<=1024)(ht:x.types.length<=32):
  ∀n s,x.swaps.length<n->z0y φ n x.swaps (x.swaps.length:Int) 0 x s=z00 φ φ x.washes (x.washes.length:Int) 0 (bif x.swaps.all (zlh (x.types.length:Int)) then s else 1) (λ_=>default):=by
 have hp:W ((x.types.length:Int)-1) =(x.types.length:Int)-1:=W_id (by omega) (by omega);refine zqx (λn i s=>z0y φ n x.swaps (x.swaps.length:Int) i x s) (λs=>z00 φ φ x.washes (x.washes.length:Int) 0 s (λ_=>default)) _ _ ?_ ?_
 .intro n i s hi;have hW:W ((i:Int)+1) =(i:Int)+1:=W_id (by omega) (by omega);rw[z0y,if_pos (by simp;omega),z6 ⟨by omega,by omega⟩];simp only[z1r,w01,zlh,zn,hW,hp];cases bet (gt x.swaps i).wanted 0 ((x.types.length:Int)-1)<;>cases bet (gt x.swaps i).given 0 ((x.types.length:Int)-1)<;>cases ((gt x.swaps i).wanted !=(gt x.swaps i).given)<;>
   cases bet (gt x.swaps i).cost 0 1000000000<;>rfl
 .intro n s;rw[z0y,if_neg (by simp)]
theorem zmp(φ:Nat)(x:z1w)(hl:x.wagons.length<=4096)(ht:x.types.length<=32):
  ∀n s,x.wagons.length<n->z0k φ n x.wagons (x.wagons.length:Int) 0 x s=z0y φ φ x.swaps (x.swaps.length:Int) 0 x (bif x.wagons.all (zhg (x.types.length:Int)) then s else 1):=by
 have hp:W ((x.types.length:Int)-1) =(x.types.length:Int)-1:=W_id (by omega) (by omega);refine zqx (λn i s=>z0k φ n x.wagons (x.wagons.length:Int) i x s) (λs=>z0y φ φ x.swaps (x.swaps.length:Int) 0 x s) _ _ ?_ ?_
 .intro n i s hi;have hW:W ((i:Int)+1) =(i:Int)+1:=W_id (by omega) (by omega);rw[z0k,if_pos (by simp;omega),z6 ⟨by omega,by omega⟩];simp only[z1r,w01,zhg,zn,hW,hp];cases bet (gt x.wagons i).type_ 0 ((x.types.length:Int)-1)<;>cases bet (gt x.wagons i).owner 0 63<;>cases bet (gt x.wagons i).home 0 511<;>
   cases bet (gt x.wagons i).built 0 1073741824<;>cases bet (gt x.wagons i).worth 0 1099511627776<;>rfl
 .intro n s;rw[z0k,if_neg (by simp)]
theorem zqc(φ:Nat)(k:List z2g->Int->Int->z1w->Int->Option (Int×Unit))(ts:List z2g)(len i:Int)(x:z1w)(t:z2g)(n:Nat)(s:Int)(hn:4<n):
  z2j φ k n ts len i 4 0 x s t [t.load,t.tare,t.length,t.brake]=k ts len (W (i+1)) x (bif zli t then s else 1):=by
 have h:=zqx (λn j s=>z2j φ k n ts len i 4 j x s t [t.load,t.tare,t.length,t.brake]) (λs=>k ts len (W (i+1)) x (bif (bet t.gauge 0 7&&bet t.life 1 1073741824&&bet t.floor 0 100) then s else 1))
  [t.load,t.tare,t.length,t.brake] (λa=>bet a 0 1000000) (λn j s hi=>by
   rw[z2j,if_pos (by simp at hi⊢;omega),z6 ⟨by omega,by omega⟩];simp at hi;have hW:W ((j:Int)+1) =(j:Int)+1:=W_id (by omega) (by omega);simp only[z1r,w01,hW];cases bet (gt [t.load,t.tare,t.length,t.brake] (j:Int)) 0 1000000<;>rfl) (λn s=>by
   rw[z2j,if_neg (by simp)];simp only[z1r,w01,zn];cases bet t.gauge 0 7<;>cases bet t.life 1 1073741824<;>cases bet t.floor 0 100<;>rfl) n s hn
 rw[h];simp only[zli,w1j,List.all_nil];cases bet t.load 0 1000000<;>cases bet t.tare 0 1000000<;>cases bet t.length 0 1000000<;>cases bet t.brake 0 1000000<;>
   cases bet t.gauge 0 7<;>cases bet t.life 1 1073741824<;>cases bet t.floor 0 100<;>rfl
theorem zod(φ:Nat)(hφ:4<φ)(x:z1w)(hl:x.types.length<=32):
  ∀n s,x.types.length<n->z4i φ n x.types (x.types.length:Int) 0 x s=z0k φ φ x.wagons (x.wagons.length:Int) 0 x (bif x.types.all zli then s else 1):=by
 refine zqx (λn i s=>z4i φ n x.types (x.types.length:Int) i x s) (λs=>z0k φ φ x.wagons (x.wagons.length:Int) 0 x s) _ _ ?_ ?_
 .intro n i s hi;rw[z4i,if_pos (by simp;omega),z6 ⟨by omega,by omega⟩];have hW:W ((i:Int)+1) =(i:Int)+1:=W_id (by omega) (by omega);refine(zqc φ _ x.types (x.types.length:Int) (i:Int) x (gt x.types i) φ s hφ).trans ?_;rw[hW]
 .intro n s;rw[z4i,if_neg (by simp)]
theorem zmq(φ:Nat)(x:z1w)(hl:x.washes.length<=4096)(n:Nat)(s:Int)(hn:x.washes.length<n):
  z00 φ n x.washes (x.washes.length:Int) 0 s (λ_=>default)=some (bif z5m x.washes then s else 1,()):=by
 refine z0a (λn i(t:Int×(Nat->Bool))=>z00 φ n x.washes (x.washes.length:Int) i t.1 t.2) x.washes.length
  (λi t=>t.1 =(bif (List.range i).all (z3v x.washes) then s else 1)/\((List.range i).all (z3v x.washes)=true->∀j:Nat,t.2 j =(x.washes.take i).any λv=>keyW v==(j:Int)))
  (λo=>o=some (bif z5m x.washes then s else 1,())) ?_ ?_ n (s,λ_=>false) ⟨by simp,by simp⟩ hn
 .intro n i t hi ⟨h1,h2⟩ hs;have hW:W ((i:Int)+1) =(i:Int)+1:=W_id (by omega) (by omega);rw[z00,if_pos (by simp;omega),z6 ⟨by omega,by omega⟩];simp only[z1r,w01,zn,hW];have hok:zve (gt x.washes i) =(bet (gt x.washes i).from_ 0 63&&bet (gt x.washes i).to 0 63&&((gt x.washes i).from_ !=(gt x.washes i).to)&&bet (gt x.washes i).minutes 0 100000):=rfl;have hsucc:=zab (z3v x.washes) i;cases hw:zve (gt x.washes i) with
  |false=>
   have hf :(List.range (i+1)).all (z3v x.washes)=false:=by rw[hsucc];simp[z3v,hw]
   have h3:z00 φ n x.washes (x.washes.length:Int) ((i:Int)+1) 1 t.2=some (bif z5m x.washes then s else 1,()):=hs (1,t.2) ⟨by rw[hf];rfl,by rw[hf];intro h;cases h⟩;rw[hw] at hok;rw[<- h3];generalize bet (gt x.washes i).from_ 0 63=a at *;generalize bet (gt x.washes i).to 0 63=b at *;generalize ((gt x.washes i).from_ !=(gt x.washes i).to)=c at *;generalize bet (gt x.washes i).minutes 0 100000=d at *;cases a<;>cases b<;>cases c<;>cases d<;>first |(exact absurd hok (by decide))|rfl
  |true=>
   rw[hw] at hok;have hb:=hok.symm;simp only[w03] at hb;obtain⟨⟨⟨b1,b2⟩,b3⟩,b4⟩:=hb;have c1:=zgj b1;have c2:=zgj b2;simp only[b1,b2,b3,b4,w4f,if_true,w01,w1i,w0n,if_false];rw[z6 ⟨by omega,by omega⟩,z6 ⟨by omega,by omega⟩];have hkey :((gt x.washes i).from_.toNat*64+(gt x.washes i).to.toNat:Nat) =(keyW (gt x.washes i)).toNat:=by unfold keyW;omega
   have hk0 :((keyW (gt x.washes i)).toNat:Int)=keyW (gt x.washes i):=by unfold keyW;omega
   have key:∀e,(e=bif (List.range (i+1)).all (z3v x.washes) then s else 1)->
     z00 φ n x.washes (x.washes.length:Int) ((i:Int)+1) e (upd t.2 (keyW (gt x.washes i)).toNat true)=some (bif z5m x.washes then s else 1,()):=by
    intro e he;refine hs (e,_) ⟨he,λhall j=>?_⟩;rw[hsucc,w03] at hall;rw[zgi _ _ _ hi,<- h2 hall.1 j];show (if j =(keyW (gt x.washes i)).toNat then true else t.2 j)=_;by_cases hj:j =(keyW (gt x.washes i)).toNat
    .simp[hj,hk0]
    .have :(keyW (gt x.washes i)==(j:Int))=false:=by simp;intro h;exact hj (by omega)
     simp[hj,this]
   have e64:∀(p:Prop)[Decidable p](y:Option (Int×Unit)),p->ck p y=y:=λp _ y hp=>z6 hp
   rw[hkey];simp only[e64 _ _ (show (0:Int)<=(gt x.washes i).from_/\(gt x.washes i).from_<64 by omega),e64 _ _ (show (0:Int)<=(gt x.washes i).to/\(gt x.washes i).to<64 by omega)];cases hall :(List.range i).all (z3v x.washes) with
   |true=>
    have hat:z3v x.washes i = !(t.2 (keyW (gt x.washes i)).toNat):=by rw[h2 hall];simp only[z3v,hw,w1r,hk0]
    cases ht2:t.2 (keyW (gt x.washes i)).toNat with
    |true=>simp only[w1i,w2s,if_true];refine key 1 ?_;rw[hsucc,hat,ht2];simp
    |false=>simp only[w1i,w2s,w0n,if_false];refine key t.1 ?_;rw[hsucc,hat,ht2,h1,hall];simp
   |false=>
    have hf :(List.range (i+1)).all (z3v x.washes)=false:=by rw[hsucc,hall];rfl
    have ht1:t.1=1:=by rw[h1,hall];rfl
    rw[ht1];split<;>exact key 1 (by rw[hf];rfl)
 .intro n t ⟨h1,_⟩;rw[z00,if_neg (by simp),h1];rfl
theorem zf3(φ:Nat)(hφ:5000<φ)(x:z1w):z9p φ x=some (z0i x,()):=by
 have e :(((decide (32<(x.types.length:Int))||decide (4096<(x.wagons.length:Int)))||decide (1024<(x.swaps.length:Int)))||decide (4096<(x.washes.length:Int))) =
   (decide (32<x.types.length)||decide (4096<x.wagons.length)||decide (1024<x.swaps.length)||decide (4096<x.washes.length)):=by
  congr 1
  .congr 1
   .congr 1<;>(apply decide_eq_decide.2;omega)
   .apply decide_eq_decide.2;omega
  .apply decide_eq_decide.2;omega
 unfold z9p z0i;rw[e];cases h :(decide (32<x.types.length)||decide (4096<x.wagons.length)||decide (1024<x.swaps.length)||decide (4096<x.washes.length)) with
 |true=>rfl
 |false=>simp only[w0y,decide_eq_false_iff_not,w4n] at h;obtain⟨⟨⟨h1,h2⟩,h3⟩,h4⟩:=h;rw[if_neg (by simp),zod φ (by omega) x h1 _ _ (by omega),zmp _ _ h2 h1 _ _ (by omega),zoc _ _ h3 h1 _ _ (by omega),zmq _ _ h4 _ _ (by omega)];cases x.types.all zli<;>cases x.wagons.all (zhg x.types.length)<;>cases x.swaps.all (zlh x.types.length)<;>cases z5m x.washes<;>rfl
theorem z3m{x:z1w}(h:z0i x=0):x.types.length<=32/\x.wagons.length<=4096/\x.swaps.length<=1024/\x.washes.length<=4096/\
  (∀t∈x.types,zli t=true)/\(∀t∈x.wagons,zhg x.types.length t=true)/\(∀t∈x.swaps,zlh x.types.length t=true)/\z5m x.washes=true:=by
 unfold z0i at h;cases h1 :(decide (32<x.types.length)||decide (4096<x.wagons.length)||decide (1024<x.swaps.length)||decide (4096<x.washes.length)) with
 |true=>rw[h1] at h;cases h
 |false=>
  rw[h1] at h;simp only[w0y,decide_eq_false_iff_not,w4n] at h1;obtain⟨⟨⟨a1,a2⟩,a3⟩,a4⟩:=h1;cases h2 :(x.types.all zli&&x.wagons.all (zhg x.types.length)&&x.swaps.all (zlh x.types.length)&&z5m x.washes) with
  |false=>rw[h2] at h;cases h
  |true=>simp only[w03,w06] at h2;exact⟨a1,a2,a3,a4,h2.1.1.1,h2.1.1.2,h2.1.2,h2.2⟩
end Px
end
section
namespace Px
open Go
theorem z9y{c:Int}(h:0<=c)(h':c<18446744073709551616):(BitVec.ofInt 64 c).toNat=c.toNat:=by rw[BitVec.toNat_ofInt];omega
theorem yhn{n:Nat}(h:n<18446744073709551616):U (n:Int)=n:=U_id (by omega) (by omega)
theorem ygj{a b:Nat}(h:a<18446744073709551616):a&&& b<18446744073709551616:=w50 Nat.and_le_left h
theorem yfo{k:Nat}(h:k<=63):(2 ^ k:Nat)<18446744073709551616:=w30 (Nat.pow_lt_pow_right (by decide) (by omega:k<64)) (by decide)
theorem ym8{c k:Int}(h:0<=c)(hk:0<=k)(hk':k<=63):c.fdiv (2 ^ (min (k:Int).toNat (IntKind.bits .u64))) =((c.toNat / 2 ^ k.toNat:Nat):Int):=by
 have e:min (k:Int).toNat (IntKind.bits .u64)=k.toNat:=by simp[IntKind.bits];omega
 rw[e];have e2 :((2:Int) ^ k.toNat) =((2 ^ k.toNat:Nat):Int):=by simp
 rw[e2,w1x _ (Int.natCast_nonneg _)];have:c =(c.toNat:Int):=by omega
 rw[this];simp
end Px
end
section
namespace Px
open Go
set_option maxRecDepth 100000
theorem y7q :((List.range 256).all λi=>decide (0<=zcp z03 i/\zcp z03 i<=8/\i<2 ^ (zcp z03 i).toNat/\(0<i->0<zcp z03 i/\2 ^ ((zcp z03 i).toNat-1)<=i)))=true:=by decide+kernel
theorem zs3{i:Int}(h:0<=i)(h':i<256):∃n:Nat,zcp z03 i=n/\n<=8/\i.toNat<2 ^ n/\(0<i->0<n/\2 ^ (n-1)<=i.toNat):=by have:=w06.1 y7q i.toNat (by simp;omega);rw[decide_eq_true_eq,show ((i.toNat:Nat):Int)=i by omega] at this;obtain⟨a,b,c,d⟩:=this;exact⟨(zcp z03 i).toNat,by omega,by omega,c,λhi=>⟨by have:=(d (by omega)).1;omega,(d (by omega)).2⟩⟩
def z9j(v:Nat)(n:Nat):Prop:=v<2 ^ n/\(0<v->0<n/\2 ^ (n-1)<=v)
theorem z9j.up{v:Nat}(k:Nat){n:Nat}(h:z9j (v / 2 ^ k) n)(hv:2 ^ k<=v):z9j v (n+k):=by
 have hp:=Nat.two_pow_pos k;have hpos:0<v / 2 ^ k:=Nat.div_pos hv hp;obtain⟨h1,h2⟩:=h;obtain⟨h3,h4⟩:=h2 hpos;refine⟨?_,λ_=>⟨by omega,?_⟩⟩
 .rw[w4v];exact(Nat.div_lt_iff_lt_mul hp).1 h1
 .have:n+k-1 =(n-1)+k:=by omega
  rw[this,w4v];exact(Nat.le_div_iff_mul_le hp).1 h4
theorem yan(φ:Nat)(v w:Int)(h:0<=v)(h':v<256)(hw:0<=w)(hw':w<=64):∃n:Nat,z1c φ v w=some (64-(w+n),())/\n<=8/\z9j v.toNat n:=by
 obtain⟨n,e,hn,a,b⟩:=zs3 h h';have e8:IntKind.wrap .u8 v=v:=by simp[IntKind.wrap,IntKind.bits,IntKind.signed];omega
 refine⟨n,?_,hn,a,λhv=>b (by omega)⟩;unfold z1c;rw[e8,z6 ⟨h,h'⟩,e,W_id (x:=(n:Int)) (by omega) (by omega),W_id (x:=w+n) (by omega) (by omega),W_id (by omega) (by omega)]
theorem sh8(v:Int):v.fdiv (2 ^ (min (8:Int).toNat 64))=v / 256:=by rw[show ((2:Int) ^ (min (8:Int).toNat 64))=256 by decide];exact w1x _ (by omega)
theorem sh16(v:Int):v.fdiv (2 ^ (min (16:Int).toNat 64))=v / 65536:=by rw[show ((2:Int) ^ (min (16:Int).toNat 64))=65536 by decide];exact w1x _ (by omega)
theorem sh32(v:Int):v.fdiv (2 ^ (min (32:Int).toNat 64))=v / 4294967296:=by rw[show ((2:Int) ^ (min (32:Int).toNat 64))=4294967296 by decide];exact w1x _ (by omega)
theorem yh3(φ:Nat)(v w:Int)(h:0<=v)(h':v<65536)(hw:0<=w)(hw':w<=48):∃n:Nat,z1y φ v w=some (64-(w+n),())/\n<=16/\z9j v.toNat n:=by
 unfold z1y;by_cases c:256<=v
 .rw[if_pos (by simpa using c),if_pos (by decide),sh8,W_id (by omega) (by omega)];obtain⟨n,e,hn,hl⟩:=yan φ (v / 256) (w+8) (by omega) (by omega) (by omega) (by omega);refine⟨n+8,by rw[e];congr 2;omega,by omega,?_⟩;refine z9j.up 8 ?_ (by omega)
  rwa [show v.toNat / 2 ^ 8 =(v / 256).toNat by omega]
 .rw[if_neg (by simpa using c)];obtain⟨n,e,hn,hl⟩:=yan φ v w h (by omega) (by omega) (by omega);exact⟨n,e,by omega,hl⟩
theorem yh2(φ:Nat)(v w:Int)(h:0<=v)(h':v<4294967296)(hw:0<=w)(hw':w<=32):∃n:Nat,z1x φ v w=some (64-(w+n),())/\n<=32/\z9j v.toNat n:=by
 unfold z1x;by_cases c:65536<=v
 .rw[if_pos (by simpa using c),if_pos (by decide),sh16,W_id (by omega) (by omega)];obtain⟨n,e,hn,hl⟩:=yh3 φ (v / 65536) (w+16) (by omega) (by omega) (by omega) (by omega);refine⟨n+16,by rw[e];congr 2;omega,by omega,?_⟩;refine z9j.up 16 ?_ (by omega)
  rwa [show v.toNat / 2 ^ 16 =(v / 65536).toNat by omega]
 .rw[if_neg (by simpa using c)];obtain⟨n,e,hn,hl⟩:=yh3 φ v w h (by omega) (by omega) (by omega);exact⟨n,e,by omega,hl⟩
theorem ymi(φ:Nat)(v:Int)(h:0<=v)(h':v<18446744073709551616):∃n:Nat,z3l φ v=some (64-(n:Int),())/\n<=64/\z9j v.toNat n:=by
 unfold z3l;by_cases c:4294967296<=v
 .rw[if_pos (by simpa using c),if_pos (by decide),sh32];obtain⟨n,e,hn,hl⟩:=yh2 φ (v / 4294967296) 32 (by omega) (by omega) (by omega) (by omega);refine⟨n+32,by rw[e];congr 2;omega,by omega,?_⟩;refine z9j.up 32 ?_ (by omega)
  rwa [show v.toNat / 2 ^ 32 =(v / 4294967296).toNat by omega]
 .rw[if_neg (by simpa using c)];obtain⟨n,e,hn,hl⟩:=yh2 φ v 0 h (by omega) (by omega) (by omega);exact⟨n,by rw[e];simp,by omega,hl⟩
theorem zs8{v:Int}(h:0<=v)(h':v<18446744073709551616):U ((BitVec.ofInt 64 v&&& BitVec.ofInt 64 4294967295).toNat)=v % 4294967296:=by
 show U ((BitVec.ofInt 64 v&&& BitVec.ofInt 64 4294967295).toNat:Int)=_;rw[w5e,z9y h h',z9y (by omega) (by omega),yhn (ygj (by omega))];have :(4294967295:Int).toNat=2 ^ 32-1:=by decide
 rw[this,Nat.and_two_pow_sub_one_eq_mod];omega
theorem zsa{a b m n:Int}(ha:0<=a)(hb:0<=b)(h:a<=m)(h':b<=n):0<=a*b/\a*b<=m*n:=⟨w2h ha hb,w47 h h' hb (by omega)⟩
theorem ycz(φ:Nat)(x y:Int)(hx:0<=x)(hx':x<18446744073709551616)(hy:0<=y)(hy':y<18446744073709551616):
  z9k φ x y=some (x*y / 18446744073709551616,x*y % 18446744073709551616,()):=by
 unfold z9k;simp only[show (0:Int)<=32 by decide,if_true];rw[zs8 hx hx',zs8 hy hy'];simp only[sh32];have ex:x=x / 4294967296*4294967296+x % 4294967296:=by omega
 have ey:y=y / 4294967296*4294967296+y % 4294967296:=by omega
 have a1:0<=x / 4294967296/\x / 4294967296<=4294967295:=by omega
 have a0:0<=x % 4294967296/\x % 4294967296<=4294967295:=by omega
 have b1:0<=y / 4294967296/\y / 4294967296<=4294967295:=by omega
 have b0:0<=y % 4294967296/\y % 4294967296<=4294967295:=by omega
 have hxy:x*y =(x / 4294967296)*(y / 4294967296)*18446744073709551616+((x / 4294967296)*(y % 4294967296)+(x % 4294967296)*(y / 4294967296))*4294967296+(x % 4294967296)*(y % 4294967296):=by
  conv=>lhs;rw[ex,ey]
  generalize x / 4294967296=a;generalize x % 4294967296=b;generalize y / 4294967296=c;generalize y % 4294967296=d;rw[w3y,w3z,w3z,w3y];have e1:a*4294967296*(c*4294967296)=a*c*18446744073709551616:=by rw[w2x,Int.mul_left_comm 4294967296 c,<- w2x];rfl
  have e2:a*4294967296*d=a*d*4294967296:=by rw[w51]
  have e3:b*(c*4294967296)=b*c*4294967296:=by rw[w2x]
  rw[e1,e2,e3];omega
 have p11:=zsa a1.1 b1.1 a1.2 b1.2;have p10:=zsa a1.1 b0.1 a1.2 b0.2;have p01:=zsa a0.1 b1.1 a0.2 b1.2;have p00:=zsa a0.1 b0.1 a0.2 b0.2;rw[y78 (x*y),hxy];generalize (x / 4294967296)*(y / 4294967296)=p at *;generalize (x / 4294967296)*(y % 4294967296)=q at *;generalize (x % 4294967296)*(y / 4294967296)=r at *;generalize (x % 4294967296)*(y % 4294967296)=s at *;clear hxy ex ey a1 a0 b1 b0;rw[U_id (x:=p) (by omega) (by omega),U_id (x:=q) (by omega) (by omega),U_id (x:=r) (by omega) (by omega),U_id (x:=s) (by omega) (by omega)];rw[U_id (x:=q+s / 4294967296) (by omega) (by omega),zs8 (by omega) (by omega),
  U_id (x:=(q+s / 4294967296) % 4294967296+r) (by omega) (by omega),U_id (x:=p+(q+s / 4294967296) / 4294967296) (by omega) (by omega),U_id (by omega) (by omega)]
 refine congrArg some (Prod.ext ?_ rfl);show _=_;omega
theorem yks{yn1 yn0 u d q r:Int}(h1:2147483648<=yn1)(h1':yn1<4294967296)(h0:0<=yn0)(h0':yn0<4294967296)(hd:0<=d)(hd':d<4294967296)(hu:0<=u)
  (hu':u<yn1*4294967296+yn0) (hqr:q*yn1+r=u) (hr:0<=r) (hr':r<4294967296) (hq :(u*4294967296+d) /(yn1*4294967296+yn0)<=q) :
  0<=q/\q<=4294967297/\0<=(u*4294967296+d) /(yn1*4294967296+yn0)/\(u*4294967296+d) /(yn1*4294967296+yn0)<4294967296/\
  (4294967296<=q\/4294967296*r+d<q*yn0->(u*4294967296+d) /(yn1*4294967296+yn0)<=q-1)/\
  (¬(4294967296<=q\/4294967296*r+d<q*yn0)->q =(u*4294967296+d) /(yn1*4294967296+yn0))/\
  (4294967296<=q\/4294967296*r+d<q*yn0->4294967296<=r+yn1->q-1 =(u*4294967296+d) /(yn1*4294967296+yn0)):=by
 have hY:0<yn1*4294967296+yn0:=by omega
 have hQ0:0<=(u*4294967296+d) /(yn1*4294967296+yn0):=w34 (by omega) (by omega);have hQ1 :(u*4294967296+d) /(yn1*4294967296+yn0)<4294967296:=w3r hY (by omega);have hq0:0<=q:=by omega
 have key:q*(yn1*4294967296+yn0) =(u-r)*4294967296+q*yn0:=by rw[w3z,<- w2x,<- hqr];omega
 have hq2:q<=4294967297:=by
  rcases Int.lt_or_le 4294967297 q with h|h
  .have:4294967298*yn1<=q*yn1:=w4o (by omega) (by omega);omega
  .exact h
 have lt_of:∀{z:Int},(u*4294967296+d) /(yn1*4294967296+yn0)<z↔u*4294967296+d<z*(yn1*4294967296+yn0):=λ{z}=>Int.ediv_lt_iff_lt_mul hY
 refine⟨hq0,hq2,hQ0,hQ1,λh=>?_,λh=>?_,λh hr2=>?_⟩
 .have :(u*4294967296+d) /(yn1*4294967296+yn0)<q:=by
   rcases h with h|h
   .omega
   .rw[lt_of,key];omega
  omega
 .have:¬(u*4294967296+d) /(yn1*4294967296+yn0)<q:=by rw[lt_of,key];omega
  omega
 .have hq1 :(u*4294967296+d) /(yn1*4294967296+yn0)<q:=by
   rcases h with h|h
   .omega
   .rw[lt_of,key];omega
  have h2:¬(u*4294967296+d) /(yn1*4294967296+yn0)<q-1:=by
   rw[lt_of];have e :(q-1)*(yn1*4294967296+yn0) =(u-(r+yn1))*4294967296+(q-1)*yn0:=by
    have :(q-1)*yn1+(r+yn1)=u:=by rw[Int.sub_mul];omega
    rw[w3z,<- w2x,<- this];omega
   have b:=(zsa (by omega:0<=q-1) h0 (by omega:q-1<=4294967296) (by omega:yn0<=4294967295)).2;rw[e];omega
  omega
theorem mulB{a b:Int}(h:0<=a)(h':a<4294967296)(g:0<=b)(g':b<4294967296):0<=a*b/\a*b<=18446744065119617025:=zsa h g (by omega:a<=4294967295) (by omega:b<=4294967295)
theorem zv4{ρ:Type}(L:Nat->Int->Int->Option ρ)(k:Int->Option ρ){yn1 yn0 u d:Int}(h1:2147483648<=yn1)(h1':yn1<4294967296)(h0:0<=yn0)(h0':yn0<4294967296)(hd:0<=d)(hd':d<4294967296)(hu:0<=u)
  (hu':u<yn1*4294967296+yn0)
  (step:∀n q r,L (n+1) q r=if(decide (4294967296<=q)||decide (U (U (4294967296*r)+d)<U (q*yn0)))=true then(if decide (4294967296<=U (r+yn1))=true then k (U (q-1)) else L n (U (q-1)) (U (r+yn1))) else k q) :
  ∀(n:Nat)q r,q*yn1+r=u->0<=r->r<4294967296->(u*4294967296+d) /(yn1*4294967296+yn0)<=q->4294967296-r<=2147483648*n->L (n+1) q r=k ((u*4294967296+d) /(yn1*4294967296+yn0)):=by
 intro n
 induction n with
 |zero=>intro q r _ _ _ _ h;omega
 |succ n ih=>
  intro q r hqr hr hr' hq hn;obtain⟨g0,g1,g2,g3,g4,g5,g6⟩:=yks h1 h1' h0 h0' hd hd' hu hu' hqr hr hr' hq;have hc :(decide (4294967296<=q)||decide (U (U (4294967296*r)+d)<U (q*yn0)))=true↔(4294967296<=q\/4294967296*r+d<q*yn0):=by
   rw[w0w,decide_eq_true_eq,decide_eq_true_eq];by_cases hqB:4294967296<=q
   .simp[hqB]
   .have:=mulB g0 (by omega:q<4294967296) h0 h0'
    rw[U_id (x:=4294967296*r) (by omega) (by omega),U_id (by omega) (by omega),U_id (by omega) (by omega)]
  rw[step];by_cases c:4294967296<=q\/4294967296*r+d<q*yn0
  .have a4:=g4 c;rw[if_pos (hc.2 c),U_id (x:=r+yn1) (by omega) (by omega),U_id (x:=q-1) (by omega) (by omega)];by_cases e:4294967296<=r+yn1
   .rw[if_pos (by simpa using e),g6 c e]
   .rw[if_neg (by simpa using e)];exact ih _ _ (by rw[Int.sub_mul];omega) (by omega) (by omega) a4 (by omega)
  .rw[if_neg (λh=>c (hc.1 h)),<- g5 c]
theorem zre{yn1 yn0 u d:Int}(h1:2147483648<=yn1)(h1':yn1<4294967296)(h0:0<=yn0)(h0':yn0<4294967296)(hd:0<=d)(hd':d<4294967296)(hu:0<=u)
  (hu':u<yn1*4294967296+yn0):U (u.tdiv yn1)=u / yn1/\U (u-U (U (u.tdiv yn1)*yn1))=u % yn1/\u / yn1*yn1+u % yn1=u/\0<=u % yn1/\u % yn1<4294967296/\
  (u*4294967296+d) /(yn1*4294967296+yn0)<=u / yn1:=by
 have e1:u.tdiv yn1=u / yn1:=w36 hu;have hdm:u / yn1*yn1+u % yn1=u:=by have:=w35 u yn1;exact this
 have hm0:=w42 u (by omega:yn1≠0);have hm1:=w45 u (by omega:0<yn1);have hq0:0<=u / yn1:=w34 hu (by omega);have hq1:u / yn1<=u:=Int.ediv_le_self _ hu;have hqm:0<=u / yn1*yn1:=w2h hq0 (by omega);rw[e1,U_id hq0 (by omega),U_id (x:=u / yn1*yn1) (by omega) (by omega),U_id (by omega) (by omega)];refine⟨rfl,by omega,hdm,hm0,by omega,?_⟩;have hY:0<yn1*4294967296+yn0:=by omega
 have hQ0:0<=(u*4294967296+d) /(yn1*4294967296+yn0):=w34 (by omega) (by omega);have hQ:=Int.ediv_mul_le (u*4294967296+d) (b:=yn1*4294967296+yn0) (by omega);generalize (u*4294967296+d) /(yn1*4294967296+yn0)=z at *;rw[w3z,<- w2x] at hQ;have:=w2h hQ0 h0;exact(Int.le_ediv_iff_mul_le (by omega)).2 (by omega)
theorem yhk(a b c:Int):U (U (U a+b)-U c)=U (a+b-c):=by simp only[y78];omega
theorem ylv{a b:Int}{s:Nat}(hs:s<=63)(ha:0<=a)(h:a*2 ^ s<18446744073709551616)(hb:0<=b)(hb':b<2 ^ s):
  U ((BitVec.ofInt 64 (U (a*2 ^ s))||| BitVec.ofInt 64 b).toNat)=a*2 ^ s+b:=by
 have hp :(0:Int)<2 ^ s:=Int.pow_pos (by decide);have hn:=w2h ha (Int.le_of_lt hp);have hp2 :(2:Int) ^ s =((2 ^ s:Nat):Int):=by simp
 have hlt :(2 ^ s:Nat)<18446744073709551616:=yfo hs;rw[U_id hn (by omega)];show U ((BitVec.ofInt 64 (a*2 ^ s)||| BitVec.ofInt 64 b).toNat:Int)=_;have hlt2:=(BitVec.ofInt 64 (a*2 ^ s)||| BitVec.ofInt 64 b).isLt;rw[yhn (by omega),BitVec.toNat_or,z9y hn h,z9y hb (by omega)];obtain⟨n,rfl⟩:=w3i ha;obtain⟨m,rfl⟩:=w3i hb;have e :((n:Int)*2 ^ s).toNat=2 ^ s*n:=by rw[hp2,<- w4p,w1n,w59]
 rw[e,w1n,<- Nat.two_pow_add_eq_or_of_lt (by rw[hp2] at hb';omega)];simp[w32]
theorem znt(φ:Nat)(v:Int)(h:0<v)(h':v<18446744073709551616):∃s:Nat,z3l φ v=some ((s:Int),())/\s<=63/\
  9223372036854775808<=v*2 ^ s/\v*2 ^ s<18446744073709551616/\v<=2 ^ (64-s):=by
 obtain⟨n,e,hn,h1,h2⟩:=ymi φ v (by omega) h';obtain⟨h3,h4⟩:=h2 (by omega);refine⟨64-n,?_,by omega,?_,?_,?_⟩
 .rw[e];congr 2;omega
 .have:2 ^ (n-1)*2 ^ (64-n)<=v.toNat*2 ^ (64-n):=w1b _ h4;rw[<- w4v,show n-1+(64-n)=63 by omega] at this;have e2 :((v.toNat*2 ^ (64-n):Nat):Int)=v*2 ^ (64-n):=by rw[w4p,Int.natCast_pow];congr 1;omega
  omega
 .have:v.toNat*2 ^ (64-n)<2 ^ n*2 ^ (64-n):=Nat.mul_lt_mul_of_pos_right h1 (Nat.two_pow_pos _);rw[<- w4v,show n+(64-n)=64 by omega] at this;have e2 :((v.toNat*2 ^ (64-n):Nat):Int)=v*2 ^ (64-n):=by rw[w4p,Int.natCast_pow];congr 1;omega
  omega
 .rw[show 64-(64-n)=n by omega];have e2 :((2 ^ n:Nat):Int) =(2:Int) ^ n:=by simp
  omega
theorem ycx(φ:Nat)(hφ:5<φ)(hi lo y:Int)(h0:0<=hi)(hy:hi<y)(hy':y<18446744073709551616)(hl:0<=lo)(hl':lo<18446744073709551616):
  z82 φ hi lo y=some ((hi*18446744073709551616+lo) / y,(hi*18446744073709551616+lo) % y,()):=by
 unfold z82;rw[if_neg (by simp;omega),if_neg (by simp;omega)];by_cases hz:hi=0
 .subst hz;rw[if_pos (by simp),z6 (by omega),z6 (by omega),w36 hl,w1y hl,U_id (w34 hl (by omega)) (by have:=Int.ediv_le_self y hl;omega)];simp
 rw[if_neg (by simpa using hz)];obtain⟨s,es,hs,hY1,hY2,hyP⟩:=znt φ y (by omega) hy';have em1:min (s:Int).toNat 64=s:=by omega
 have em2:min (64-(s:Int)).toNat 64=64-s:=by omega
 have hp :(0:Int)<2 ^ s:=Int.pow_pos (by decide);have hP :(0:Int)<2 ^ (64-s):=Int.pow_pos (by decide);have hpP :(2:Int) ^ s*2 ^ (64-s)=18446744073709551616:=by rw[<- Int.pow_add,show s+(64-s)=64 by omega];rfl
 have hhp:hi*2 ^ s<y*2 ^ s:=w52 hy hp;have hlP0:0<=lo / 2 ^ (64-s):=w34 hl (by omega);have hlP1:lo / 2 ^ (64-s)<2 ^ s:=w3r hP (by omega);have hh0:0<=hi*2 ^ s:=w2h h0 (by omega)
 -- the low word
 have hlo10:U (lo*2 ^ s)=lo % 2 ^ (64-s)*2 ^ s:=by
  have e:lo=lo / 2 ^ (64-s)*2 ^ (64-s)+lo % 2 ^ (64-s):=(w35 lo _).symm;have e2:lo*2 ^ s=lo / 2 ^ (64-s)*18446744073709551616+lo % 2 ^ (64-s)*2 ^ s:=by
   conv=>lhs;rw[e]
   rw[w3y,w2x,w32 (2 ^ (64-s)),hpP]
  have m0:=w42 lo (by omega :(2:Int) ^ (64-s)≠0);have m1:=w45 lo hP;have m2:lo % 2 ^ (64-s)*2 ^ s<2 ^ (64-s)*2 ^ s:=w52 m1 hp;have m3:=w2h m0 (Int.le_of_lt hp);rw[w32 (2 ^ (64-s))] at m2;rw[e2,y78];omega
 have hN :(hi*2 ^ s+lo / 2 ^ (64-s))*18446744073709551616+lo % 2 ^ (64-s)*2 ^ s =(hi*18446744073709551616+lo)*2 ^ s:=by
  have e:lo=lo / 2 ^ (64-s)*2 ^ (64-s)+lo % 2 ^ (64-s):=(w35 lo _).symm;have e2:lo*2 ^ s=lo / 2 ^ (64-s)*18446744073709551616+lo % 2 ^ (64-s)*2 ^ s:=by
   conv=>lhs;rw[e]
   rw[w3y,w2x,w32 (2 ^ (64-s)),hpP]
  have e3 :(hi*18446744073709551616+lo)*2 ^ s=hi*2 ^ s*18446744073709551616+lo*2 ^ s:=by rw[w3y,w51]
  rw[e3,e2];omega
 have hun0:0<=lo % 2 ^ (64-s)*2 ^ s:=w2h (w42 lo (by omega)) (by omega);have hun1:lo % 2 ^ (64-s)*2 ^ s<18446744073709551616:=by rw[<- hlo10,y78];omega
 have hu':hi*2 ^ s+lo / 2 ^ (64-s)<y*2 ^ s:=by have :(hi+1)*2 ^ s<=y*2 ^ s:=w4o (by omega) (by omega);rw[w3y] at this;omega
 have hs1:U (s:Int)=s:=U_id (by omega) (by omega);have hs2:U (64-(s:Int))=64-(s:Int):=U_id (by omega) (by omega);have ef:lo.fdiv (2 ^ (64-s))=lo / 2 ^ (64-s):=w1x _ (by omega);have eor:=ylv hs h0 (by omega:hi*2 ^ s<18446744073709551616) hlP0 hlP1;obtain⟨Y,hYd⟩:∃Y,Y=y*2 ^ s:=⟨_,rfl⟩;have eY:U (y*2 ^ s)=Y:=by rw[hYd];exact U_id (by omega) (by omega)
 obtain⟨u,hud⟩:∃u,u=hi*2 ^ s+lo / 2 ^ (64-s):=⟨_,rfl⟩;obtain⟨w,hwd⟩:∃w,w=lo % 2 ^ (64-s)*2 ^ s:=⟨_,rfl⟩;rw[<- hwd] at hlo10 hN hun0 hun1;rw[<- hud] at hN hu' eor;rw[<- hYd] at hu' hY1 hY2 hhp;have hu0:0<=u:=by omega
 have fY:Y.fdiv 4294967296=Y / 4294967296:=w1x _ (by omega);have fw:w.fdiv 4294967296=w / 4294967296:=w1x _ (by omega);have mY:=zs8 (v:=Y) (by omega) (by omega);have mw:=zs8 (v:=w) (by omega) (by omega);have b1:2147483648<=Y / 4294967296/\Y / 4294967296<4294967296/\0<=Y % 4294967296/\Y % 4294967296<4294967296:=by omega
 have b2:0<=w / 4294967296/\w / 4294967296<4294967296/\0<=w % 4294967296/\w % 4294967296<4294967296:=by omega
 have eYs:Y / 4294967296*4294967296+Y % 4294967296=Y:=by omega
 obtain⟨m,rfl⟩:∃m,φ=m+3:=⟨φ-3,by omega⟩;rw[es];simp only[w01,hs1,hs2,em1,em2,sh32,eY,hlo10,mY,mw,ef,eor,show (0:Int)<=32 by decide,if_true];rw[z6 (by omega),z6 (by omega),z6 (by omega),z6 (by omega),z6 (by omega)];obtain⟨i1,i2,i3,i4,i5,i6⟩:=zre (u:=u) (d:=w / 4294967296) b1.1 b1.2.1 b1.2.2.1 b1.2.2.2 b2.1 b2.2.1 hu0 (by omega);rw[i1] at i2⊢;rw[i2];refine(zv4 (λn q r=>z7g (m+3) n Y s (Y / 4294967296) (Y % 4294967296) u (w / 4294967296) (w % 4294967296) q r) (λq=>z7h (m+3) Y s (Y / 4294967296) (Y % 4294967296) u (w / 4294967296) (w % 4294967296) q)
  b1.1 b1.2.1 b1.2.2.1 b1.2.2.2 b2.1 b2.2.1 hu0 (by omega) (λn q r=>by rw[z7g]) (m+2) _ _ i3 i4 i5 i6 (by omega)).trans ?_
 rw[eYs];unfold z7h;rw[z6 (by omega)];have hQ1:0<=(u*4294967296+w / 4294967296) / Y/\(u*4294967296+w / 4294967296) / Y<4294967296:=⟨w34 (by omega) (by omega),w3r (by omega) (by omega)⟩;have hR1:=w35 (u*4294967296+w / 4294967296) Y;have hR1a:=w42 (u*4294967296+w / 4294967296) (by omega:Y≠0);have hR1b:=w45 (u*4294967296+w / 4294967296) (by omega:0<Y);generalize (u*4294967296+w / 4294967296) / Y=q1 at *;generalize (u*4294967296+w / 4294967296) % Y=r1 at *;have eu21:U (U (U (u*4294967296)+w / 4294967296)-U (q1*Y))=r1:=by rw[yhk,show u*4294967296+w / 4294967296-q1*Y=r1 by omega];exact U_id hR1a (by omega)
 rw[eu21];obtain⟨j1,j2,j3,j4,j5,j6⟩:=zre (u:=r1) (d:=w % 4294967296) b1.1 b1.2.1 b1.2.2.1 b1.2.2.2 b2.2.2.1 b2.2.2.2 hR1a (by omega);rw[j1] at j2⊢;rw[j2];refine(zv4 (λn q r=>z7f (m+3) n Y s (Y / 4294967296) (Y % 4294967296) (w % 4294967296) q1 r r1 q) (λq=>z7i (m+3) Y s (w % 4294967296) q1 r1 q)
  b1.1 b1.2.1 b1.2.2.1 b1.2.2.2 b2.2.2.1 b2.2.2.2 hR1a (by omega) (λn q r=>by rw[z7f]) (m+2) _ _ j3 j4 j5 j6 (by omega)).trans ?_
 rw[eYs];unfold z7i;rw[em1,z6 (by omega)];have hQ0:0<=(r1*4294967296+w % 4294967296) / Y/\(r1*4294967296+w % 4294967296) / Y<4294967296:=⟨w34 (by omega) (by omega),w3r (by omega) (by omega)⟩;have hR0:=w35 (r1*4294967296+w % 4294967296) Y;have hR0a:=w42 (r1*4294967296+w % 4294967296) (by omega:Y≠0);have hR0b:=w45 (r1*4294967296+w % 4294967296) (by omega:0<Y);generalize (r1*4294967296+w % 4294967296) / Y=q0 at *;generalize (r1*4294967296+w % 4294967296) % Y=r0 at *;rw[yhk,show r1*4294967296+w % 4294967296-q0*Y=r0 by omega,U_id (x:=r0) hR0a (by omega),U_id (x:=q1*4294967296) (by omega) (by omega),U_id (by omega) (by omega),w1x _ (by omega)];have hall :(hi*18446744073709551616+lo-(q1*4294967296+q0)*y)*2 ^ s=r0:=by rw[Int.sub_mul,<- hN,w2x,<- hYd,w3y,w51];omega
 have hz0:0<=hi*18446744073709551616+lo-(q1*4294967296+q0)*y:=by
  rcases Int.lt_or_le (hi*18446744073709551616+lo-(q1*4294967296+q0)*y) 0 with h|h
  .have:=Int.mul_neg_of_neg_of_pos h hp;omega
  .exact h
 have hz1:hi*18446744073709551616+lo-(q1*4294967296+q0)*y<y:=by refine Int.lt_of_mul_lt_mul_right (a:=2 ^ s) ?_ (by omega);rw[hall,<- hYd];exact hR0b
 have hr0:r0 / 2 ^ s=hi*18446744073709551616+lo-(q1*4294967296+q0)*y:=by rw[<- hall];exact Int.mul_ediv_cancel _ (by omega)
 have hdm :(hi*18446744073709551616+lo) / y=q1*4294967296+q0/\(hi*18446744073709551616+lo) % y=hi*18446744073709551616+lo-(q1*4294967296+q0)*y:=(Int.ediv_emod_unique (by omega)).2 ⟨by rw[w32 y];omega,hz0,hz1⟩;rw[hr0,hdm.1,hdm.2]
end Px
end
section
namespace Px
open Go
set_option maxRecDepth 100000
def PP:Nat:=2305843009213690799
def QQ:Nat:=1152921504606845399
def pw(b n:Nat):Nat:=b ^ n % PP
theorem y45(b n:Nat):pw b n<PP:=w4k _ (by decide)
theorem zxl(b:Nat):pw b 0=1:=by simp[pw,PP]
theorem ybw(b m n:Nat):pw b m*pw b n % PP=pw b (m+n):=by unfold pw;rw[w4v,<- Nat.mul_mod]
theorem yhg(b:Nat):pw b 1=b % PP:=by simp[pw]
theorem yld{a:Nat}(h:a<PP):((a:Int)).tmod 2305843009213690799 =(a:Int):=by unfold PP at h;rw[w1y (by omega)];omega
theorem yle(b:Nat):((b:Int)).tmod 2305843009213690799 =((b % PP:Nat):Int):=by rw[w1y (by omega)];unfold PP;omega
theorem yb1{ρ:Type}{a b:Nat}(ha:a<PP)(hb:b<PP)(φ:Nat)(hφ:5<φ)(K:Int->Option ρ):((z9k φ (a:Int) (b:Int)).bind λy=>(z82 φ y.1 y.2.1 2305843009213690799).bind λz=>K z.2.1)=K ((a*b % PP:Nat):Int):=by
 have ha' :(a:Int)<2305843009213690799:=by unfold PP at ha;omega
 have hb' :(b:Int)<2305843009213690799:=by unfold PP at hb;omega
 have hp:=zsa (by omega:0<=(a:Int)) (by omega:0<=(b:Int)) (by omega :(a:Int)<=2305843009213690798) (by omega :(b:Int)<=2305843009213690798);rw[ycz φ _ _ (by omega) (by omega) (by omega) (by omega),w01];generalize hz :(a:Int)*(b:Int)=z at *;show (z82 φ (z / 18446744073709551616) (z % 18446744073709551616) 2305843009213690799).bind _=_;rw[ycx φ hφ _ _ _ (by omega) (by omega) (by omega) (by omega) (by omega),w01];congr 1;have:z / 18446744073709551616*18446744073709551616+z % 18446744073709551616=z:=by omega
 show (z / 18446744073709551616*18446744073709551616+z % 18446744073709551616) % 2305843009213690799=_;rw[this,<- hz,Int.natCast_emod,w4p];rfl
theorem z9j.uniq{v m n:Nat}(hv:0<v)(h:z9j v m)(k:z9j v n):m=n:=by obtain⟨h1,h2⟩:=h;obtain⟨k1,k2⟩:=k;obtain⟨h3,h4⟩:=h2 hv;obtain⟨k3,k4⟩:=k2 hv;have a:m-1<n:=(Nat.pow_lt_pow_iff_right (by decide:1<2)).1 (w50 h4 k1);have b:n-1<m:=(Nat.pow_lt_pow_iff_right (by decide:1<2)).1 (w50 k4 h1);omega
section first
variable(φ:Nat)(b n a p:Int)
theorem ybs(v w:Int)(h:0<=v)(h':v<256)(hw:0<=w)(hw':w<=64):∃m:Nat,zb2 φ v w b n a p=z0s φ φ b n a (w+m) 0 p/\m<=8/\z9j v.toNat m:=by
 obtain⟨m,e,hm,x,y⟩:=zs3 h h';have e8:IntKind.wrap .u8 v=v:=by simp[IntKind.wrap,IntKind.bits,IntKind.signed];omega
 refine⟨m,?_,hm,x,λhv=>y (by omega)⟩;unfold zb2;rw[e8,z6 ⟨h,h'⟩,e,W_id (x:=(m:Int)) (by omega) (by omega),W_id (x:=w+m) (by omega) (by omega)]
theorem ybr(v w:Int)(h:0<=v)(h':v<65536)(hw:0<=w)(hw':w<=48):∃m:Nat,zb1 φ v w b n a p=z0s φ φ b n a (w+m) 0 p/\m<=16/\z9j v.toNat m:=by
 unfold zb1;by_cases c:256<=v
 .rw[if_pos (by simpa using c),if_pos (by decide),sh8,W_id (by omega) (by omega)];obtain⟨m,e,hn,hl⟩:=ybs φ b n a p (v / 256) (w+8) (by omega) (by omega) (by omega) (by omega);refine⟨m+8,by rw[e];congr 1;omega,by omega,?_⟩;refine z9j.up 8 ?_ (by omega)
  rwa [show v.toNat / 2 ^ 8 =(v / 256).toNat by omega]
 .rw[if_neg (by simpa using c)];obtain⟨m,e,hn,hl⟩:=ybs φ b n a p v w h (by omega) (by omega) (by omega);exact⟨m,e,by omega,hl⟩
theorem yhe(v w:Int)(h:0<=v)(h':v<4294967296)(hw:0<=w)(hw':w<=32):∃m:Nat,ze9 φ v w b n a p=z0s φ φ b n a (w+m) 0 p/\m<=32/\z9j v.toNat m:=by
 unfold ze9;by_cases c:65536<=v
 .rw[if_pos (by simpa using c),if_pos (by decide),sh16,W_id (by omega) (by omega)];obtain⟨m,e,hn,hl⟩:=ybr φ b n a p (v / 65536) (w+16) (by omega) (by omega) (by omega) (by omega);refine⟨m+16,by rw[e];congr 1;omega,by omega,?_⟩;refine z9j.up 16 ?_ (by omega)
  rwa [show v.toNat / 2 ^ 16 =(v / 65536).toNat by omega]
 .rw[if_neg (by simpa using c)];obtain⟨m,e,hn,hl⟩:=ybr φ b n a p v w h (by omega) (by omega) (by omega);exact⟨m,e,by omega,hl⟩
end first
def zoo(φ:Nat)(k:Int->Int->Int->Int->Int->Int->Option (Int×Unit))(L b c d e f g i a:Int):Option (Int×Unit):=ck (0<=(W ((W (L-1))-e))) (if(((U ((BitVec.ofInt 64 ((i:Int).fdiv (2 ^ (min ((W ((W (L-1))-e)):Int).toNat 64)))&&& BitVec.ofInt 64 1).toNat)):Int)==1)=true then(ck (a≠0) (ck (a≠0) ((z9k φ ((d:Int).tmod a) ((b:Int).tmod a)).bind λh=>((z82 φ h.1 h.2.1 a).bind λj=>(k b c j.2.1 f (W (g+1)) a))))) else(k b c d f (W (g+1)) a))
section second
variable(φ:Nat)(k:Int->Int->Int->Int->Int->Int->Option (Int×Unit))(x57 x58 x59 x60 x61 x62 x63 x64:Int)
theorem ybv(v w:Int)(h:0<=v)(h':v<256)(hw:0<=w)(hw':w<=64):∃m:Nat,zb4 φ k v w x57 x58 x59 x60 x61 x62 x63 x64=zoo φ k (w+m) x57 x58 x59 x60 x61 x62 x63 x64/\m<=8/\z9j v.toNat m:=by
 obtain⟨m,e,hm,x,y⟩:=zs3 h h';have e8:IntKind.wrap .u8 v=v:=by simp[IntKind.wrap,IntKind.bits,IntKind.signed];omega
 refine⟨m,?_,hm,x,λhv=>y (by omega)⟩;unfold zb4 zoo;rw[e8,z6 ⟨h,h'⟩,e,W_id (x:=(m:Int)) (by omega) (by omega),W_id (x:=w+m) (by omega) (by omega)]
theorem ybu(v w:Int)(h:0<=v)(h':v<65536)(hw:0<=w)(hw':w<=48):∃m:Nat,zb3 φ k v w x57 x58 x59 x60 x61 x62 x63 x64=zoo φ k (w+m) x57 x58 x59 x60 x61 x62 x63 x64/\m<=16/\z9j v.toNat m:=by
 unfold zb3;by_cases c:256<=v
 .rw[if_pos (by simpa using c),if_pos (by decide),sh8,W_id (by omega) (by omega)];obtain⟨m,e,hn,hl⟩:=ybv φ k x57 x58 x59 x60 x61 x62 x63 x64 (v / 256) (w+8) (by omega) (by omega) (by omega) (by omega);refine⟨m+8,by rw[e];congr 1;omega,by omega,?_⟩;refine z9j.up 8 ?_ (by omega)
  rwa [show v.toNat / 2 ^ 8 =(v / 256).toNat by omega]
 .rw[if_neg (by simpa using c)];obtain⟨m,e,hn,hl⟩:=ybv φ k x57 x58 x59 x60 x61 x62 x63 x64 v w h (by omega) (by omega) (by omega);exact⟨m,e,by omega,hl⟩
theorem ybt(v w:Int)(h:0<=v)(h':v<4294967296)(hw:0<=w)(hw':w<=32):∃m:Nat,z4g φ k v w x57 x58 x59 x60 x61 x62 x63 x64=zoo φ k (w+m) x57 x58 x59 x60 x61 x62 x63 x64/\m<=32/\z9j v.toNat m:=by
 unfold z4g;by_cases c:65536<=v
 .rw[if_pos (by simpa using c),if_pos (by decide),sh16,W_id (by omega) (by omega)];obtain⟨m,e,hn,hl⟩:=ybu φ k x57 x58 x59 x60 x61 x62 x63 x64 (v / 65536) (w+16) (by omega) (by omega) (by omega) (by omega);refine⟨m+16,by rw[e];congr 1;omega,by omega,?_⟩;refine z9j.up 16 ?_ (by omega)
  rwa [show v.toNat / 2 ^ 16 =(v / 65536).toNat by omega]
 .rw[if_neg (by simpa using c)];obtain⟨m,e,hn,hl⟩:=ybu φ k x57 x58 x59 x60 x61 x62 x63 x64 v w h (by omega) (by omega) (by omega);exact⟨m,e,by omega,hl⟩
theorem ylx(v:Int)(h:0<=v)(h':v<18446744073709551616):∃m:Nat,(if(decide ((4294967296:Int)<=v))=true then(if 0<=(32:Int) then(z4g φ k (((v:Int).fdiv (2 ^ (min (32:Int).toNat 64)))) 32 x57 x58 x59 x60 x61 x62 x63 x64) else none) else(z4g φ k v 0 x57 x58 x59 x60 x61 x62 x63 x64)) =
  zoo φ k m x57 x58 x59 x60 x61 x62 x63 x64/\m<=64/\z9j v.toNat m:=by
 by_cases c:4294967296<=v
 .rw[if_pos (by simpa using c),if_pos (by decide),sh32];obtain⟨m,e,hn,hl⟩:=ybt φ k x57 x58 x59 x60 x61 x62 x63 x64 (v / 4294967296) 32 (by omega) (by omega) (by omega) (by omega);refine⟨m+32,by rw[e];congr 1;omega,by omega,?_⟩;refine z9j.up 32 ?_ (by omega)
  rwa [show v.toNat / 2 ^ 32 =(v / 4294967296).toNat by omega]
 .rw[if_neg (by simpa using c)];obtain⟨m,e,hn,hl⟩:=ybt φ k x57 x58 x59 x60 x61 x62 x63 x64 v 0 h (by omega) (by omega) (by omega);exact⟨m,by rw[e];simp,by omega,hl⟩
end second
theorem y4j(φ:Nat)(hφ:100<φ)(b n:Nat)(hn0:0<n)(hn:n<18446744073709551616):znn φ (b:Int) (n:Int)=some (((pw b n:Nat):Int),()):=by
 have hstart:∃L:Nat,znn φ (b:Int) (n:Int)=z0s φ φ b n 1 L 0 2305843009213690799/\L<=64/\z9j n L:=by
  unfold znn;by_cases c :(4294967296:Int)<=n
  .rw[if_pos (by simpa using c),if_pos (by decide),sh32];obtain⟨m,e,hm,hl⟩:=yhe φ b n 1 2305843009213690799 ((n:Int) / 4294967296) 32 (by omega) (by omega) (by omega) (by omega);refine⟨m+32,by rw[e];congr 1;omega,by omega,?_⟩;refine z9j.up 32 ?_ (by omega)
   rwa [show n / 2 ^ 32 =((n:Int) / 4294967296).toNat by omega]
  .rw[if_neg (by simpa using c)];obtain⟨m,e,hm,hl⟩:=yhe φ b n 1 2305843009213690799 (n:Int) 0 (by omega) (by omega) (by omega) (by omega);exact⟨m,by rw[e];simp,by omega,by rwa [w1n] at hl⟩
 obtain⟨L,e0,hL,hlen⟩:=hstart;rw[e0];obtain⟨h1,h2⟩:=hlen;refine z0a (λk i v=>z0s φ k (b:Int) (n:Int) v (L:Int) i 2305843009213690799) L (λi v=>v =((pw b (n / 2 ^ (L-i)):Nat):Int)) (λo=>o=some (((pw b n:Nat):Int),())) ?_ ?_ φ 1 ?_ (by omega)
 .intro k i v hi hv hs;rw[z0s,if_pos (by simp;omega),z6 (by decide),z6 (by decide)];subst hv;rw[yld (y45 _ _)];refine(yb1 (y45 _ _) (y45 _ _) φ (by omega) (λz=>(if(decide ((4294967296:Int)<=(n:Int)))=true then(if 0<=(32:Int) then(z4g φ (z0s φ k) ((((n:Int):Int).fdiv (2 ^ (min (32:Int).toNat 64)))) 32 b n z i L i n 2305843009213690799) else none) else(z4g φ (z0s φ k) n 0 b n z i L i n 2305843009213690799)))).trans ?_;rw[ybw];obtain⟨m,em,hm,hl⟩:=ylx φ (z0s φ k) b n ((pw b (n / 2 ^ (L-i)+n / 2 ^ (L-i)):Nat):Int) i L i n 2305843009213690799 (n:Int) (by omega) (by omega);refine em.trans ?_;rw[w1n] at hl;have:=z9j.uniq hn0 hl ⟨h1,h2⟩;subst this;unfold zoo;have hw1:W ((m:Int)-1) =(m:Int)-1:=W_id (by omega) (by omega);have hw2:W ((m:Int)-1-(i:Int)) =((m-1-i:Nat):Int):=by rw[W_id (by omega) (by omega)];omega
  rw[hw1,hw2,z6 (by omega)];have hsh:=ym8 (c:=(n:Int)) (k:=((m-1-i:Nat):Int)) (by omega) (by omega) (by omega);have hone:U ((BitVec.ofInt 64 ((n:Int).fdiv (2 ^ (min (((m-1-i:Nat):Int)).toNat 64)))&&& BitVec.ofInt 64 1).toNat) =((n / 2 ^ (m-1-i) % 2:Nat):Int):=by rw[show ((n:Int).fdiv (2 ^ (min (((m-1-i:Nat):Int)).toNat 64)))=_ from hsh,w1n,w1n];have hd:n / 2 ^ (m-1-i)<=n:=Nat.div_le_self _ _;rw[w5e,z9y (Int.natCast_nonneg _) (by omega),z9y (by omega) (by omega),yhn (ygj (by omega)),w1n];show ((n / 2 ^ (m-1-i)&&& 1:Nat):Int)=_;rw[Nat.and_one_is_mod]
  rw[hone];have hhalf:n / 2 ^ (m-i)=n / 2 ^ (m-1-i) / 2:=by rw[Nat.div_div_eq_div_mul,<- Nat.pow_succ];congr 2;omega
  have hidx:m-(i+1)=m-1-i:=by omega
  have hW:W ((i:Int)+1) =(i:Int)+1:=W_id (by omega) (by omega);have hbit:=w3x (n / 2 ^ (m-1-i));rcases hbit with hbit|hbit
  .rw[hbit,if_neg (by simp),hW];refine hs _ ?_;rw[hidx,hhalf];congr 2;omega
  .rw[hbit,if_pos (by simp),yld (y45 _ _),yle,z6 (by decide),z6 (by decide),hW];refine(yb1 (y45 _ _) (w4k b (by decide:0<PP)) φ (by omega) (λz=>z0s φ k b n z m ((i:Int)+1) 2305843009213690799)).trans ?_;refine hs _ ?_;rw[<- yhg b,ybw,hidx,hhalf];congr 2;omega
 .intro k v hv;rw[z0s,if_neg (by simp),hv];rw[Nat.sub_self,Nat.pow_zero,Nat.div_one]
 .rw[w3o,Nat.div_eq_of_lt h1,zxl];rfl
def y80(x:Int):Bool:=decide (2<=x)&&decide (x<2305843009213690799)&&(pw x.toNat QQ==1)
theorem zsb(a:Nat):(((a:Nat):Int)==1) =(a==1):=by rw[w2j,beq_iff_eq,beq_iff_eq];omega
theorem zz2(φ:Nat)(hφ:100<φ)(x:Int):zl7 φ x=some (y80 x,()):=by
 unfold zl7 y80 zn;cases h:decide (2<=x)&&decide (x<2305843009213690799) with
 |false=>rw[if_neg (by simp),w01];simp only[w3p]
 |true=>simp only[w03,decide_eq_true_eq] at h;have:=y4j φ hφ x.toNat QQ (by decide) (by decide);rw[show ((x.toNat:Nat):Int)=x by omega,show ((QQ:Nat):Int)=1152921504606845399 by decide] at this;rw[if_pos rfl,this,w01,w1r,w1r];show some ((((pw x.toNat QQ:Nat):Int)==1),())=_;rw[zsb]
end Px
end
section
namespace Px
open Go
theorem gz_t{α:Type}{z:α}{p:Prop}[Decidable p]{x:Option α}(h:p):zn z p x=x:=if_pos h
theorem gz_f{α:Type}{z:α}{p:Prop}[Decidable p]{x:Option α}(h:¬p):zn z p x=some z:=if_neg h
def z9z(p:zgg):Bool:=bet p.kind 1 5&&bet p.railway 0 15&&(bif p.kind==3 then bet p.other 0 15&&(p.other !=p.railway) else p.other==(-1))
def zbq(n:Int)(e:Edge):Bool:=bet e.a 0 (n-1)&&bet e.b 0 (n-1)&&(e.a !=e.b)&&bet e.railway 0 15&&bet e.minutes 1 100000&&bet e.km 0 10000
def z6e(x:zi):Int:=bif decide (512<x.places.length)||decide (2048<x.edges.length) then 2 else bif x.places.all z9z&&x.edges.all (zbq x.places.length) then 0 else 1
theorem zqe(φ:Nat)(p:zgg):zc0 φ p=some (z9z p,()):=by
 have hb :(((decide (p.kind<1)||decide (5<p.kind))||decide (p.railway<0))||decide (16<=p.railway)) = !(bet p.kind 1 5&&bet p.railway 0 15):=by rw[w2j];simp[bet];omega
 unfold zc0 z9z;rw[hb];cases bet p.kind 1 5&&bet p.railway 0 15 with
 |false=>rfl
 |true=>
  rw[if_neg (by simp)];by_cases h:p.kind=3
  .have :(decide (0<=p.other)&&decide (p.other<16))=bet p.other 0 15:=by rw[w2j];simp[bet];omega
   rw[if_neg (by simp[h]),this];simp[h]
  .have h2 :(p.kind==3)=false:=by simpa using h
   rw[if_pos (by simp[h]),h2];rfl
theorem y9j(n:Int)(e:Edge):((((((decide ((min2 (min2 (min2 (e.a) (e.b)) (e.railway)) (e.km))<0)||decide (n<=(max2 (e.a) (e.b))))||(e.a==e.b))||decide (16<=e.railway))||decide (e.minutes<1))||decide (100000<e.minutes))||decide (10000<e.km)) = !zbq n e:=by
 have hm:∀x y z:Int,z<=max2 x y↔z<=x\/z<=y:=by intro x y z;unfold max2;split<;>omega
 have hok:zbq n e=true↔((((((0<=e.a/\e.a<=n-1)/\0<=e.b/\e.b<=n-1)/\¬e.a=e.b)/\0<=e.railway/\e.railway<=15)/\1<=e.minutes/\e.minutes<=100000)/\0<=e.km/\e.km<=10000):=by simp only[zbq,w03,z33,bne_iff_ne,ne_eq]
 rw[w2j,w0p,<- w2d,hok];simp only[w0w,decide_eq_true_eq,yj5,hm,beq_iff_eq];omega
theorem y6g(x:zi):(decide (512<(x.places.length:Int))||decide (2048<(x.edges.length:Int))) =(decide (512<x.places.length)||decide (2048<x.edges.length)):=by congr 1<;>(apply decide_eq_decide.2;omega)
theorem z7v(φ:Nat)(hφ:5000<φ)(x:zi):z8y φ x=some (z6e x,()):=by
 unfold z8y z6e;rw[y6g];cases h:decide (512<x.places.length)||decide (2048<x.edges.length) with
 |true=>rfl
 |false=>
  simp only[w0y,decide_eq_false_iff_not,w4n] at h;rw[if_neg (by simp),z73 (λn i=>z43 φ n (x.places.length:Int) x.places (x.places.length:Int) i x) (z21 φ φ (x.places.length:Int) x.edges (x.edges.length:Int) 0) (some (1,())) x.places (λt=>!z9z t) ?_ ?_ φ (by omega)]
  .rw[z73 (λn i=>z21 φ n (x.places.length:Int) x.edges (x.edges.length:Int) i) (some (0,())) (some (1,())) x.edges (λt=>!zbq x.places.length t) ?_ ?_ φ (by omega)]
   .simp only[w4b,Bool.not_not];cases x.places.all z9z<;>cases x.edges.all (zbq x.places.length)<;>rfl
   .intro n i hi;rw[z21,if_pos (by simp;omega),z6 ⟨by omega,by omega⟩,y9j,W_id (by omega) (by omega)];cases zbq x.places.length (gt x.edges i)<;>rfl
   .intro n;rw[z21,if_neg (by simp)]
  .intro n i hi;rw[z43,if_pos (by simp;omega),z6 ⟨by omega,by omega⟩,zqe,w01,W_id (by omega) (by omega)];cases z9z (gt x.places i)<;>rfl
  .intro n;rw[z43,if_neg (by simp)]
theorem zmh{x:zi}(h:z6e x=0):x.places.length<=512/\x.edges.length<=2048/\(∀p∈x.places,z9z p=true)/\∀e∈x.edges,zbq x.places.length e=true:=by
 unfold z6e at h;cases h1:decide (512<x.places.length)||decide (2048<x.edges.length) with
 |true=>rw[h1] at h;cases h
 |false=>
  rw[h1] at h;cases h2:x.places.all z9z&&x.edges.all (zbq x.places.length) with
  |false=>rw[h2] at h;cases h
  |true=>simp only[w0y,decide_eq_false_iff_not,w4n] at h1;simp only[w03,w06] at h2;exact⟨h1.1,h1.2,h2⟩
def y1j:Int->List Int->Bool
 |_,[]=>true
 |p,h::t=>decide (p<h)&&decide (h<=745654)&&y1j h t
def zn4(s:Span):Bool:=decide (0<=s.from_)&&decide (s.from_<=s.to)&&decide (s.to<=1440)
def zon(c:z5k):Bool:=((List.range 7).all λi=>zn4 (c.open_ i))&&y1j (-1) c.holidays
theorem yht(φ:Nat)(c:z5k):∀(n i:Nat)(p:Int),-1<=p->(i:Int)<=p+1->p<=745654->i<=c.holidays.length->745656<=(n:Int)+p->z2s φ n p c.holidays (c.holidays.length:Int) i=some (bif y1j p (c.holidays.drop i) then 0 else 1,()):=by
 intro n
 induction n with
 |zero=>intro i p _ _ _ _ _;omega
 |succ n ih=>
  intro i p hp hip hp2 hi hn;by_cases h:i=c.holidays.length
  .rw[h,z2s,if_neg (by simp),List.drop_length];rfl
  .rw[z2s,if_pos (by simp;omega),z6 ⟨by omega,by omega⟩,y9g _ _ (by omega)];by_cases hb:gt c.holidays i<=p\/745654<gt c.holidays i
   .have :(decide (p<gt c.holidays i)&&decide (gt c.holidays i<=745654))=false:=by simp;omega
    rw[if_pos (by simpa using hb)];simp[y1j,this]
   .have h2 :(decide (p<gt c.holidays i)&&decide (gt c.holidays i<=745654))=true:=by simp;omega
    rw[if_neg (by simpa using hb),W_id (by omega) (by omega)];have:=ih (i+1) (gt c.holidays i) (by omega) (by omega) (by omega) (by omega) (by omega);rw[show ((i+1:Nat):Int) =(i:Int)+1 by omega] at this;rw[this];simp[y1j,h2]
theorem zmf(s:Span):((decide (s.from_<0)||decide (s.to<s.from_))||decide (1440<s.to)) = !zn4 s:=by
 rw[w2j];simp[zn4]
 try omega
theorem znw(φ:Nat)(hφ:800000<φ)(c:z5k):zac φ c=some (bif zon c then 0 else 1,()):=by
 unfold zac;refine z0a (λn i(_:Unit)=>z3g φ n c.open_ i c) 7 (λi _=>((List.range i).all λj=>zn4 (c.open_ j))=true) (λo=>o=some (bif zon c then 0 else 1,())) ?_ ?_ φ () (by simp) (by omega)
 .intro n i _ hi h hs;rw[z3g,if_pos (by simp;omega),z6 ⟨by omega,by omega⟩,w1n,zmf,W_id (by omega) (by omega)];cases ho:zn4 (c.open_ i) with
  |true=>rw[if_neg (by simp)];exact hs () (by rw[zab,h,ho];rfl)
  |false=>
   have:zon c=false:=by
    unfold zon;have :((List.range 7).all λj=>zn4 (c.open_ j))=false:=by rw[w4c];exact⟨i,by simp;omega,by simp[ho]⟩
    rw[this];rfl
   rw[if_pos (by simp),this];rfl
 .intro n _ h;rw[z3g,if_neg (by simp)];unfold zon;rw[h,w1r];have:=yht φ c φ 0 (-1) (by omega) (by omega) (by omega) (by omega) (by omega);simpa using this
theorem zoh{α ρ:Type}[Inhabited α](L:Nat->Bool->Int->Option ρ)(k:Bool->Option ρ)(l:List α)(p:α->Bool)
  (step:∀(n i:Nat)(s:Bool),i<l.length->L (n+1) s i=L n (s||p (gt l i)) ((i:Int)+1)) (done:∀n s,L (n+1) s l.length=k s) (n:Nat) (s:Bool) (hn:l.length<n):L n s 0=k (s||l.any p):=by
 refine z0a (λn i t=>L n t i) l.length (λi t=>t =(s||(l.take i).any p)) (λo=>o=k (s||l.any p)) ?_ ?_ n s (by simp) hn
 .intro n i t hi ht hs;rw[step n i t hi];exact hs _ (by rw[zgi _ _ _ hi,ht,Bool.or_assoc])
 .intro n t ht;rw[w1m] at ht;rw[done,ht]
def z88(n:Int)(r:zm9):Bool:=(((!bet r.place 0 (n-1))||decide (r.low<(-1000)))||decide (r.high<r.low))||decide (1000<r.high)
def z6v(x:zi)(s:zgh):Bool:=(!bet s.place 0 ((x.places.length:Int)-1))||((gt x.places s.place).kind !=4)
def zlp(r:z5l):Bool:=!zon r.calendar||!y80 r.key
def znv(x:Pool):Bool:=
 ((((((x.railways.length:Int)==0)||x.readers.any (z88 x.network.places.length))||x.shippers.any (z6v x.network))||x.fleet.wagons.any (λw=>decide ((x.network.places.length:Int)<=w.home)))||
 x.network.places.any (λp=>decide ((x.railways.length:Int)<=p.railway)||decide ((x.railways.length:Int)<=p.other)))||x.network.edges.any (λe=>decide ((x.railways.length:Int)<=e.railway))||x.railways.any zlp
def zgk(x:Pool):Bool:=(decide (256<(x.readers.length:Int))||decide (256<(x.shippers.length:Int)))||decide (16<(x.railways.length:Int))
def z62(x:Pool):Int:=if z6e x.network≠0 then z6e x.network else if z0i x.fleet≠0 then z0i x.fleet else bif zgk x then 2 else bif znv x then 1 else 0
theorem zmo(φ:Nat)(hφ:800000<φ)(x:Pool):z1h φ x=some (z62 x,()):=by
 unfold z1h z62;rw[z7v _ (by omega),w01];by_cases hn:z6e x.network=0
 case neg=>rw[if_pos (by simp[hn]),if_pos hn]
 rw[if_neg (by simp[hn]),if_neg (λe:z6e x.network≠0=>e hn),zf3 _ (by omega),w01];by_cases hf:z0i x.fleet=0
 case neg=>rw[if_pos (by simp[hf]),if_pos hf]
 rw[if_neg (by simp[hf]),if_neg (λe:z0i x.fleet≠0=>e hf)];cases hb:zgk x with
 |true=>have e :(((decide (256<(x.readers.length:Int))||decide (256<(x.shippers.length:Int)))||decide (16<(x.railways.length:Int))))=zgk x:=rfl;rw[e,hb];rfl
 |false=>
  have hb':¬(((decide (256<(x.readers.length:Int))||decide (256<(x.shippers.length:Int)))||decide (16<(x.railways.length:Int)))=true):=by rw[show (((decide (256<(x.readers.length:Int))||decide (256<(x.shippers.length:Int)))||decide (16<(x.railways.length:Int))))=zgk x from rfl,hb];simp
  rw[if_neg hb'];simp only[w0w,decide_eq_true_eq,not_or] at hb';obtain⟨n1,n2,_,_⟩:=zmh hn;obtain⟨f1,f2,_⟩:=z3m hf;have hp:W ((x.network.places.length:Int)-1) =(x.network.places.length:Int)-1:=W_id (by omega) (by omega);have a1:=zoh (λn s i=>z20 φ n x.network.places (x.railways.length:Int) s x.readers (x.readers.length:Int) i x) (λs=>z13 φ φ x.network.places (x.railways.length:Int) s x.shippers (x.shippers.length:Int) 0 x) x.readers (z88 x.network.places.length) (λn i s hi=>by
   rw[z20,if_pos (by simp;omega),z6 ⟨by omega,by omega⟩,hp,W_id (by omega) (by omega)];unfold z88;cases s with
   |true=>rw[gz_f (by simp)];rfl
   |false=>rw[gz_t rfl];rfl) (λn s=>by rw[z20,if_neg (by simp)]) φ ((x.railways.length:Int)==0) (by omega)
  refine a1.trans ?_;have a2:=λs0=>zoh (λn s i=>z13 φ n x.network.places (x.railways.length:Int) s x.shippers (x.shippers.length:Int) i x) (λs=>z14 φ φ x.network.places (x.railways.length:Int) s x.fleet.wagons (x.fleet.wagons.length:Int) 0 x) x.shippers (z6v x.network) (λn i s hi=>by
   rw[z13,if_pos (by simp;omega),z6 ⟨by omega,by omega⟩,hp,W_id (by omega) (by omega)];unfold z6v;cases s with
   |true=>rw[gz_f (by simp),w01,z6 (by simp)];rfl
   |false=>
    rw[gz_t rfl,z1r,w01];cases hbt:bet (gt x.shippers i).place 0 ((x.network.places.length:Int)-1) with
    |true=>rw[z6 (λ_=>by have:=zgj hbt;omega)];rfl
    |false=>rw[z6 (by simp)];rfl) (λn s=>by rw[z13,if_neg (by simp)]) φ s0 (by omega)
  refine(a2 _).trans ?_;have a3:=λs0=>zoh (λn s i=>z14 φ n x.network.places (x.railways.length:Int) s x.fleet.wagons (x.fleet.wagons.length:Int) i x) (λs=>z15 φ φ (x.railways.length:Int) s x.network.places (x.network.places.length:Int) 0 x) x.fleet.wagons (λw=>decide ((x.network.places.length:Int)<=w.home)) (λn i s hi=>by rw[z14,if_pos (by simp;omega),z6 ⟨by omega,by omega⟩,W_id (by omega) (by omega)]) (λn s=>by rw[z14,if_neg (by simp)]) φ s0 (by omega)
  refine(a3 _).trans ?_;have a4:=λs0=>zoh (λn s i=>z15 φ n (x.railways.length:Int) s x.network.places (x.network.places.length:Int) i x) (λs=>z16 φ φ (x.railways.length:Int) s x.network.edges (x.network.edges.length:Int) 0 x) x.network.places (λp=>decide ((x.railways.length:Int)<=p.railway)||decide ((x.railways.length:Int)<=p.other)) (λn i s hi=>by rw[z15,if_pos (by simp;omega),z6 ⟨by omega,by omega⟩,W_id (by omega) (by omega),Bool.or_assoc]) (λn s=>by rw[z15,if_neg (by simp)]) φ s0 (by omega)
  refine(a4 _).trans ?_;have a5:=λs0=>zoh (λn s i=>z16 φ n (x.railways.length:Int) s x.network.edges (x.network.edges.length:Int) i x) (λs=>z17 φ φ s x.railways (x.railways.length:Int) 0) x.network.edges (λe=>decide ((x.railways.length:Int)<=e.railway)) (λn i s hi=>by rw[z16,if_pos (by simp;omega),z6 ⟨by omega,by omega⟩,W_id (by omega) (by omega)]) (λn s=>by rw[z16,if_neg (by simp)]) φ s0 (by omega)
  refine(a5 _).trans ?_;have a6:=λs0=>zoh (λn s i=>z17 φ n s x.railways (x.railways.length:Int) i) (λs=>if s=true then some (1,()) else some (0,())) x.railways zlp (λn i s hi=>by
   rw[z17,if_pos (by simp;omega),z6 ⟨by omega,by omega⟩,W_id (by omega) (by omega)];unfold zlp;cases s with
   |true=>rw[gz_f (by simp),w01,gz_f (by simp)];rfl
   |false=>
    rw[gz_t rfl,znw _ hφ,w01];cases zon (gt x.railways i).calendar with
    |false=>rw[gz_f (by simp)];rfl
    |true=>rw[gz_t (by simp),zz2 _ (by omega)];rfl) (λn s=>by rw[z17,if_neg (by simp)]) φ s0 (by omega)
  refine(a6 _).trans ?_;show (if znv x=true then some ((1:Int),()) else some (0,()))=_;cases znv x<;>rfl
theorem y7f{p:Pool}(h:z62 p=0):z6e p.network=0/\z0i p.fleet=0/\p.readers.length<=256/\p.shippers.length<=256/\p.railways.length<=16/\znv p=false:=by
 unfold z62 at h;by_cases hn:z6e p.network=0
 case neg=>rw[if_pos hn] at h;exact absurd h hn
 rw[if_neg (λe:z6e p.network≠0=>e hn)] at h;by_cases hf:z0i p.fleet=0
 case neg=>rw[if_pos hf] at h;exact absurd h hf
 rw[if_neg (λe:z0i p.fleet≠0=>e hf)] at h;cases hb:zgk p with
 |true=>rw[hb] at h;cases h
 |false=>
  rw[hb] at h;cases hd:znv p with
  |true=>rw[hd] at h;cases h
  |false=>simp only[zgk,w0y,decide_eq_false_iff_not] at hb;exact⟨hn,hf,by omega,by omega,by omega,rfl⟩
end Px
end
section
namespace Px
open Go
theorem z2o(φ:Nat)(a b c:Int):zw φ a b c=some (bet a b c,()):=rfl
theorem zt2(φ:Nat)(l:List Wash)(hl:l.length<=4096)(hφ:5000<φ):zay φ l=some (bif z5m l then 0 else 1,()):=by
 unfold zay;rw[z6 (mk_t _ _ (by omega) (by omega) (by omega))];refine z0a (λn i t=>z5e φ n l i t) l.length
  (λi t=>(List.range i).all (z3v l)=true/\t.length=4096/\∀j:Int,0<=j->j<4096->gt t j =(l.take i).any λv=>keyW v==j)
  (λo=>o=some (bif z5m l then 0 else 1,())) ?_ ?_ φ _ ⟨by simp,by rw[List.length_replicate];rfl,λj h0 h1=>by rw[zem _ _ _ h0 (by rw[show (4096:Int).toNat=4096 from rfl];omega)];simp⟩ (by omega)
 .intro n i t hi ⟨h1,h2,h3⟩ hs;have hW:W ((i:Int)+1) =(i:Int)+1:=W_id (by omega) (by omega);have hsucc:=zab (z3v l) i;have hbad:z3v l i=false->z5m l=false:=by intro h;unfold z5m;rw[w4c];exact⟨i,by simp;omega,by simp[h]⟩
  rw[z5e,if_pos (by simp;omega),z6 ⟨by omega,by omega⟩];simp only[z2o,w01,zn];have hok:zve (gt l i) =(bet (gt l i).from_ 0 63&&bet (gt l i).to 0 63&&((gt l i).from_ !=(gt l i).to)&&bet (gt l i).minutes 0 100000):=rfl;have hne :((gt l i).from_==(gt l i).to) = !((gt l i).from_ !=(gt l i).to):=by simp[bne]
  rw[hne];cases hw:zve (gt l i) with
  |false=>rw[hbad (by simp[z3v,hw])];rw[hw] at hok;clear hne hs h3;generalize bet (gt l i).from_ 0 63=a at *;generalize bet (gt l i).to 0 63=b at *;generalize ((gt l i).from_ !=(gt l i).to)=c at *;generalize bet (gt l i).minutes 0 100000=d at *;cases a<;>cases b<;>cases c<;>cases d<;>first|rfl|exact absurd hok (by decide)
  |true=>
   rw[hw] at hok;have hb:=hok.symm;simp only[w03] at hb;obtain⟨⟨⟨b1,b2⟩,b3⟩,b4⟩:=hb;have c1:=zgj b1;have c2:=zgj b2;have e1:W (64*(gt l i).from_)=64*(gt l i).from_:=W_id (by omega) (by omega);have e2:W (W (64*(gt l i).from_)+(gt l i).to)=keyW (gt l i):=by rw[e1];exact W_id (by omega) (by omega)
   have hk:0<=keyW (gt l i)/\keyW (gt l i)<4096:=by unfold keyW;omega
   simp only[b1,b2,b3,b4,w1i,Bool.or_false,if_true,e2,Bool.or_self,w0n,if_false];rw[z6 ⟨hk.1,by omega⟩,h3 _ hk.1 hk.2];have hat:z3v l i = !(l.take i).any λv=>keyW v==keyW (gt l i):=by simp only[z3v,hw,w1r]
   cases ha :(l.take i).any λv=>keyW v==keyW (gt l i) with
   |true=>rw[hbad (by rw[hat,ha];rfl)];rfl
   |false=>
    rw[if_neg (by simp),z6 ⟨hk.1,by omega⟩,hW];refine hs _ ⟨by rw[hsucc,h1,hat,ha];rfl,by rw[z02,h2],λj j0 j1=>?_⟩;rw[zx _ _ _ _ hk.1 (by omega) j0,zgi _ _ _ hi,h3 j j0 j1];by_cases e:j=keyW (gt l i)
    .simp[e]
    .have :(keyW (gt l i)==j)=false:=by simp;exact λh=>e h.symm
     simp[e,this]
 .intro n t ⟨h1,h2,h3⟩;rw[z5e,if_neg (by simp)];unfold z5m;rw[h1];rfl
theorem zfm(φ:Nat)(hφ:5000<φ)(x:z1w):za1 φ x=some (z0i x,()):=by
 have e :(((decide (32<(x.types.length:Int))||decide (4096<(x.wagons.length:Int)))||decide (1024<(x.swaps.length:Int)))||decide (4096<(x.washes.length:Int))) =
   (decide (32<x.types.length)||decide (4096<x.wagons.length)||decide (1024<x.swaps.length)||decide (4096<x.washes.length)):=by
  congr 1
  .congr 1
   .congr 1<;>(apply decide_eq_decide.2;omega)
   .apply decide_eq_decide.2;omega
  .apply decide_eq_decide.2;omega
 unfold za1 z0i;rw[e];cases h :(decide (32<x.types.length)||decide (4096<x.wagons.length)||decide (1024<x.swaps.length)||decide (4096<x.washes.length)) with
 |true=>rfl
 |false=>
  simp only[w0y,decide_eq_false_iff_not,w4n] at h;obtain⟨⟨⟨h1,h2⟩,h3⟩,h4⟩:=h;have hp:W ((x.types.length:Int)-1) =(x.types.length:Int)-1:=W_id (by omega) (by omega);rw[if_neg (by simp)];rw[z73 (λn i=>z5y φ n i x) (z4m φ φ 0 x) (some (1,())) x.types (λt=>!zli t) ?_ ?_ φ (by omega)]
  .rw[z73 (λn i=>z4m φ n i x) (z3q φ φ 0 x) (some (1,())) x.wagons (λt=>!zhg x.types.length t) ?_ ?_ φ (by omega)]
   .rw[z73 (λn i=>z3q φ n i x) ((zay φ x.washes).bind λy=>some (y.1,())) (some (1,())) x.swaps (λt=>!zlh x.types.length t) ?_ ?_ φ (by omega)]
    .rw[zt2 _ _ h4 hφ];simp only[w01];simp only[w4b,Bool.not_not];cases x.types.all zli<;>cases x.wagons.all (zhg x.types.length)<;>cases x.swaps.all (zlh x.types.length)<;>cases z5m x.washes<;>rfl
    .intro n i hi;have hW:W ((i:Int)+1) =(i:Int)+1:=W_id (by omega) (by omega);have hne :((gt x.swaps i).wanted==(gt x.swaps i).given) = !((gt x.swaps i).wanted !=(gt x.swaps i).given):=by simp[bne]
     rw[z3q,if_pos (by simp;omega),z6 ⟨by omega,by omega⟩];simp only[z2o,w01,zlh,zn,hW,hp,hne];cases bet (gt x.swaps i).wanted 0 ((x.types.length:Int)-1)<;>cases bet (gt x.swaps i).given 0 ((x.types.length:Int)-1)<;>cases ((gt x.swaps i).wanted !=(gt x.swaps i).given)<;>
      cases bet (gt x.swaps i).cost 0 1000000000<;>rfl
    .intro n;rw[z3q,if_neg (by simp)]
   .intro n i hi;have hW:W ((i:Int)+1) =(i:Int)+1:=W_id (by omega) (by omega);rw[z4m,if_pos (by simp;omega),z6 ⟨by omega,by omega⟩];simp only[zbl,z2o,w01,zhg,zn,hW,hp];cases bet (gt x.wagons i).type_ 0 ((x.types.length:Int)-1)<;>cases bet (gt x.wagons i).owner 0 63<;>cases bet (gt x.wagons i).home 0 511<;>
     cases bet (gt x.wagons i).built 0 1073741824<;>cases bet (gt x.wagons i).worth 0 1099511627776<;>rfl
   .intro n;rw[z4m,if_neg (by simp)]
  .intro n i hi;have hW:W ((i:Int)+1) =(i:Int)+1:=W_id (by omega) (by omega);rw[z5y,if_pos (by simp;omega),z6 ⟨by omega,by omega⟩];simp only[ze6,z2o,w01,zli,zn,hW];cases bet (gt x.types i).load 0 1000000<;>cases bet (gt x.types i).tare 0 1000000<;>cases bet (gt x.types i).length 0 1000000<;>cases bet (gt x.types i).brake 0 1000000<;>
    cases bet (gt x.types i).gauge 0 7<;>cases bet (gt x.types i).life 1 1073741824<;>cases bet (gt x.types i).floor 0 100<;>rfl
  .intro n;rw[z5y,if_neg (by simp)]
theorem yhf(b n:Nat):pw (b % PP) n=pw b n:=by unfold pw;rw[<- Nat.pow_mod]
theorem ym0(b n:Nat):pw (b*b % PP) n=pw b (2*n):=by rw[yhf];unfold pw;rw[Nat.pow_mul,Nat.pow_two]
theorem y8k(φ:Nat):∀(m:Nat)(a b c n:Nat),m<=64->b<2 ^ m->m<n->a<PP->c<PP->z3d φ n (a:Int) (b:Int) 2305843009213690799 (c:Int)=some ((((c+a*b) % PP:Nat):Int),()):=by
 intro m
 induction m with
 |zero=>
  intro a b c n hm64 hb hn ha hc;obtain⟨n,rfl⟩:∃n',n=n'+1:=⟨n-1,by omega⟩;have:b=0:=by simpa using hb
  subst this;rw[z3d,if_neg (by simp),Nat.mul_zero,w3n,w2o hc]
 |succ m ih=>
  intro a b c n hm64 hb hn ha hc;obtain⟨n,rfl⟩:∃n',n=n'+1:=⟨n-1,by omega⟩;by_cases h0:b=0
  .subst h0;rw[z3d,if_neg (by simp),Nat.mul_zero,w3n,w2o hc]
  .rw[z3d,if_pos (by simp;omega),if_pos (by decide :(2:Int)≠0)];have e1 :(b:Int).tdiv 2 =((b / 2:Nat):Int):=by rw[w36 (by omega)];omega
   have e2 :(b:Int).tmod 2 =((b % 2:Nat):Int):=by rw[w1y (by omega)];omega
   have hbl :(b / 2:Nat)<2 ^ m:=by rw[Nat.pow_succ] at hb;omega
   have h64 :(2:Nat) ^ m<=2 ^ 63:=Nat.pow_le_pow_right (by decide) (by omega);have hb2:U ((b / 2:Nat):Int) =((b / 2:Nat):Int):=U_id (by omega) (by omega);have ha0:=ha;have hc0:=hc;unfold PP at ha hc;have e3 :(U ((a:Int)+(a:Int))).tmod 2305843009213690799 =(((a+a) % PP:Nat):Int):=by rw[U_id (by omega) (by omega),w1y (by omega)];unfold PP;omega
   have e4 :(U ((c:Int)+(a:Int))).tmod 2305843009213690799 =(((c+a) % PP:Nat):Int):=by rw[U_id (by omega) (by omega),w1y (by omega)];unfold PP;omega
   unfold z95;rw[e1,e2,e3,e4,hb2];have hab:a*b =(a+a)*(b / 2)+a*(b % 2):=by
    conv=>lhs;rw[<- w4j b 2]
    rw[Nat.mul_add,<- w55];congr 1;rw[Nat.mul_two]
   have hfin:∀c':Nat,(c'+(a+a) % PP*(b / 2)) % PP =(c'+(a+a)*(b / 2)) % PP:=λc'=>by rw[Nat.add_mod,Nat.mul_mod,Nat.mod_mod,<- Nat.mul_mod,<- Nat.add_mod]
   have hlt:∀z:Nat,z % PP<PP:=λz=>w4k _ (by decide)
   rcases w3x b with hbit|hbit
   .rw[hbit,if_neg (by simp),z6 (by omega),if_pos (by decide :(2:Int)≠0),ih ((a+a) % PP) (b / 2) c n (by omega) hbl (by omega) (hlt _) hc0,hfin,hab,hbit,Nat.mul_zero,w3n]
   .rw[hbit,if_pos (by simp),z6 (by omega),z6 (by omega),if_pos (by decide :(2:Int)≠0),ih ((a+a) % PP) (b / 2) ((c+a) % PP) n (by omega) hbl (by omega) (hlt _) (hlt _),hfin,hab,hbit,Nat.mul_one,Nat.mod_add_mod,show c+a+(a+a)*(b / 2)=c+((a+a)*(b / 2)+a) by omega]
theorem zlj(φ:Nat)(hφ:70<φ)(a b:Nat)(ha:a<PP)(hb:b<PP):zdz φ (a:Int) (b:Int) 2305843009213690799=some (((a*b % PP:Nat):Int),()):=by unfold zdz;have h64:b<2 ^ 64:=Nat.lt_trans hb (by decide);have:=y8k φ 64 a b 0 φ (by omega) h64 (by omega) ha (by decide);rw[w16] at this;exact this
theorem yfn(φ:Nat)(hφ:100<φ):∀(m:Nat)(a e c n:Nat),m<=64->e<2 ^ m->m<n->a<PP->c<PP->z5j φ n (a:Int) (e:Int) (c:Int)=some (((c*pw a e % PP:Nat):Int),()):=by
 intro m
 induction m with
 |zero=>
  intro a e c n _ he hn ha hc;obtain⟨n,rfl⟩:∃n',n=n'+1:=⟨n-1,by omega⟩;have:e=0:=by simpa using he
  subst this;rw[z5j,if_neg (by simp),zxl,Nat.mul_one,w2o hc]
 |succ m ih=>
  intro a e c n hm64 he hn ha hc;obtain⟨n,rfl⟩:∃n',n=n'+1:=⟨n-1,by omega⟩;by_cases h0:e=0
  .subst h0;rw[z5j,if_neg (by simp),zxl,Nat.mul_one,w2o hc]
  .rw[z5j,if_pos (by simp;omega),if_pos (by decide :(2:Int)≠0)];have e1 :(e:Int).tdiv 2 =((e / 2:Nat):Int):=by rw[w36 (by omega)];omega
   have e2 :(e:Int).tmod 2 =((e % 2:Nat):Int):=by rw[w1y (by omega)];omega
   have hel :(e / 2:Nat)<2 ^ m:=by rw[Nat.pow_succ] at he;omega
   have h64 :(2:Nat) ^ m<=2 ^ 63:=Nat.pow_le_pow_right (by decide) (by omega);have hU:U ((e / 2:Nat):Int) =((e / 2:Nat):Int):=U_id (by omega) (by omega);have hlt:∀z:Nat,z % PP<PP:=λz=>w4k _ (by decide)
   unfold zc2;rw[e1,e2,hU,zlj φ (by omega) a a ha ha];have hab:pw a e=pw (a*a % PP) (e / 2)*pw a (e % 2) % PP:=by rw[ym0,ybw,w4j]
   rcases w3x e with hbit|hbit
   .rw[hbit,if_neg (by simp),w01,if_pos (by decide :(2:Int)≠0),ih _ _ _ n (by omega) hel (by omega) (hlt _) hc,hab,hbit,zxl,Nat.mul_one,w2o (y45 _ _)]
   .rw[hbit,if_pos (by simp),zlj φ (by omega) c a hc ha,w01,w01,if_pos (by decide :(2:Int)≠0),ih _ _ _ n (by omega) hel (by omega) (hlt _) (hlt _),hab,hbit,yhg,w2o ha];congr 2;rw[Nat.mod_mul_mod,Nat.mul_mod_mod,w55,w59 a]
theorem y1k(φ:Nat)(hφ:100<φ)(b n:Nat)(hn:n<18446744073709551616):znb φ (b:Int) (n:Int)=some (((pw b n:Nat):Int),()):=by
 unfold znb;rw[if_pos (by decide :(2305843009213690799:Int)≠0)];have hbm :((b:Int)).tmod 2305843009213690799 =((b % PP:Nat):Int):=by rw[w1y (by omega)];unfold PP;omega
 rw[hbm];have:=yfn φ hφ 64 (b % PP) n 1 φ (by omega) (by simpa using hn) (by omega) (w4k _ (by decide)) (by decide);rw[yhf,w3k,w2o (y45 _ _)] at this;exact this
theorem zu0(φ:Nat)(hφ:100<φ)(x:Int):zhm φ x=some (y80 x,()):=by
 unfold zhm y80;cases h:decide (2<=x)&&decide (x<2305843009213690799) with
 |false=>rw[gz_f (by simp)];simp
 |true=>simp only[w03,decide_eq_true_eq] at h;have:=y1k φ hφ x.toNat QQ (by decide);rw[show ((x.toNat:Nat):Int)=x by omega,show ((QQ:Nat):Int)=1152921504606845399 by decide] at this;rw[gz_t rfl,this,w01,zsb]
theorem z44(φ:Nat)(a b c:Int):z1l φ a b c=some (bet a b c,()):=rfl
theorem zu7(φ:Nat)(p:zgg):zhv φ p=some (z9z p,()):=by
 unfold zhv z9z;simp only[z44,w01];cases bet p.kind 1 5 with
 |false=>rfl
 |true=>
  rw[gz_t (by simp),w01];cases bet p.railway 0 15 with
  |false=>rfl
  |true=>
   rw[if_neg (by simp)];cases h:p.kind==3 with
   |false=>rfl
   |true=>rfl
theorem zy2(φ:Nat)(e:Edge)(n:Int)(h:W (n-1)=n-1):zl1 φ e n=some (zbq n e,()):=by unfold zl1 zbq;simp only[z44,w01,h,zn];cases bet e.a 0 (n-1)<;>cases bet e.b 0 (n-1)<;>cases (e.a !=e.b)<;>cases bet e.railway 0 15<;>cases bet e.minutes 1 100000<;>cases bet e.km 0 10000<;>rfl
theorem zai(φ:Nat)(hφ:5000<φ)(x:zi):ze2 φ x=some (z6e x,()):=by
 unfold ze2 z6e;rw[y6g];cases h:decide (512<x.places.length)||decide (2048<x.edges.length) with
 |true=>rfl
 |false=>
  simp only[w0y,decide_eq_false_iff_not,w4n] at h;rw[if_neg (by simp),z73 (λn i=>z5w φ n i x) (z4l φ φ 0 x) (some (1,())) x.places (λt=>!z9z t) ?_ ?_ φ (by omega)]
  .rw[z73 (λn i=>z4l φ n i x) (some (0,())) (some (1,())) x.edges (λt=>!zbq x.places.length t) ?_ ?_ φ (by omega)]
   .simp only[w4b,Bool.not_not];cases x.places.all z9z<;>cases x.edges.all (zbq x.places.length)<;>rfl
   .intro n i hi;rw[z4l,if_pos (by simp;omega),z6 ⟨by omega,by omega⟩,zy2 _ _ _ (W_id (by omega) (by omega)),w01,W_id (by omega) (by omega)];cases zbq x.places.length (gt x.edges i)<;>rfl
   .intro n;rw[z4l,if_neg (by simp)]
  .intro n i hi;rw[z5w,if_pos (by simp;omega),z6 ⟨by omega,by omega⟩,zu7,w01,W_id (by omega) (by omega)];cases z9z (gt x.places i)<;>rfl
  .intro n;rw[z5w,if_neg (by simp)]
def zdy(l:List Int)(i:Nat):Int:=if i=0 then-1 else gt l ((i:Int)-1)
theorem yd7(φ:Nat)(c:z5k):∀(n i:Nat),-1<=zdy c.holidays i->(i:Int)<=zdy c.holidays i+1->zdy c.holidays i<=745654->i<=c.holidays.length->745656<=(n:Int)+zdy c.holidays i->z5v φ n i c=some (bif y1j (zdy c.holidays i) (c.holidays.drop i) then 0 else 1,()):=by
 intro n
 induction n with
 |zero=>intro i _ _ _ _ _;omega
 |succ n ih=>
  intro i hp hip hp2 hi hn;by_cases h:i=c.holidays.length
  .rw[z5v,if_neg (by rw[h];simp),h,List.drop_length];rfl
  .have hW:W ((i:Int)-1) =(i:Int)-1:=W_id (by omega) (by omega);rw[z5v,if_pos (by simp;omega),z6 ⟨by omega,by omega⟩,hW,z6 (λh=>by have:=h.2;simp at this;omega),y9g _ _ (by omega)];have hc :((decide ((gt c.holidays i)<0)||decide (745654<(gt c.holidays i)))||(decide (0<(i:Int))&&decide ((gt c.holidays i)<=(gt c.holidays ((i:Int)-1))))) = !(decide (zdy c.holidays i<gt c.holidays i)&&decide (gt c.holidays i<=745654)):=by
    unfold zdy at *;rw[w2j];by_cases h0:i=0
    .subst h0;simp;omega
    .rw[if_neg h0] at *;simp;omega
   rw[hc];cases hb:decide (zdy c.holidays i<gt c.holidays i)&&decide (gt c.holidays i<=745654) with
   |false=>rw[if_pos (by simp)];simp[y1j,hb]
   |true=>
    rw[if_neg (by simp),W_id (by omega) (by omega)];have hpe:zdy c.holidays (i+1)=gt c.holidays i:=by unfold zdy;rw[if_neg (by omega)];congr 1;omega
    have hb':=hb;simp only[w03,decide_eq_true_eq] at hb';have:=ih (i+1) (by rw[hpe];omega) (by rw[hpe];omega) (by rw[hpe];omega) (by omega) (by rw[hpe];omega);rw[hpe,show ((i+1:Nat):Int) =(i:Int)+1 by omega] at this;rw[this];simp[y1j,hb]
theorem zu1(φ:Nat)(hφ:800000<φ)(c:z5k):zhp φ c=some (bif zon c then 0 else 1,()):=by
 unfold zhp;refine z0a (λn i(_:Unit)=>z5u φ n i c) 7 (λi _=>((List.range i).all λj=>zn4 (c.open_ j))=true) (λo=>o=some (bif zon c then 0 else 1,())) ?_ ?_ φ () (by simp) (by omega)
 .intro n i _ hi h hs;rw[z5u,if_pos (by simp;omega),z6 ⟨by omega,by omega⟩,w1n,zmf,W_id (by omega) (by omega)];cases ho:zn4 (c.open_ i) with
  |true=>rw[if_neg (by simp)];exact hs () (by rw[zab,h,ho];rfl)
  |false=>
   have:zon c=false:=by
    unfold zon;have :((List.range 7).all λj=>zn4 (c.open_ j))=false:=by rw[w4c];exact⟨i,by simp;omega,by simp[ho]⟩
    rw[this];rfl
   rw[if_pos (by simp),this];rfl
 .intro n _ h;rw[z5u,if_neg (by simp)];unfold zon;rw[h,w1r];have:=yd7 φ c φ 0 (by simp[zdy]) (by simp[zdy]) (by simp[zdy]) (by omega) (by simp[zdy];omega);simpa[zdy] using this
theorem zye(φ:Nat)(hφ:800000<φ)(x:Pool)(h1:x.network.places.length<=512)(h2:x.fleet.wagons.length<=4096)(h3:x.readers.length<=256)(h4:x.shippers.length<=256):
  zl2 φ x=some (!((x.readers.any (z88 x.network.places.length)||x.shippers.any (z6v x.network))||x.fleet.wagons.any (λw=>decide ((x.network.places.length:Int)<=w.home))),()):=by
 have hp:W ((x.network.places.length:Int)-1) =(x.network.places.length:Int)-1:=W_id (by omega) (by omega);unfold zl2;rw[z73 (λn i=>z76 φ n (x.network.places.length:Int) i x) (z4n φ φ (x.network.places.length:Int) 0 x) (some (false,())) x.readers (z88 x.network.places.length) ?_ ?_ φ (by omega)]
 rotate_left
 .intro n i hi;rw[z76,if_pos (by simp;omega),z6 ⟨by omega,by omega⟩,hp,W_id (by omega) (by omega),z2o,w01];show (if z88 x.network.places.length (gt x.readers i)=true then some (false,()) else _)=_;cases z88 x.network.places.length (gt x.readers i)<;>rfl
 .intro n;rw[z76,if_neg (by simp)]
 rw[z73 (λn i=>z4n φ n (x.network.places.length:Int) i x) (z4o φ φ (x.network.places.length:Int) 0 x) (some (false,())) x.shippers (z6v x.network) ?_ ?_ φ (by omega)]
 rotate_left
 .intro n i hi;rw[z4n,if_pos (by simp;omega),z6 ⟨by omega,by omega⟩,hp,W_id (by omega) (by omega),z2o,w01,z6 (λ_=>⟨by omega,by omega⟩),z6 (λh=>by simp only[Bool.not_eq_false'] at h;have:=zgj h;omega)];show (if z6v x.network (gt x.shippers i)=true then some (false,()) else _)=_;cases z6v x.network (gt x.shippers i)<;>rfl
 .intro n;rw[z4n,if_neg (by simp)]
 rw[z73 (λn i=>z4o φ n (x.network.places.length:Int) i x) (some (true,())) (some (false,())) x.fleet.wagons (λw=>decide ((x.network.places.length:Int)<=w.home)) ?_ ?_ φ (by omega)]
 rotate_left
 .intro n i hi;rw[z4o,if_pos (by simp;omega),z6 ⟨by omega,by omega⟩,W_id (by omega) (by omega)];cases decide ((x.network.places.length:Int)<=(gt x.fleet.wagons i).home)<;>rfl
 .intro n;rw[z4o,if_neg (by simp)]
 cases x.readers.any (z88 x.network.places.length)<;>cases x.shippers.any (z6v x.network)<;>cases x.fleet.wagons.any (λw=>decide ((x.network.places.length:Int)<=w.home))<;>rfl
theorem zua(φ:Nat)(hφ:800000<φ)(x:Pool)(h1:x.network.places.length<=512)(h2:x.network.edges.length<=2048):
  zi5 φ x=some (!(x.network.places.any (λp=>decide ((x.railways.length:Int)<=p.railway)||decide ((x.railways.length:Int)<=p.other))||x.network.edges.any (λe=>decide ((x.railways.length:Int)<=e.railway))),()):=by
 unfold zi5;rw[z73 (λn i=>z60 φ n (x.railways.length:Int) i x) (z4p φ φ (x.railways.length:Int) 0 x) (some (false,())) x.network.places (λp=>decide ((x.railways.length:Int)<=p.railway)||decide ((x.railways.length:Int)<=p.other)) ?_ ?_ φ (by omega)]
 rotate_left
 .intro n i hi;rw[z60,if_pos (by simp;omega),z6 ⟨by omega,by omega⟩,W_id (by omega) (by omega)];cases decide ((x.railways.length:Int)<=(gt x.network.places i).railway)||decide ((x.railways.length:Int)<=(gt x.network.places i).other)<;>rfl
 .intro n;rw[z60,if_neg (by simp)]
 rw[z73 (λn i=>z4p φ n (x.railways.length:Int) i x) (some (true,())) (some (false,())) x.network.edges (λe=>decide ((x.railways.length:Int)<=e.railway)) ?_ ?_ φ (by omega)]
 rotate_left
 .intro n i hi;rw[z4p,if_pos (by simp;omega),z6 ⟨by omega,by omega⟩,W_id (by omega) (by omega)];cases decide ((x.railways.length:Int)<=(gt x.network.edges i).railway)<;>rfl
 .intro n;rw[z4p,if_neg (by simp)]
 cases x.network.places.any (λp=>decide ((x.railways.length:Int)<=p.railway)||decide ((x.railways.length:Int)<=p.other))<;>cases x.network.edges.any (λe=>decide ((x.railways.length:Int)<=e.railway))<;>rfl
theorem znd(φ:Nat)(hφ:800000<φ)(x:Pool):z98 φ x=some (z62 x,()):=by
 unfold z98 z62;rw[zai _ (by omega),w01];by_cases hn:z6e x.network=0
 case neg=>rw[if_pos (by simp[hn]),if_pos hn]
 rw[if_neg (by simp[hn]),if_neg (λe:z6e x.network≠0=>e hn),zfm _ (by omega),w01];by_cases hf:z0i x.fleet=0
 case neg=>rw[if_pos (by simp[hf]),if_pos hf]
 rw[if_neg (by simp[hf]),if_neg (λe:z0i x.fleet≠0=>e hf)];cases hb:zgk x with
 |true=>have e :(((decide (256<(x.readers.length:Int))||decide (256<(x.shippers.length:Int)))||decide (16<(x.railways.length:Int))))=zgk x:=rfl;rw[e,hb];rfl
 |false=>
  have hb':¬(((decide (256<(x.readers.length:Int))||decide (256<(x.shippers.length:Int)))||decide (16<(x.railways.length:Int)))=true):=by rw[show (((decide (256<(x.readers.length:Int))||decide (256<(x.shippers.length:Int)))||decide (16<(x.railways.length:Int))))=zgk x from rfl,hb];simp
  rw[if_neg hb'];simp only[w0w,decide_eq_true_eq,not_or] at hb';obtain⟨n1,n2,_,_⟩:=zmh hn;obtain⟨f1,f2,_⟩:=z3m hf;rw[zye φ hφ _ n1 f2 (by omega) (by omega),w01,zua φ hφ _ n1 n2];have hL:z1m φ φ 0 x=bif x.railways.any zlp then some (1,()) else(if(((x.railways.length:Int):Int)==0)=true then(some (1,())) else(some (0,()))):=by
   refine z73 (λn i=>z1m φ n i x) (if(((x.railways.length:Int):Int)==0)=true then(some (1,())) else(some (0,()))) (some (1,())) x.railways zlp ?_ ?_ φ (by omega)
   .intro n i hi;rw[z1m,if_pos (by simp;omega),z6 ⟨by omega,by omega⟩,W_id (by omega) (by omega),zu1 _ hφ,w01,z6 (λ_=>⟨by omega,by omega⟩)];unfold zlp;cases zon (gt x.railways i).calendar with
    |false=>rw[gz_f (by simp)];rfl
    |true=>rw[gz_t (by simp),zu0 _ (by omega),w01];cases y80 (gt x.railways i).key<;>rfl
   .intro n;rw[z1m,if_neg (by simp)]
  rw[hL];unfold znv;cases x.readers.any (z88 x.network.places.length)<;>cases x.shippers.any (z6v x.network)<;>cases x.fleet.wagons.any (λw=>decide ((x.network.places.length:Int)<=w.home))<;>
   cases x.network.places.any (λp=>decide ((x.railways.length:Int)<=p.railway)||decide ((x.railways.length:Int)<=p.other))<;>cases x.network.edges.any (λe=>decide ((x.railways.length:Int)<=e.railway))<;>
   cases x.railways.any zlp<;>cases ((x.railways.length:Int)==0)<;>rfl
end Px
end
section
namespace Px
def sumN:Nat->(Nat->Int)->Int
 |0,_=>0
 |n+1,f=>sumN n f+f n
theorem zy:∀{n:Nat}{f g:Nat->Int},(∀i,i<n->f i=g i)->sumN n f=sumN n g
 |0,_,_,_=>rfl
 |n+1,f,g,h=>by rw[sumN,sumN,zy (n:=n) λi hi=>h i (by omega),h n (by omega)]
theorem zr2(f g:Nat->Int):∀n:Nat,sumN n (λi=>f i+g i)=sumN n f+sumN n g
 |0=>rfl
 |n+1=>by simp only[sumN,zr2 f g n];omega
theorem zz8(f g:Nat->Int):∀n:Nat,sumN n (λi=>f i-g i)=sumN n f-sumN n g
 |0=>rfl
 |n+1=>by simp only[sumN,zz8 f g n];omega
theorem zz6(c:Int)(f:Nat->Int):∀n:Nat,sumN n (λi=>c*f i)=c*sumN n f
 |0=>by simp[sumN]
 |n+1=>by simp only[sumN,zz6 c f n,w3z]
theorem ztd:∀{n:Nat}{f g:Nat->Int},(∀i,i<n->f i<=g i)->sumN n f<=sumN n g
 |0,_,_,_=>w24 _
 |n+1,f,g,h=>by
  have h1:=ztd (n:=n) λi hi=>h i (by omega)
  have h2:=h n (by omega);simp only[sumN];omega
theorem znp(n:Nat):sumN n (λ_=>0)=0:=by
 induction n with
 |zero=>rfl
 |succ n ih=>simp only[sumN,ih];rfl
theorem zeb{n:Nat}{f:Nat->Int}(h:∀i,i<n->0<=f i):0<=sumN n f:=by have:=ztd (f:=λ_=>0) (g:=f) h;rw[znp] at this;exact this
theorem zgd(f:Nat->Nat->Int):∀n k:Nat,sumN n (λi=>sumN k (λj=>f i j))=sumN k (λj=>sumN n (λi=>f i j))
 |0,k=>(znp k).symm
 |n+1,k=>by simp only[sumN,zgd f n k];rw[<- zr2]
theorem zz7(f:Nat->Int)(v:Nat):∀k:Nat,sumN k (λw=>if w=v then f w else 0)=if v<k then f v else 0
 |0=>rfl
 |k+1=>by
  simp only[sumN,zz7 f v k];by_cases h:v<k
  .rw[if_pos h,if_neg (by omega),if_pos (by omega)];omega
  .by_cases e:k=v
   .subst e;rw[if_neg h,if_pos rfl,if_pos (by omega)];omega
   .rw[if_neg h,if_neg e,if_neg (by omega)];rfl
theorem yk9{k:Nat}{f g:Nat->Int}{v:Nat}{d:Int}(hv:v<k)(h:∀i,i<k->f i<=g i)(hd:f v+d<=g v):sumN k f+d<=sumN k g:=by
 have h1:sumN k (λi=>f i+(if i=v then(λ_=>d) i else 0))<=sumN k g:=ztd λi hi=>by
  by_cases e:i=v
  .subst e;rw[if_pos rfl];exact hd
  .rw[if_neg e];have:=h i hi;omega
 rw[zr2,zz7,if_pos hv] at h1;exact h1
structure Nw where
 k:Nat
 m:Nat
 fr:Nat->Nat
 to:Nat->Nat
 cap:Nat->Int
 cost:Nat->Int
def Nw.outS(N:Nw)(x:Nat->Int)(v:Nat):Int:=sumN N.m λi=>if N.fr i=v then x i else 0
def Nw.inS(N:Nw)(x:Nat->Int)(v:Nat):Int:=sumN N.m λi=>if N.to i=v then x i else 0
def Nw.exc(N:Nw)(b x:Nat->Int)(v:Nat):Int:=b v-N.outS x v+N.inS x v
def Nw.costS(N:Nw)(x:Nat->Int):Int:=sumN N.m λi=>x i*N.cost i
structure Nw.Feas(N:Nw)(b x:Nat->Int):Prop where
 bnd:∀i,i<N.m->0<=x i/\x i<=N.cap i
 exc:∀v,v<N.k->N.exc b x v=0
theorem y6f(a:Int)(c:Prop)[Decidable c](b:Int):a*(if c then b else 0)=if c then a*b else 0:=by
 split
 .rfl
 .exact w4q a
def Nw.rc(N:Nw)(p:Nat->Int)(i:Nat):Int:=N.cost i+p (N.fr i)-p (N.to i)
def Nw.Tight(N:Nw)(x p:Nat->Int):Prop:=∀i,i<N.m->(x i<N.cap i->0<=N.rc p i)/\(0<x i->N.rc p i<=0)
end Px
end
