/- A part of the proof of handoverMatches_holds. Conditions: none. -/
import Derived.Test.YteljjchaealkoaaGreatHzae
import Derived.Test.YteljjchaealkoaaGreatProg
import Derived.KernelRfl
set_option linter.unusedVariables false
set_option linter.unusedSimpArgs false
section
set_option maxHeartbeats 4000000
set_option maxRecDepth 100000
namespace Px
open Go Go.RowKit Go.Proofs
def z9u(φ:Nat):H TV (RTup TT [.val 26]):=.x
def zeb(P:Program)(φ:Nat):Env TV:=⟨P,lk [],lk [],lk [],lk []⟩
theorem zu6(φ:Nat)(a):(zec φ).F a=fnX TV (zeb Tryz.prog φ) φ Tryz.f17 [] [.val 26] (z9u φ) a:=by kernel_rfl
theorem zu5(φ:Nat):fnO TV (zeb Tryz.prog φ) φ Tryz.f17 [.val 26] (z9u φ):=by
 unfold fnO;show obl _ _ _ _ _ _ _ _;unfold z9u
 repeat' (first|exact trivial |(refine⟨?_,?_⟩) |(intro _)|kernel_rfl)
theorem zu4[Dr](φ:Nat):zq TV Tryz.prog 17 (zec φ):=zu (N:=zeb Tryz.prog φ) (zd trivial trivial trivial trivial) (z9u φ) Tryz.func17 (by kernel_rfl) (zu6 φ) (zu5 φ)
def z9t(φ:Nat):H TV (RTup TT [.val 33]):=.x
def ze9(P:Program)(φ:Nat):Env TV:=⟨P,lk [],lk [],lk [],lk []⟩
theorem zu3(φ:Nat)(a):(zea φ).F a=fnX TV (ze9 Tryz.prog φ) φ Tryz.f18 [0,0,0] [.val 33] (z9t φ) a:=by kernel_rfl
theorem zu2(φ:Nat):fnO TV (ze9 Tryz.prog φ) φ Tryz.f18 [.val 33] (z9t φ):=by
 unfold fnO;show obl _ _ _ _ _ _ _ _;unfold z9t
 repeat' (first|exact trivial |(refine⟨?_,?_⟩) |(intro _)|kernel_rfl)
theorem zu1[Dr](φ:Nat):zq TV Tryz.prog 18 (zea φ):=zu (N:=ze9 Tryz.prog φ) (zd trivial trivial trivial trivial) (z9t φ) Tryz.func18 (by kernel_rfl) (zu3 φ) (zu2 φ)
def z9w(φ:Nat):H TV (RTup TT [.val 33]):=.x
def zed(P:Program)(φ:Nat):Env TV:=⟨P,lk [],lk [],lk [],lk []⟩
theorem zu9(φ:Nat)(a):(zee φ).F a=fnX TV (zed Tryz.prog φ) φ Tryz.f19 [0,0,0] [.val 33] (z9w φ) a:=by kernel_rfl
theorem zu8(φ:Nat):fnO TV (zed Tryz.prog φ) φ Tryz.f19 [.val 33] (z9w φ):=by
 unfold fnO;show obl _ _ _ _ _ _ _ _;unfold z9w
 repeat' (first|exact trivial |(refine⟨?_,?_⟩) |(intro _)|kernel_rfl)
theorem zu7[Dr](φ:Nat):zq TV Tryz.prog 19 (zee φ):=zu (N:=zed Tryz.prog φ) (zd trivial trivial trivial trivial) (z9w φ) Tryz.func19 (by kernel_rfl) (zu9 φ) (zu8 φ)
def z9z(φ:Nat):H TV (RTup TT [.val 29]):=.x
def zej(P:Program)(φ:Nat):Env TV:=⟨P,lk [],lk [],lk [],lk []⟩
theorem zup(φ:Nat)(a):(zek φ).F a=fnX TV (zej Tryz.prog φ) φ Tryz.f69 [1] [.val 29] (z9z φ) a:=by kernel_rfl
theorem zuo(φ:Nat):fnO TV (zej Tryz.prog φ) φ Tryz.f69 [.val 29] (z9z φ):=by
 unfold fnO;show obl _ _ _ _ _ _ _ _;unfold z9z
 repeat' (first|exact trivial |(refine⟨?_,?_⟩) |(intro _)|kernel_rfl)
theorem zun[Dr](φ:Nat):zq TV Tryz.prog 69 (zek φ):=zu (N:=zej Tryz.prog φ) (zd trivial trivial trivial trivial) (z9z φ) Tryz.func69 (by kernel_rfl) (zup φ) (zuo φ)
def z9y(φ:Nat):H TV (RTup TT [.val 0]):=(.seq .x (.seq .x (.seq .x (.seq (.seq .x (.body (.loop ⟨[(84,[(1,.ptr 0 0),(3,.val 0),(20,.val 2),(21,.val 0),(22,.val 0)])],[.box 25 [.val 5]]⟩ (λn=>kk5 (z4p φ n)) (λzk7=>.x)))) (.seq (.seq .x (.body (.loop ⟨[(84,[(3,.val 0),(31,.val 4),(32,.val 0),(33,.val 0)])],[]⟩ (λn=>kk4 (z23 φ n)) (λzk13=>.x)))) .x)))))
def zeh(P:Program)(φ:Nat):Env TV:=⟨P,lk [(69,zek φ)],lk [],lk [],lk []⟩
theorem zum(φ:Nat)(a):(zei φ).F a=fnX TV (zeh Tryz.prog φ) φ Tryz.f50 [5] [.val 0] (z9y φ) a:=by kernel_rfl
theorem zul(φ:Nat):fnO TV (zeh Tryz.prog φ) φ Tryz.f50 [.val 0] (z9y φ):=by
 unfold fnO;show obl _ _ _ _ _ _ _ _;unfold z9y
 repeat' (first|exact trivial |(refine⟨?_,?_⟩) |(intro _)|kernel_rfl)
theorem zuk[Dr](φ:Nat):zq TV Tryz.prog 50 (zei φ):=zu (N:=zeh Tryz.prog φ) (zd ⟨zun φ,trivial⟩ trivial trivial trivial) (z9y φ) Tryz.func50 (by kernel_rfl) (zum φ) (zul φ)
def z9i(φ:Nat):H TV (RTup TT [.val 29]):=.x
def ze5(P:Program)(φ:Nat):Env TV:=⟨P,lk [],lk [],lk [],lk []⟩
theorem ztt(φ:Nat)(a):(z9j φ).F a=fnX TV (ze5 Tryz.prog φ) φ Tryz.f52 [0,0,0] [.val 29] (z9i φ) a:=by kernel_rfl
theorem zts(φ:Nat):fnO TV (ze5 Tryz.prog φ) φ Tryz.f52 [.val 29] (z9i φ):=by
 unfold fnO;show obl _ _ _ _ _ _ _ _;unfold z9i
 repeat' (first|exact trivial |(refine⟨?_,?_⟩) |(intro _)|kernel_rfl)
theorem zkr[Dr](φ:Nat):zq TV Tryz.prog 52 (z9j φ):=zu (N:=ze5 Tryz.prog φ) (zd trivial trivial trivial trivial) (z9i φ) Tryz.func52 (by kernel_rfl) (ztt φ) (zts φ)
def zcw(φ:Nat):H TV (RTup TT [.val 0]):=(.seq .x (.seq .x (.seq .x (.seq .x (.seq (.seq .x (.body (.loop ⟨[(206,[(1,.ptr 0 0),(3,.ptr 1 0),(4,.func 70 [.ptr 1 0]),(41,.val 8),(42,.val 0),(43,.val 0)])],[.box 31 [.val 15],.box 41 [.val 0]]⟩ (λn=>kk5 (z5f φ n)) (λzk7=>(.seq .x (.seq .x (.seq (.body (.seq .x (.seq (.seq .x (.body (.loop ⟨[(206,[(1,.ptr 0 0),(3,.ptr 1 0),(4,.func 70 [.ptr 1 0]),(6,.ptr 2 0),(41,.val 8),(42,.val 0),(43,.val 0),(55,.own 3),(56,.val 0),(57,.val 0)])],[.box 31 [.val 15],.box 41 [.val 0],.box 94 [.val 7],.row 3 0]⟩ (λn z=>z2l φ (λa0 a1 a2 a3 a4=>zk7 (a0,a1,a2,a3,a4,())) n z.1 z.2.1 z.2.2.1 z.2.2.2.1 z.2.2.2.2.1 z.2.2.2.2.2.1 z.2.2.2.2.2.2.1 z.2.2.2.2.2.2.2.1 z.2.2.2.2.2.2.2.2.1) (λzk17=>.x)))) .x))) .x))))))) (.seq (.seq .x (.body (.loop ⟨[(206,[(1,.ptr 0 0),(3,.ptr 1 0),(4,.func 70 [.ptr 1 0]),(83,.val 10),(84,.val 0),(85,.val 0)])],[.box 31 [.val 15],.box 41 [.val 0]]⟩ (λn=>kk5 (z01 φ n)) (λzk27=>.x)))) (.seq (.seq .x (.body (.loop ⟨[(206,[(1,.ptr 0 0),(3,.ptr 1 0),(4,.func 70 [.ptr 1 0]),(120,.val 12),(121,.val 0),(122,.val 0)])],[.box 31 [.val 15],.box 41 [.val 0]]⟩ (λn=>kk5 (z0g φ n)) (λzk40=>.x)))) (.seq .x (.seq (.seq .x (.body (.loop ⟨[(206,[(3,.ptr 0 0),(4,.func 70 [.ptr 0 0]),(13,.ptr 1 0),(158,.val 14),(159,.val 0),(160,.val 0)])],[.box 41 [.val 0],.box 133 [.val 34]]⟩ (λn=>kk5 (zm φ n)) (λzk49=>.x)))) .x)))))))))
def zho(P:Program)(φ:Nat):Env TV:=⟨P,lk [(52,z9j φ)],lk [],lk [],lk []⟩
theorem zxq(φ:Nat)(a):(zhp φ).F a=fnX TV (zho Tryz.prog φ) φ Tryz.f51 [15] [.val 0] (zcw φ) a:=by kernel_rfl
theorem zxp(φ:Nat):fnO TV (zho Tryz.prog φ) φ Tryz.f51 [.val 0] (zcw φ):=by
 unfold fnO;show obl _ _ _ _ _ _ _ _;unfold zcw
 repeat' (first|exact trivial |(refine⟨?_,?_⟩) |(intro _)|kernel_rfl)
theorem zxo[Dr](φ:Nat):zq TV Tryz.prog 51 (zhp φ):=zu (N:=zho Tryz.prog φ) (zd ⟨zkr φ,trivial⟩ trivial trivial trivial) (zcw φ) Tryz.func51 (by kernel_rfl) (zxq φ) (zxp φ)
def z8n(φ:Nat):H TV (RTup TT [.val 0]):=(.seq .x (.seq (.seq .x (.body (.loop ⟨[(45,[(1,.ptr 0 0),(9,.val 21),(10,.val 0)])],[.box 99 [.val 23]]⟩ (λn=>kk3 (z3p φ n)) (λzk5=>.x)))) (.seq .x (.seq (.seq .x (.body (.loop ⟨[(45,[(5,.val 0),(30,.val 22),(31,.val 0),(32,.val 0)])],[]⟩ (λn=>kk4 (z2s φ n)) (λzk10=>.x)))) .x))))
def zc6(P:Program)(φ:Nat):Env TV:=⟨P,lk [],lk [],lk [],lk []⟩
theorem zs4(φ:Nat)(a):(zc7 φ).F a=fnX TV (zc6 Tryz.prog φ) φ Tryz.f53 [23] [.val 0] (z8n φ) a:=by kernel_rfl
theorem zs3(φ:Nat):fnO TV (zc6 Tryz.prog φ) φ Tryz.f53 [.val 0] (z8n φ):=by
 unfold fnO;show obl _ _ _ _ _ _ _ _;unfold z8n
 repeat' (first|exact trivial |(refine⟨?_,?_⟩) |(intro _)|kernel_rfl)
theorem zs2[Dr](φ:Nat):zq TV Tryz.prog 53 (zc7 φ):=zu (N:=zc6 Tryz.prog φ) (zd trivial trivial trivial trivial) (z8n φ) Tryz.func53 (by kernel_rfl) (zs4 φ) (zs3 φ)
def zfk(φ:Nat):H TV (RTup TT [.val 6,.val 6]):=.x
def zkf(P:Program)(φ:Nat):Env TV:=⟨P,lk [],lk [],lk [],lk []⟩
theorem y0v(φ:Nat)(a):(zkg φ).F a=fnX TV (zkf Tryz.prog φ) φ Tryz.f108 [6,6] [.val 6,.val 6] (zfk φ) a:=by kernel_rfl
theorem y0u(φ:Nat):fnO TV (zkf Tryz.prog φ) φ Tryz.f108 [.val 6,.val 6] (zfk φ):=by
 unfold fnO;show obl _ _ _ _ _ _ _ _;unfold zfk
 repeat' (first|exact trivial |(refine⟨?_,?_⟩) |(intro _)|kernel_rfl)
theorem y0t[Dr](φ:Nat):zq TV Tryz.prog 108 (zkg φ):=zu (N:=zkf Tryz.prog φ) (zd trivial trivial trivial trivial) (zfk φ) Tryz.func108 (by kernel_rfl) (y0v φ) (y0u φ)
def z4r(φ:Nat):H TV (RTup TT [.val 0]):=(.seq .x (.seq (.ins 1 94 (.seq .x (.seq (.join ⟨[(25,[(0,.val 6),(2,.val 0)]),(6,[])],[]⟩ (kk2 (z1y φ)) (.seq .x .x)) (.seq (.join ⟨[(25,[(0,.val 6),(2,.val 0)]),(6,[])],[]⟩ (kk2 (z1z φ)) (.seq .x .x)) (.seq (.join ⟨[(25,[(0,.val 6),(2,.val 0)]),(6,[])],[]⟩ (kk2 (z1a φ)) (.seq .x .x)) .x)))) .x) .x))
def z7g(P:Program)(φ:Nat):Env TV:=⟨P,lk [],lk [],lk [],lk []⟩
theorem zke(φ:Nat)(a):(z7h φ).F a=fnX TV (z7g Tryz.prog φ) φ Tryz.f120 [6] [.val 0] (z4r φ) a:=by kernel_rfl
theorem zkd(φ:Nat):fnO TV (z7g Tryz.prog φ) φ Tryz.f120 [.val 0] (z4r φ):=by
 unfold fnO;show obl _ _ _ _ _ _ _ _;unfold z4r
 repeat' (first|exact trivial |(refine⟨?_,?_⟩) |(intro _)|kernel_rfl)
theorem zkc[Dr](φ:Nat):zq TV Tryz.prog 120 (z7h φ):=zu (N:=z7g Tryz.prog φ) (zd trivial trivial trivial trivial) (z4r φ) Tryz.func120 (by kernel_rfl) (zke φ) (zkd φ)
def zfj(φ:Nat):H TV (RTup TT [.val 6,.val 6]):=(.seq .x (.seq .x (.seq .x (.seq .x (.seq .x (.seq .x (.seq .x (.seq .x (.seq .x (.seq .x (.seq .x (.seq .x (.seq .x (.seq .x (.seq (.join ⟨[(135,[(2,.val 6),(8,.val 6),(9,.val 6),(10,.val 6),(11,.val 6),(13,.val 6),(14,.val 6),(15,.val 6)])],[]⟩ (kk8 (z8g φ)) (.body (.loop ⟨[(135,[(2,.val 6),(8,.val 6),(9,.val 6),(10,.val 6),(11,.val 6),(13,.val 6),(14,.val 6),(15,.val 6),(16,.val 6)])],[]⟩ (λn=>kk9 (z8f φ n)) (λzk40=>.x)))) (.seq .x (.seq .x (.seq .x (.seq (.join ⟨[(135,[(2,.val 6),(8,.val 6),(14,.val 6),(15,.val 6),(17,.val 6),(18,.val 6)])],[]⟩ (kk6 (z8h φ)) (.body (.loop ⟨[(135,[(2,.val 6),(8,.val 6),(9,.val 6),(10,.val 6),(14,.val 6),(15,.val 6),(16,.val 6),(17,.val 6),(18,.val 6)])],[]⟩ (λn=>kk9 (z8e φ n)) (λzk30=>.x)))) .x)))))))))))))))))))
def zka(P:Program)(φ:Nat):Env TV:=⟨P,lk [(120,z7h φ)],lk [],lk [],lk []⟩
theorem y0s(φ:Nat)(a):(zkb φ).F a=fnX TV (zka Tryz.prog φ) φ Tryz.f109 [6,6,6] [.val 6,.val 6] (zfj φ) a:=by kernel_rfl
theorem y0r(φ:Nat):fnO TV (zka Tryz.prog φ) φ Tryz.f109 [.val 6,.val 6] (zfj φ):=by
 unfold fnO;show obl _ _ _ _ _ _ _ _;unfold zfj
 repeat' (first|exact trivial |(refine⟨?_,?_⟩) |(intro _)|kernel_rfl)
theorem y0q[Dr](φ:Nat):zq TV Tryz.prog 109 (zkb φ):=zu (N:=zka Tryz.prog φ) (zd ⟨zkc φ,trivial⟩ trivial trivial trivial) (zfj φ) Tryz.func109 (by kernel_rfl) (y0s φ) (y0r φ)
def zmn(φ:Nat):H TV (RTup TT [.val 6]):=(.seq .x (.seq .x (.seq .x (.seq (.seq (.ins 1 94 (.seq .x (.seq (.join ⟨[(25,[(0,.val 6),(2,.val 0)]),(33,[(0,.val 6),(1,.val 6),(5,.func 107 [.ptr 0 0]),(6,.val 6)])],[.box 92 [.val 6]]⟩ (kk6 (zf2 φ)) (.seq .x .x)) (.seq (.join ⟨[(25,[(0,.val 6),(2,.val 0)]),(33,[(0,.val 6),(1,.val 6),(5,.func 107 [.ptr 0 0]),(6,.val 6)])],[.box 92 [.val 6]]⟩ (kk6 (zc0 φ)) (.seq .x .x)) (.seq (.join ⟨[(25,[(0,.val 6),(2,.val 0)]),(33,[(0,.val 6),(1,.val 6),(5,.func 107 [.ptr 0 0]),(6,.val 6)])],[.box 92 [.val 6]]⟩ (kk6 (zc1 φ)) (.seq .x .x)) .x)))) .x) (.body (.loop ⟨[(33,[(0,.val 6),(1,.val 6),(5,.func 107 [.ptr 0 0]),(6,.val 6),(10,.val 0),(11,.val 0)])],[.box 92 [.val 6]]⟩ (λn=>kk6 (z09 φ n)) (λzk30=>(.seq .x (.seq .x (.seq (.body (.seq .x (.seq .x (.seq (.ins 2 94 (.seq .x (.seq (.join ⟨[(25,[(0,.val 6),(2,.val 0)]),(33,[(0,.val 6),(1,.val 6),(5,.func 107 [.ptr 0 0]),(6,.val 6),(7,.val 0),(10,.val 0),(11,.val 0),(18,.val 6)])],[.box 92 [.val 6]]⟩ (λz=>z54 φ (λa0 a1 a2 a3 a4 a5=>zk30 (a0,a1,a2,a3,a4,a5,())) z.1 z.2.1 z.2.2.1 z.2.2.2.1 z.2.2.2.2.1 z.2.2.2.2.2.1 z.2.2.2.2.2.2.1 z.2.2.2.2.2.2.2.1 z.2.2.2.2.2.2.2.2.1 z.2.2.2.2.2.2.2.2.2.1) (.seq .x .x)) (.seq (.join ⟨[(25,[(0,.val 6),(2,.val 0)]),(33,[(0,.val 6),(1,.val 6),(5,.func 107 [.ptr 0 0]),(6,.val 6),(7,.val 0),(10,.val 0),(11,.val 0),(18,.val 6)])],[.box 92 [.val 6]]⟩ (λz=>zc2 φ (λa0 a1 a2 a3 a4 a5=>zk30 (a0,a1,a2,a3,a4,a5,())) z.1 z.2.1 z.2.2.1 z.2.2.2.1 z.2.2.2.2.1 z.2.2.2.2.2.1 z.2.2.2.2.2.2.1 z.2.2.2.2.2.2.2.1 z.2.2.2.2.2.2.2.2.1 z.2.2.2.2.2.2.2.2.2.1) (.seq .x .x)) (.seq (.join ⟨[(25,[(0,.val 6),(2,.val 0)]),(33,[(0,.val 6),(1,.val 6),(5,.func 107 [.ptr 0 0]),(6,.val 6),(7,.val 0),(10,.val 0),(11,.val 0),(18,.val 6)])],[.box 92 [.val 6]]⟩ (λz=>zc3 φ (λa0 a1 a2 a3 a4 a5=>zk30 (a0,a1,a2,a3,a4,a5,())) z.1 z.2.1 z.2.2.1 z.2.2.2.1 z.2.2.2.2.1 z.2.2.2.2.2.1 z.2.2.2.2.2.2.1 z.2.2.2.2.2.2.2.1 z.2.2.2.2.2.2.2.2.1 z.2.2.2.2.2.2.2.2.2.1) (.seq .x .x)) .x)))) .x) .x)))) .x))))))) .x))))
def zr7(P:Program)(φ:Nat):Env TV:=⟨P,lk [(108,zkg φ),(109,zkb φ)],lk [],lk [],lk []⟩
theorem y9j(φ:Nat)(a):(zr8 φ).F a=fnX TV (zr7 Tryz.prog φ) φ Tryz.f71 [6,6] [.val 6] (zmn φ) a:=by kernel_rfl
theorem y9i(φ:Nat):fnO TV (zr7 Tryz.prog φ) φ Tryz.f71 [.val 6] (zmn φ):=by
 unfold fnO;show obl _ _ _ _ _ _ _ _;unfold zmn
 repeat' (first|exact trivial |(refine⟨?_,?_⟩) |(intro _)|kernel_rfl)
theorem y9h[Dr](φ:Nat):zq TV Tryz.prog 71 (zr8 φ):=zu (N:=zr7 Tryz.prog φ) (zd ⟨y0t φ,y0q φ,trivial⟩ trivial trivial trivial) (zmn φ) Tryz.func71 (by kernel_rfl) (y9j φ) (y9i φ)
def zfz(φ:Nat):H TV (RTup TT [.val 29]):=.x
def zlq(P:Program)(φ:Nat):Env TV:=⟨P,lk [(71,zr8 φ)],lk [],lk [],lk []⟩
theorem y3t(φ:Nat)(a):(zlr φ).F a=fnX TV (zlq Tryz.prog φ) φ Tryz.f54 [6] [.val 29] (zfz φ) a:=by kernel_rfl
theorem y3s(φ:Nat):fnO TV (zlq Tryz.prog φ) φ Tryz.f54 [.val 29] (zfz φ):=by
 unfold fnO;show obl _ _ _ _ _ _ _ _;unfold zfz
 repeat' (first|exact trivial |(refine⟨?_,?_⟩) |(intro _)|kernel_rfl)
theorem y3r[Dr](φ:Nat):zq TV Tryz.prog 54 (zlr φ):=zu (N:=zlq Tryz.prog φ) (zd ⟨y9h φ,trivial⟩ trivial trivial trivial) (zfz φ) Tryz.func54 (by kernel_rfl) (y3t φ) (y3s φ)
def z7w(φ:Nat):H TV (RTup TT [.val 0]):=(.seq .x (.seq .x (.seq .x (.seq .x (.seq .x (.seq .x (.seq (.seq .x (.body (.loop ⟨[(193,[(1,.ptr 0 0),(5,.val 2),(6,.val 0),(7,.val 29),(57,.val 17),(58,.val 0),(59,.val 0)])],[.box 36 [.val 26]]⟩ (λn=>kk7 (z21 φ n)) (λzk11=>.x)))) (.seq (.seq .x (.body (.loop ⟨[(193,[(1,.ptr 0 0),(5,.val 2),(6,.val 0),(7,.val 29),(92,.val 19),(93,.val 0),(94,.val 0)])],[.box 36 [.val 26]]⟩ (λn=>kk7 (z0u φ n)) (λzk20=>.x)))) (.seq (.seq .x (.body (.loop ⟨[(193,[(1,.ptr 0 0),(5,.val 2),(6,.val 0),(7,.val 29),(120,.val 10),(121,.val 0),(122,.val 0)])],[.box 36 [.val 26]]⟩ (λn=>kk7 (z0v φ n)) (λzk29=>.x)))) (.seq (.seq .x (.body (.loop ⟨[(193,[(1,.ptr 0 0),(6,.val 0),(7,.val 29),(135,.val 2),(136,.val 0),(137,.val 0)])],[.box 36 [.val 26]]⟩ (λn=>kk6 (z0w φ n)) (λzk36=>.x)))) (.seq (.seq .x (.body (.loop ⟨[(193,[(1,.ptr 0 0),(6,.val 0),(7,.val 29),(157,.val 4),(158,.val 0),(159,.val 0)])],[.box 36 [.val 26]]⟩ (λn=>kk6 (z0x φ n)) (λzk43=>.x)))) (.seq (.seq .x (.body (.loop ⟨[(193,[(7,.val 29),(172,.val 25),(173,.val 0),(174,.val 0)])],[]⟩ (λn=>kk4 (z0y φ n)) (λzk48=>.x)))) .x))))))))))))
def zav(P:Program)(φ:Nat):Env TV:=⟨P,lk [(50,zei φ),(51,zhp φ),(52,z9j φ),(53,zc7 φ),(54,zlr φ)],lk [],lk [],lk []⟩
theorem zq1(φ:Nat)(a):(z3q φ).F a=fnX TV (zav Tryz.prog φ) φ Tryz.f34 [26] [.val 0] (z7w φ) a:=by kernel_rfl
theorem zq0(φ:Nat):fnO TV (zav Tryz.prog φ) φ Tryz.f34 [.val 0] (z7w φ):=by
 unfold fnO;show obl _ _ _ _ _ _ _ _;unfold z7w
 repeat' (first|exact trivial |(refine⟨?_,?_⟩) |(intro _)|kernel_rfl)
theorem z7x[Dr](φ:Nat):zq TV Tryz.prog 34 (z3q φ):=zu (N:=zav Tryz.prog φ) (zd ⟨zuk φ,zxo φ,zkr φ,zs2 φ,y3r φ,trivial⟩ trivial trivial trivial) (z7w φ) Tryz.func34 (by kernel_rfl) (zq1 φ) (zq0 φ)
def z9g(φ:Nat):H TV (RTup TT [.val 29]):=.x
def ze1(P:Program)(φ:Nat):Env TV:=⟨P,lk [],lk [],lk [],lk []⟩
theorem ztn(φ:Nat)(a):(ze2 φ).F a=fnX TV (ze1 Tryz.prog φ) φ Tryz.f72 [32] [.val 29] (z9g φ) a:=by kernel_rfl
theorem ztm(φ:Nat):fnO TV (ze1 Tryz.prog φ) φ Tryz.f72 [.val 29] (z9g φ):=by
 unfold fnO;show obl _ _ _ _ _ _ _ _;unfold z9g
 repeat' (first|exact trivial |(refine⟨?_,?_⟩) |(intro _)|kernel_rfl)
theorem ztl[Dr](φ:Nat):zq TV Tryz.prog 72 (ze2 φ):=zu (N:=ze1 Tryz.prog φ) (zd trivial trivial trivial trivial) (z9g φ) Tryz.func72 (by kernel_rfl) (ztn φ) (ztm φ)
def zhk(φ:Nat):H TV (RTup TT [.val 29]):=(.seq .x (.seq (.seq .x (.body (.loop ⟨[(43,[(0,.val 31),(1,.val 29),(7,.val 31),(8,.val 0),(9,.val 0)])],[]⟩ (λn=>kk5 (z9c φ n)) (λzk8=>.x)))) .x))
def znh(P:Program)(φ:Nat):Env TV:=⟨P,lk [],lk [],lk [],lk []⟩
theorem y4q(φ:Nat)(a):(zni φ).F a=fnX TV (znh Tryz.prog φ) φ Tryz.f117 [31,29] [.val 29] (zhk φ) a:=by kernel_rfl
theorem y4p(φ:Nat):fnO TV (znh Tryz.prog φ) φ Tryz.f117 [.val 29] (zhk φ):=by
 unfold fnO;show obl _ _ _ _ _ _ _ _;unfold zhk
 repeat' (first|exact trivial |(refine⟨?_,?_⟩) |(intro _)|kernel_rfl)
theorem y4o[Dr](φ:Nat):zq TV Tryz.prog 117 (zni φ):=zu (N:=znh Tryz.prog φ) (zd trivial trivial trivial trivial) (zhk φ) Tryz.func117 (by kernel_rfl) (y4q φ) (y4p φ)
def zfm(φ:Nat):H TV (RTup TT [.val 29]):=(.seq .x (.seq .x (.seq (.join ⟨[(46,[(5,.ptr 0 0)])],[.box 154 [.val 35]]⟩ (λz=>z7 φ z.1) (.seq .x (.cond (.ins 0 95 (.seq .x (.seq .x (.seq .x (.seq .x (.body (.seq .x (.cond .x (.seq .x (.cond (.seq (.ins 1 113 (.seq .x (.seq (.join ⟨[(66,[(0,.ptr 0 0),(1,.val 0),(4,.ptr 1 0)]),(135,[(0,.ptr 0 0)]),(46,[(5,.ptr 0 0)])],[.box 154 [.val 35],.box 91 [.val 1]]⟩ (kk3 (z6o φ)) (.seq .x .x)) .x)) .x) .x) (.seq (.join ⟨[(135,[(0,.ptr 0 0),(2,.ptr 0 9),(20,.val 0),(43,.val 29)]),(46,[(5,.ptr 0 0)])],[.box 154 [.val 35]]⟩ (kk3 (z58 φ)) (.seq .x .x)) (.cond (.seq (.ins 1 113 (.seq .x (.seq (.join ⟨[(66,[(0,.ptr 0 0),(1,.val 0),(4,.ptr 1 0)]),(135,[(0,.ptr 0 0),(2,.ptr 0 9)]),(46,[(5,.ptr 0 0)])],[.box 154 [.val 35],.box 91 [.val 1]]⟩ (kk3 (z59 φ)) (.seq .x .x)) .x)) .x) .x) (.seq .x (.cond (.seq .x (.seq .x (.seq (.ins 1 113 (.seq .x (.seq (.join ⟨[(66,[(0,.ptr 0 0),(1,.val 0),(4,.ptr 1 0)]),(135,[(0,.ptr 0 0),(2,.ptr 0 9)]),(46,[(5,.ptr 0 0)])],[.box 154 [.val 35],.box 91 [.val 1]]⟩ (kk3 (z5a φ)) (.seq .x .x)) .x)) .x) .x))) (.seq (.join ⟨[(135,[(0,.ptr 0 0),(2,.ptr 0 9),(116,.val 29)]),(46,[(5,.ptr 0 0)])],[.box 154 [.val 35]]⟩ (kk2 (z5b φ)) (.seq .x .x)) (.cond (.seq (.ins 1 113 (.seq .x (.seq (.join ⟨[(66,[(0,.ptr 0 0),(1,.val 0),(4,.ptr 1 0)]),(135,[(0,.ptr 0 0),(2,.ptr 0 9)]),(46,[(5,.ptr 0 0)])],[.box 154 [.val 35],.box 91 [.val 1]]⟩ (kk3 (z5c φ)) (.seq .x .x)) .x)) .x) .x) .x))))))))))))))) .x) (.ins 0 96 (.seq .x (.seq .x (.body (.seq .x (.cond .x (.seq .x (.cond (.seq .x (.seq (.ins 1 113 (.seq .x (.seq (.join ⟨[(66,[(0,.ptr 0 0),(1,.val 0),(4,.ptr 1 0)]),(168,[(0,.ptr 0 0),(2,.ptr 0 9)]),(46,[(5,.ptr 0 0)])],[.box 154 [.val 35],.box 91 [.val 1]]⟩ (kk3 (z5d φ)) (.seq .x .x)) .x)) .x) .x)) (.seq .x (.cond .x (.seq (.join ⟨[(168,[(0,.ptr 0 0),(2,.ptr 0 9),(9,.val 0),(91,.val 29)]),(46,[(5,.ptr 0 0)])],[.box 154 [.val 35]]⟩ (kk3 (z17 φ)) (.seq .x .x)) (.cond .x (.seq .x (.cond .x (.seq .x (.cond (.seq .x (.seq (.ins 1 113 (.seq .x (.seq (.join ⟨[(66,[(0,.ptr 0 0),(1,.val 0),(4,.ptr 1 0)]),(168,[(0,.ptr 0 0),(2,.ptr 0 9)]),(46,[(5,.ptr 0 0)])],[.box 154 [.val 35],.box 91 [.val 1]]⟩ (kk3 (z5e φ)) (.seq .x .x)) .x)) .x) .x)) .x))))))))))))))) .x)))) (.seq (.seq .x (.body (.unr 12 .x))) .x))))
def zkn(P:Program)(φ:Nat):Env TV:=⟨P,lk [(117,zni φ)],lk [],lk [],lk []⟩
theorem y1n(φ:Nat)(a):(zko φ).F a=fnX TV (zkn Tryz.prog φ) φ Tryz.f73 [26,32] [.val 29] (zfm φ) a:=by kernel_rfl
theorem y1m(φ:Nat):fnO TV (zkn Tryz.prog φ) φ Tryz.f73 [.val 29] (zfm φ):=by
 unfold fnO;show obl _ _ _ _ _ _ _ _;unfold zfm
 repeat' (first|exact trivial |(refine⟨?_,?_⟩) |(intro _)|kernel_rfl)
theorem y1l[Dr](φ:Nat):zq TV Tryz.prog 73 (zko φ):=zu (N:=zkn Tryz.prog φ) (zd ⟨y4o φ,trivial⟩ trivial trivial trivial) (zfm φ) Tryz.func73 (by kernel_rfl) (y1n φ) (y1m φ)
def zhj(φ:Nat):H TV (RTup TT [.val 0]):=.x
def znf(P:Program)(φ:Nat):Env TV:=⟨P,lk [(34,z3q φ),(72,ze2 φ),(73,zko φ)],lk [],lk [],lk []⟩
theorem y4n(φ:Nat)(a):(zng φ).F a=fnX TV (znf Tryz.prog φ) φ Tryz.f56 [26,32] [.val 0] (zhj φ) a:=by kernel_rfl
theorem y4m(φ:Nat):fnO TV (znf Tryz.prog φ) φ Tryz.f56 [.val 0] (zhj φ):=by
 unfold fnO;show obl _ _ _ _ _ _ _ _;unfold zhj
 repeat' (first|exact trivial |(refine⟨?_,?_⟩) |(intro _)|kernel_rfl)
theorem y4l[Dr](φ:Nat):zq TV Tryz.prog 56 (zng φ):=zu (N:=znf Tryz.prog φ) (zd ⟨z7x φ,ztl φ,y1l φ,trivial⟩ trivial trivial trivial) (zhj φ) Tryz.func56 (by kernel_rfl) (y4n φ) (y4m φ)
def z9m(φ:Nat):H TV (RTup TT [.row 3 0]):=(.seq .x (.seq .x (.seq (.seq .x (.body (.loop ⟨[(35,[(2,.val 0),(3,.ptr 0 0),(7,.own 1),(10,.val 36),(11,.val 0),(12,.val 0)])],[.box 36 [.val 26],.row 3 0]⟩ (λn=>kk6 (z7y φ n)) (λzk10=>.x)))) .x)))
def ze6(P:Program)(φ:Nat):Env TV:=⟨P,lk [(56,zng φ)],lk [],lk [],lk []⟩
theorem ztx(φ:Nat)(a):(z9n φ).F a=fnX TV (ze6 Tryz.prog φ) φ Tryz.f36 [26,36,0] [.row 3 0] (z9m φ) a:=by kernel_rfl
theorem ztw(φ:Nat):fnO TV (ze6 Tryz.prog φ) φ Tryz.f36 [.row 3 0] (z9m φ):=by
 unfold fnO;show obl _ _ _ _ _ _ _ _;unfold z9m
 repeat' (first|exact trivial |(refine⟨?_,?_⟩) |(intro _)|kernel_rfl)
theorem zkw[Dr](φ:Nat):zq TV Tryz.prog 36 (z9n φ):=zu (N:=ze6 Tryz.prog φ) (zd ⟨y4l φ,trivial⟩ trivial trivial trivial) (z9m φ) Tryz.func36 (by kernel_rfl) (ztx φ) (ztw φ)
def zhh(φ:Nat):H TV (RTup TT [.val 29]):=.x
def znd(P:Program)(φ:Nat):Env TV:=⟨P,lk [],lk [],lk [],lk []⟩
theorem y4g(φ:Nat)(a):(zne φ).F a=fnX TV (znd Tryz.prog φ) φ Tryz.f46 [0] [.val 29] (zhh φ) a:=by kernel_rfl
theorem y4f(φ:Nat):fnO TV (znd Tryz.prog φ) φ Tryz.f46 [.val 29] (zhh φ):=by
 unfold fnO;show obl _ _ _ _ _ _ _ _;unfold zhh
 repeat' (first|exact trivial |(refine⟨?_,?_⟩) |(intro _)|kernel_rfl)
theorem y4e[Dr](φ:Nat):zq TV Tryz.prog 46 (zne φ):=zu (N:=znd Tryz.prog φ) (zd trivial trivial trivial trivial) (zhh φ) Tryz.func46 (by kernel_rfl) (y4g φ) (y4f φ)
def zcu(φ:Nat):H TV (RTup TT [.val 0]):=.x
def zhg(P:Program)(φ:Nat):Env TV:=⟨P,lk [(46,zne φ)],lk [],lk [],lk []⟩
theorem zxd(φ:Nat)(a):(z7t φ).F a=fnX TV (zhg Tryz.prog φ) φ Tryz.f30 [0,0] [.val 0] (zcu φ) a:=by kernel_rfl
theorem zxc(φ:Nat):fnO TV (zhg Tryz.prog φ) φ Tryz.f30 [.val 0] (zcu φ):=by
 unfold fnO;show obl _ _ _ _ _ _ _ _;unfold zcu
 repeat' (first|exact trivial |(refine⟨?_,?_⟩) |(intro _)|kernel_rfl)
theorem zcv[Dr](φ:Nat):zq TV Tryz.prog 30 (z7t φ):=zu (N:=zhg Tryz.prog φ) (zd ⟨y4e φ,trivial⟩ trivial trivial trivial) (zcu φ) Tryz.func30 (by kernel_rfl) (zxd φ) (zxc φ)
def zsr(φ:Nat):H TV (RTup TT [.val 0]):=(.seq .x (.seq .x (.seq (.seq .x (.body (.loop ⟨[(18,[(3,.val 0),(6,.val 22),(7,.val 0),(8,.val 0)])],[]⟩ (λn=>kk4 (zbr φ n)) (λzk6=>.x)))) .x)))
def zxe(P:Program)(φ:Nat):Env TV:=⟨P,lk [],lk [],lk [],lk []⟩
theorem yeo(φ:Nat)(a):(zlw φ).F a=fnX TV (zxe Tryz.prog φ) φ Tryz.f29 [22] [.val 0] (zsr φ) a:=by kernel_rfl
theorem yen(φ:Nat):fnO TV (zxe Tryz.prog φ) φ Tryz.f29 [.val 0] (zsr φ):=by
 unfold fnO;show obl _ _ _ _ _ _ _ _;unfold zsr
 repeat' (first|exact trivial |(refine⟨?_,?_⟩) |(intro _)|kernel_rfl)
theorem zss[Dr](φ:Nat):zq TV Tryz.prog 29 (zlw φ):=zu (N:=zxe Tryz.prog φ) (zd trivial trivial trivial trivial) (zsr φ) Tryz.func29 (by kernel_rfl) (yeo φ) (yen φ)
def z8r(φ:Nat):H TV (RTup TT [.val 0]):=.x
def zcb(P:Program)(φ:Nat):Env TV:=⟨P,lk [(30,z7t φ),(29,zlw φ)],lk [],lk [],lk []⟩
theorem zsb(φ:Nat)(a):(z4n φ).F a=fnX TV (zcb Tryz.prog φ) φ Tryz.f31 [27,27] [.val 0] (z8r φ) a:=by kernel_rfl
theorem zsa(φ:Nat):fnO TV (zcb Tryz.prog φ) φ Tryz.f31 [.val 0] (z8r φ):=by
 unfold fnO;show obl _ _ _ _ _ _ _ _;unfold z8r
 repeat' (first|exact trivial |(refine⟨?_,?_⟩) |(intro _)|kernel_rfl)
theorem z8s[Dr](φ:Nat):zq TV Tryz.prog 31 (z4n φ):=zu (N:=zcb Tryz.prog φ) (zd ⟨zcv φ,zss φ,trivial⟩ trivial trivial trivial) (z8r φ) Tryz.func31 (by kernel_rfl) (zsb φ) (zsa φ)
def z7b(φ:Nat):H TV (RTup TT [.val 0]):=.x
def z9o(P:Program)(φ:Nat):Env TV:=⟨P,lk [(30,z7t φ),(31,z4n φ),(29,zlw φ)],lk [],lk [],lk []⟩
theorem zow(φ:Nat)(a b):(z9p φ).F a b=fnXc TV (z9o Tryz.prog φ) φ Tryz.f42 [0,0] [.b (.val 36)] [.val 0] (z7b φ) a b:=by kernel_rfl
theorem zov(φ:Nat):fnO TV (z9o Tryz.prog φ) φ Tryz.f42 [.val 0] (z7b φ):=by
 unfold fnO;show obl _ _ _ _ _ _ _ _;unfold z7b
 repeat' (first|exact trivial |(refine⟨?_,?_⟩) |(intro _)|kernel_rfl)
theorem zou[Dr](φ:Nat):y9q TV Tryz.prog 42 (z9p φ):=yls (N:=z9o Tryz.prog φ) (zd ⟨zcv φ,z8s φ,zss φ,trivial⟩ trivial trivial trivial) (z7b φ) Tryz.func42 (by kernel_rfl) (zow φ) (zov φ)
def z0k(φ:Nat):H TV (List (TT 0)):=(.seq .x (.body (.loop ⟨[(53,[(0,.own 0),(1,.val 0),(2,.val 0),(3,.cmp 0),(8,.val 0)]),(1,[(0,.own 0)])],[.row 3 0]⟩ (λn=>kk5 (z28 φ n)) (λzk10=>(.seq .x (.seq (.body (.seq .x (.body (.loop ⟨[(53,[(0,.own 0),(1,.val 0),(2,.val 0),(3,.cmp 0),(8,.val 0),(9,.val 0)]),(1,[(0,.own 0)])],[.row 3 0]⟩ (λn z=>z29 φ (λa0 a1 a2 a3 a4=>zk10 (a0,a1,a2,a3,a4,())) n z.1 z.2.1 z.2.2.1 z.2.2.2.1 z.2.2.2.2.1 z.2.2.2.2.2.1) (λzk17=>.x))))) .x))))))
def z31(P:Program)(φ:Nat):Env TV:=⟨P,lk [],lk [],lk [],lk []⟩
theorem zck(φ:Nat)(l a):(z32 φ).F l a=fnM TV (z31 Tryz.prog φ) φ Tryz.f90 3 0 [.val 0,.val 0,.cmp 0] (z0k φ) l a:=by kernel_rfl
theorem zcj(φ:Nat):fnMO TV (z31 Tryz.prog φ) φ Tryz.f90 3 0 (z0k φ):=by
 unfold fnMO;show obl _ _ _ _ _ _ _ _;unfold z0k
 repeat' (first|exact trivial |(refine⟨?_,?_⟩) |(intro _)|kernel_rfl)
theorem zci[Dr](φ:Nat):zg0 TV Tryz.prog 90 (z32 φ):=zaq (N:=z31 Tryz.prog φ) (zd trivial trivial trivial trivial) (z0k φ) Tryz.func90 (by kernel_rfl) (zck φ) (zcj φ)
def z2j(φ:Nat):H TV (List (TT 0)):=(.seq .x (.body (.loop ⟨[(38,[(0,.own 0),(1,.val 0),(2,.val 0),(3,.val 0),(10,.val 0)]),(1,[(0,.own 0)])],[.row 3 0]⟩ (λn=>kk5 (z46 φ n)) (λzk11=>.x))))
def z5y(P:Program)(φ:Nat):Env TV:=⟨P,lk [],lk [],lk [],lk []⟩
theorem zgy(φ:Nat)(l a):(z5z φ).F l a=fnM TV (z5y Tryz.prog φ) φ Tryz.f119 3 0 [.val 0,.val 0,.val 0,.cmp 0] (z2j φ) l a:=by kernel_rfl
theorem zgx(φ:Nat):fnMO TV (z5y Tryz.prog φ) φ Tryz.f119 3 0 (z2j φ):=by
 unfold fnMO;show obl _ _ _ _ _ _ _ _;unfold z2j
 repeat' (first|exact trivial |(refine⟨?_,?_⟩) |(intro _)|kernel_rfl)
theorem zgw[Dr](φ:Nat):zg0 TV Tryz.prog 119 (z5z φ):=zaq (N:=z5y Tryz.prog φ) (zd trivial trivial trivial trivial) (z2j φ) Tryz.func119 (by kernel_rfl) (zgy φ) (zgx φ)
def z4a(φ:Nat):H TV (List (TT 0)):=(.seq .x (.seq .x (.seq (.body (.loop ⟨[(58,[(0,.own 0),(2,.val 0),(4,.cmp 0),(10,.val 0),(11,.val 0)]),(1,[(0,.own 0)])],[.row 3 0]⟩ (λn=>kk5 (z2x φ n)) (λzk11=>.x))) .x)))
def z71(P:Program)(φ:Nat):Env TV:=⟨P,lk [],lk [(119,z5z φ)],lk [],lk []⟩
theorem zjw(φ:Nat)(l a):(z72 φ).F l a=fnM TV (z71 Tryz.prog φ) φ Tryz.f105 3 0 [.val 0,.val 0,.val 0,.cmp 0] (z4a φ) l a:=by kernel_rfl
theorem zjv(φ:Nat):fnMO TV (z71 Tryz.prog φ) φ Tryz.f105 3 0 (z4a φ):=by
 unfold fnMO;show obl _ _ _ _ _ _ _ _;unfold z4a
 repeat' (first|exact trivial |(refine⟨?_,?_⟩) |(intro _)|kernel_rfl)
theorem zju[Dr](φ:Nat):zg0 TV Tryz.prog 105 (z72 φ):=zaq (N:=z71 Tryz.prog φ) (zd trivial ⟨(zgw φ),trivial⟩ trivial trivial) (z4a φ) Tryz.func105 (by kernel_rfl) (zjw φ) (zjv φ)
def z2y(φ d:Nat):H TV (List (TT 0)):=(.seq (.seq .x (.cond (.seq .x (.seq .x (.seq (.body (.loop ⟨[(220,[(0,.own 0),(1,.val 0),(4,.cmp 0),(10,.val 0),(11,.val 0)]),(1,[(0,.own 0)])],[.row 3 0]⟩ (λn=>kk5 (z1v φ n)) (λzk11=>.x))) (.seq (.seq .x (.body (.loop ⟨[(220,[(0,.own 0),(10,.val 0),(13,.val 0)]),(1,[(0,.own 0)])],[.row 3 0]⟩ (λn=>kk3 (z4g φ n)) (λzk16=>.x)))) .x)))) .x)) (.seq (.seq .x (.cond (.seq .x (.seq .x (.seq (.body (.loop ⟨[(220,[(0,.own 0),(2,.val 0),(4,.cmp 0),(14,.val 0),(15,.val 0)]),(1,[(0,.own 0)])],[.row 3 0]⟩ (λn=>kk5 (z1w φ n)) (λzk22=>.x))) (.seq (.seq .x (.body (.loop ⟨[(220,[(0,.own 0),(14,.val 0),(17,.val 0)]),(1,[(0,.own 0)])],[.row 3 0]⟩ (λn=>kk3 (z4h φ n)) (λzk27=>.x)))) .x)))) .x)) (.seq .x (.seq .x (.seq .x (.seq (.join ⟨[(220,[(0,.own 0),(1,.val 0),(2,.val 0),(3,.val 0),(4,.cmp 0),(18,.val 0),(19,.val 0),(20,.val 0),(21,.val 0)]),(1,[(0,.own 0)])],[.row 3 0]⟩ (λz=>z4i φ (zp φ d) z.1 z.2.1 z.2.2.1 z.2.2.2.1 z.2.2.2.2.1 z.2.2.2.2.2.1 z.2.2.2.2.2.2.1 z.2.2.2.2.2.2.2.1 z.2.2.2.2.2.2.2.2.1) (.seq .x .x)) (.seq .x (.seq (.body (.loop ⟨[(220,[(0,.own 0),(1,.val 0),(2,.val 0),(3,.val 0),(4,.cmp 0),(18,.val 0),(19,.val 0),(20,.val 0),(21,.val 0),(22,.val 0)]),(1,[(0,.own 0)])],[.row 3 0]⟩ (λn z=>z1x φ (zp φ d) n z.1 z.2.1 z.2.2.1 z.2.2.2.1 z.2.2.2.2.1 z.2.2.2.2.2.1 z.2.2.2.2.2.2.1 z.2.2.2.2.2.2.2.1 z.2.2.2.2.2.2.2.2.1 z.2.2.2.2.2.2.2.2.2.1) (λzk48=>.x))) (.seq .x (.seq (.join ⟨[(220,[(0,.own 0),(1,.val 0),(3,.val 0),(4,.cmp 0),(18,.val 0),(20,.val 0),(24,.val 0)]),(1,[(0,.own 0)])],[.row 3 0]⟩ (λz=>z4j φ (zp φ d) z.1 z.2.1 z.2.2.1 z.2.2.2.1 z.2.2.2.2.1 z.2.2.2.2.2.1 z.2.2.2.2.2.2.1) (.seq .x .x)) (.seq (.join ⟨[(220,[(0,.own 0),(3,.val 0),(4,.cmp 0),(18,.val 0),(24,.val 0)]),(1,[(0,.own 0)])],[.row 3 0]⟩ (λz=>z4k φ (zp φ d) z.1 z.2.1 z.2.2.1 z.2.2.2.1 z.2.2.2.2.1) (.seq .x .x)) .x)))))))))))
def z6j(P:Program)(φ d:Nat):Env TV:=⟨P,lk [],lk [(105,z72 φ),(91,z2z φ d)],lk [],lk []⟩
theorem zh6(φ d:Nat)(l a):(z2z φ (d+1)).F l a=fnM TV (z6j Tryz.prog φ d) φ Tryz.f91 3 0 [.val 0,.val 0,.val 0,.cmp 0] (z2y φ d) l a:=by kernel_rfl
theorem zh5(φ d:Nat):fnMO TV (z6j Tryz.prog φ d) φ Tryz.f91 3 0 (z2y φ d):=by
 unfold fnMO;show obl _ _ _ _ _ _ _ _;unfold z2y
 repeat' (first|exact trivial |(refine⟨?_,?_⟩) |(intro _)|kernel_rfl)
theorem z9d[Dr](φ:Nat):∀d,zg0 TV Tryz.prog 91 (z2z φ d)
 |0=>λl a l2 sv h=>absurd (show (none:Option (List (TT 0)))=some l2 from h) (λq=>by cases q)
 |d+1=>zaq (N:=z6j Tryz.prog φ d) (zd trivial ⟨(zju φ),(z9d φ d),trivial⟩ trivial trivial) (z2y φ d) Tryz.func91 (by kernel_rfl) (zh6 φ d) (zh5 φ d)
def z4b(φ:Nat):H TV (List (TT 0)):=(.seq .x (.seq .x (.seq (.body (.loop ⟨[(63,[(0,.own 0),(1,.val 0),(2,.cmp 0),(6,.val 0),(7,.val 0),(8,.val 0)]),(1,[(0,.own 0)])],[.row 3 0]⟩ (λn=>kk6 (z6g φ n)) (λzk10=>.x))) (.seq .x (.body (.loop ⟨[(63,[(0,.own 0),(1,.val 0),(2,.cmp 0),(6,.val 0)]),(1,[(0,.own 0)])],[.row 3 0]⟩ (λn=>kk4 (z6h φ n)) (λzk17=>(.seq .x (.body (.seq .x (.seq (.body (.loop ⟨[(63,[(0,.own 0),(1,.val 0),(2,.cmp 0),(6,.val 0),(7,.val 0),(8,.val 0)]),(1,[(0,.own 0)])],[.row 3 0]⟩ (λn z=>z6i φ (λa0 a1 a2 a3=>zk17 (a0,a1,a2,a3,())) n z.1 z.2.1 z.2.2.1 z.2.2.2.1 z.2.2.2.2.1 z.2.2.2.2.2.1) (λzk24=>.x))) .x)))))))))))
def z73(P:Program)(φ:Nat):Env TV:=⟨P,lk [],lk [(90,z32 φ),(91,z2z φ φ)],lk [],lk []⟩
theorem zjz(φ:Nat)(l a):(z74 φ).F l a=fnM TV (z73 Tryz.prog φ) φ Tryz.f65 3 0 [.val 0,.cmp 0] (z4b φ) l a:=by kernel_rfl
theorem zjy(φ:Nat):fnMO TV (z73 Tryz.prog φ) φ Tryz.f65 3 0 (z4b φ):=by
 unfold fnMO;show obl _ _ _ _ _ _ _ _;unfold z4b
 repeat' (first|exact trivial |(refine⟨?_,?_⟩) |(intro _)|kernel_rfl)
theorem zjx[Dr](φ:Nat):zg0 TV Tryz.prog 65 (z74 φ):=zaq (N:=z73 Tryz.prog φ) (zd trivial ⟨(zci φ),(z9d φ φ),trivial⟩ trivial trivial) (z4b φ) Tryz.func65 (by kernel_rfl) (zjz φ) (zjy φ)
def z3k(φ:Nat):H TV (List (TT 0)):=.x
def z6q(P:Program)(φ:Nat):Env TV:=⟨P,lk [],lk [(65,z74 φ)],lk [],lk []⟩
theorem zjh(φ:Nat)(l a):(z6r φ).F l a=fnM TV (z6q Tryz.prog φ) φ Tryz.f41 3 0 [.cmp 0] (z3k φ) l a:=by kernel_rfl
theorem zjg(φ:Nat):fnMO TV (z6q Tryz.prog φ) φ Tryz.f41 3 0 (z3k φ):=by
 unfold fnMO;show obl _ _ _ _ _ _ _ _;unfold z3k
 repeat' (first|exact trivial |(refine⟨?_,?_⟩) |(intro _)|kernel_rfl)
theorem zjf[Dr](φ:Nat):zg0 TV Tryz.prog 41 (z6r φ):=zaq (N:=z6q Tryz.prog φ) (zd trivial ⟨(zjx φ),trivial⟩ trivial trivial) (z3k φ) Tryz.func41 (by kernel_rfl) (zjh φ) (zjg φ)
def z7z(φ:Nat):H TV (RTup TT [.val 29]):=.x
def zax(P:Program)(φ:Nat):Env TV:=⟨P,lk [],lk [],lk [],lk []⟩
theorem zq7(φ:Nat)(a):(zay φ).F a=fnX TV (zax Tryz.prog φ) φ Tryz.f43 [26,33] [.val 29] (z7z φ) a:=by kernel_rfl
theorem zq6(φ:Nat):fnO TV (zax Tryz.prog φ) φ Tryz.f43 [.val 29] (z7z φ):=by
 unfold fnO;show obl _ _ _ _ _ _ _ _;unfold z7z
 repeat' (first|exact trivial |(refine⟨?_,?_⟩) |(intro _)|kernel_rfl)
theorem zq5[Dr](φ:Nat):zq TV Tryz.prog 43 (zay φ):=zu (N:=zax Tryz.prog φ) (zd trivial trivial trivial trivial) (z7z φ) Tryz.func43 (by kernel_rfl) (zq7 φ) (zq6 φ)
def zbg(φ:Nat):H TV (RTup TT [.val 0]):=.x
def zg2(P:Program)(φ:Nat):Env TV:=⟨P,lk [],lk [],lk [],lk []⟩
theorem zvl(φ:Nat)(a):(zg3 φ).F a=fnX TV (zg2 Tryz.prog φ) φ Tryz.f44 [33,33] [.val 0] (zbg φ) a:=by kernel_rfl
theorem zvk(φ:Nat):fnO TV (zg2 Tryz.prog φ) φ Tryz.f44 [.val 0] (zbg φ):=by
 unfold fnO;show obl _ _ _ _ _ _ _ _;unfold zbg
 repeat' (first|exact trivial |(refine⟨?_,?_⟩) |(intro _)|kernel_rfl)
theorem zvj[Dr](φ:Nat):zq TV Tryz.prog 44 (zg3 φ):=zu (N:=zg2 Tryz.prog φ) (zd trivial trivial trivial trivial) (zbg φ) Tryz.func44 (by kernel_rfl) (zvl φ) (zvk φ)
def z8x(φ:Nat):H TV (RTup TT [.val 38]):=(.seq .x (.seq .x (.seq .x (.seq .x (.seq .x (.seq .x (.seq (.seq .x (.body (.loop ⟨[(137,[(2,.ptr 0 0),(3,.ptr 1 0),(6,.own 2),(7,.own 3),(8,.own 4),(29,.own 5),(30,.val 0),(31,.val 0)])],[.box 36 [.val 26],.box 37 [.val 36],.row 3 0,.map 0 29 0,.row 75 37,.row 3 0]⟩ (λn=>kk8 (z1e φ n)) (λzk15=>(.seq .x (.seq .x (.seq (.body (.seq .x (.body (.seq .x (.seq .x (.seq .x (.seq .x (.seq (.seq .x (.body (.loop ⟨[(137,[(2,.ptr 0 0),(3,.ptr 1 0),(6,.own 2),(7,.own 3),(8,.own 4),(10,.val 0),(11,.ptr 5 0),(12,.val 0),(29,.own 6),(30,.val 0),(31,.val 0),(43,.own 2),(44,.val 0),(45,.val 0)])],[.box 36 [.val 26],.box 37 [.val 36],.row 3 0,.map 0 29 0,.row 75 37,.box 61 [.val 33],.row 3 0]⟩ (λn z=>z05 φ (λa0 a1 a2 a3 a4 a5 a6 a7=>zk15 (a0,a1,a2,a3,a4,a5,a6,a7,())) n z.1 z.2.1 z.2.2.1 z.2.2.2.1 z.2.2.2.2.1 z.2.2.2.2.2.1 z.2.2.2.2.2.2.1 z.2.2.2.2.2.2.2.1 z.2.2.2.2.2.2.2.2.1 z.2.2.2.2.2.2.2.2.2.1 z.2.2.2.2.2.2.2.2.2.2.1 z.2.2.2.2.2.2.2.2.2.2.2.1 z.2.2.2.2.2.2.2.2.2.2.2.2.1) (λzk30=>.x)))) .x)))))))) .x))))))) .x)))))))
def zce(P:Program)(φ:Nat):Env TV:=⟨P,lk [(34,z3q φ),(36,z9n φ),(43,zay φ),(44,zg3 φ),(30,z7t φ),(31,z4n φ),(29,zlw φ)],lk [(41,z6r φ)],lk [(42,z9p φ)],lk []⟩
theorem zsh(φ:Nat)(a):(z8y φ).F a=fnX TV (zce Tryz.prog φ) φ Tryz.f26 [26,36] [.val 38] (z8x φ) a:=by kernel_rfl
theorem zsg(φ:Nat):fnO TV (zce Tryz.prog φ) φ Tryz.f26 [.val 38] (z8x φ):=by
 unfold fnO;show obl _ _ _ _ _ _ _ _;unfold z8x
 repeat' (first|exact trivial |(refine⟨?_,?_⟩) |(intro _)|kernel_rfl)
theorem zjm[Dr](φ:Nat):zq TV Tryz.prog 26 (z8y φ):=zu (N:=zce Tryz.prog φ) (zd ⟨z7x φ,zkw φ,zq5 φ,zvj φ,zcv φ,z8s φ,zss φ,trivial⟩ ⟨(zjf φ),trivial⟩ ⟨zou φ,trivial⟩ trivial) (z8x φ) Tryz.func26 (by kernel_rfl) (zsh φ) (zsg φ)
def z06(φ:Nat):H TV (List (TT 39)):=(.seq .x (.body (.loop ⟨[(53,[(0,.own 0),(1,.val 0),(2,.val 0),(3,.cmp 39),(8,.val 0)]),(1,[(0,.own 0)])],[.row 64 39]⟩ (λn=>kk5 (z12 φ n)) (λzk10=>(.seq .x (.seq (.body (.seq .x (.body (.loop ⟨[(53,[(0,.own 0),(1,.val 0),(2,.val 0),(3,.cmp 39),(8,.val 0),(9,.val 0)]),(1,[(0,.own 0)])],[.row 64 39]⟩ (λn z=>z13 φ (λa0 a1 a2 a3 a4=>zk10 (a0,a1,a2,a3,a4,())) n z.1 z.2.1 z.2.2.1 z.2.2.2.1 z.2.2.2.2.1 z.2.2.2.2.2.1) (λzk17=>.x))))) .x))))))
def z1p(P:Program)(φ:Nat):Env TV:=⟨P,lk [],lk [],lk [],lk []⟩
theorem zam(φ:Nat)(l a):(z1q φ).F l a=fnM TV (z1p Tryz.prog φ) φ Tryz.f66 64 39 [.val 0,.val 0,.cmp 39] (z06 φ) l a:=by kernel_rfl
theorem zal(φ:Nat):fnMO TV (z1p Tryz.prog φ) φ Tryz.f66 64 39 (z06 φ):=by
 unfold fnMO;show obl _ _ _ _ _ _ _ _;unfold z06
 repeat' (first|exact trivial |(refine⟨?_,?_⟩) |(intro _)|kernel_rfl)
theorem zak[Dr](φ:Nat):zg0 TV Tryz.prog 66 (z1q φ):=zaq (N:=z1p Tryz.prog φ) (zd trivial trivial trivial trivial) (z06 φ) Tryz.func66 (by kernel_rfl) (zam φ) (zal φ)
def z0l(φ:Nat):H TV (List (TT 39)):=(.seq .x (.body (.loop ⟨[(38,[(0,.own 0),(1,.val 0),(2,.val 0),(3,.val 0),(10,.val 0)]),(1,[(0,.own 0)])],[.row 64 39]⟩ (λn=>kk5 (z2a φ n)) (λzk11=>.x))))
def z33(P:Program)(φ:Nat):Env TV:=⟨P,lk [],lk [],lk [],lk []⟩
theorem zcn(φ:Nat)(l a):(z34 φ).F l a=fnM TV (z33 Tryz.prog φ) φ Tryz.f106 64 39 [.val 0,.val 0,.val 0,.cmp 39] (z0l φ) l a:=by kernel_rfl
theorem zcm(φ:Nat):fnMO TV (z33 Tryz.prog φ) φ Tryz.f106 64 39 (z0l φ):=by
 unfold fnMO;show obl _ _ _ _ _ _ _ _;unfold z0l
 repeat' (first|exact trivial |(refine⟨?_,?_⟩) |(intro _)|kernel_rfl)
theorem zcl[Dr](φ:Nat):zg0 TV Tryz.prog 106 (z34 φ):=zaq (N:=z33 Tryz.prog φ) (zd trivial trivial trivial trivial) (z0l φ) Tryz.func106 (by kernel_rfl) (zcn φ) (zcm φ)
def z2f(φ:Nat):H TV (List (TT 39)):=(.seq .x (.seq .x (.seq (.body (.loop ⟨[(58,[(0,.own 0),(2,.val 0),(4,.cmp 39),(10,.val 0),(11,.val 0)]),(1,[(0,.own 0)])],[.row 64 39]⟩ (λn=>kk5 (z1h φ n)) (λzk11=>.x))) .x)))
def z5q(P:Program)(φ:Nat):Env TV:=⟨P,lk [],lk [(106,z34 φ)],lk [],lk []⟩
theorem zgm(φ:Nat)(l a):(z5r φ).F l a=fnM TV (z5q Tryz.prog φ) φ Tryz.f92 64 39 [.val 0,.val 0,.val 0,.cmp 39] (z2f φ) l a:=by kernel_rfl
theorem zgl(φ:Nat):fnMO TV (z5q Tryz.prog φ) φ Tryz.f92 64 39 (z2f φ):=by
 unfold fnMO;show obl _ _ _ _ _ _ _ _;unfold z2f
 repeat' (first|exact trivial |(refine⟨?_,?_⟩) |(intro _)|kernel_rfl)
theorem zgk[Dr](φ:Nat):zg0 TV Tryz.prog 92 (z5r φ):=zaq (N:=z5q Tryz.prog φ) (zd trivial ⟨(zcl φ),trivial⟩ trivial trivial) (z2f φ) Tryz.func92 (by kernel_rfl) (zgm φ) (zgl φ)
def z1l(φ d:Nat):H TV (List (TT 39)):=(.seq (.seq .x (.cond (.seq .x (.seq .x (.seq (.body (.loop ⟨[(220,[(0,.own 0),(1,.val 0),(4,.cmp 39),(10,.val 0),(11,.val 0)]),(1,[(0,.own 0)])],[.row 64 39]⟩ (λn=>kk5 (z0n φ n)) (λzk11=>.x))) (.seq (.seq .x (.body (.loop ⟨[(220,[(0,.own 0),(10,.val 0),(13,.val 0)]),(1,[(0,.own 0)])],[.row 64 39]⟩ (λn=>kk3 (z37 φ n)) (λzk16=>.x)))) .x)))) .x)) (.seq (.seq .x (.cond (.seq .x (.seq .x (.seq (.body (.loop ⟨[(220,[(0,.own 0),(2,.val 0),(4,.cmp 39),(14,.val 0),(15,.val 0)]),(1,[(0,.own 0)])],[.row 64 39]⟩ (λn=>kk5 (z0o φ n)) (λzk22=>.x))) (.seq (.seq .x (.body (.loop ⟨[(220,[(0,.own 0),(14,.val 0),(17,.val 0)]),(1,[(0,.own 0)])],[.row 64 39]⟩ (λn=>kk3 (z38 φ n)) (λzk27=>.x)))) .x)))) .x)) (.seq .x (.seq .x (.seq .x (.seq (.join ⟨[(220,[(0,.own 0),(1,.val 0),(2,.val 0),(3,.val 0),(4,.cmp 39),(18,.val 0),(19,.val 0),(20,.val 0),(21,.val 0)]),(1,[(0,.own 0)])],[.row 64 39]⟩ (λz=>z39 φ (zi φ d) z.1 z.2.1 z.2.2.1 z.2.2.2.1 z.2.2.2.2.1 z.2.2.2.2.2.1 z.2.2.2.2.2.2.1 z.2.2.2.2.2.2.2.1 z.2.2.2.2.2.2.2.2.1) (.seq .x .x)) (.seq .x (.seq (.body (.loop ⟨[(220,[(0,.own 0),(1,.val 0),(2,.val 0),(3,.val 0),(4,.cmp 39),(18,.val 0),(19,.val 0),(20,.val 0),(21,.val 0),(22,.val 0)]),(1,[(0,.own 0)])],[.row 64 39]⟩ (λn z=>z0p φ (zi φ d) n z.1 z.2.1 z.2.2.1 z.2.2.2.1 z.2.2.2.2.1 z.2.2.2.2.2.1 z.2.2.2.2.2.2.1 z.2.2.2.2.2.2.2.1 z.2.2.2.2.2.2.2.2.1 z.2.2.2.2.2.2.2.2.2.1) (λzk48=>.x))) (.seq .x (.seq (.join ⟨[(220,[(0,.own 0),(1,.val 0),(3,.val 0),(4,.cmp 39),(18,.val 0),(20,.val 0),(24,.val 0)]),(1,[(0,.own 0)])],[.row 64 39]⟩ (λz=>z3a φ (zi φ d) z.1 z.2.1 z.2.2.1 z.2.2.2.1 z.2.2.2.2.1 z.2.2.2.2.2.1 z.2.2.2.2.2.2.1) (.seq .x .x)) (.seq (.join ⟨[(220,[(0,.own 0),(3,.val 0),(4,.cmp 39),(18,.val 0),(24,.val 0)]),(1,[(0,.own 0)])],[.row 64 39]⟩ (λz=>z3b φ (zi φ d) z.1 z.2.1 z.2.2.1 z.2.2.2.1 z.2.2.2.2.1) (.seq .x .x)) .x)))))))))))
def z47(P:Program)(φ d:Nat):Env TV:=⟨P,lk [],lk [(92,z5r φ),(67,z1m φ d)],lk [],lk []⟩
theorem zf4(φ d:Nat)(l a):(z1m φ (d+1)).F l a=fnM TV (z47 Tryz.prog φ d) φ Tryz.f67 64 39 [.val 0,.val 0,.val 0,.cmp 39] (z1l φ d) l a:=by kernel_rfl
theorem zf3(φ d:Nat):fnMO TV (z47 Tryz.prog φ d) φ Tryz.f67 64 39 (z1l φ d):=by
 unfold fnMO;show obl _ _ _ _ _ _ _ _;unfold z1l
 repeat' (first|exact trivial |(refine⟨?_,?_⟩) |(intro _)|kernel_rfl)
theorem z7p[Dr](φ:Nat):∀d,zg0 TV Tryz.prog 67 (z1m φ d)
 |0=>λl a l2 sv h=>absurd (show (none:Option (List (TT 39)))=some l2 from h) (λq=>by cases q)
 |d+1=>zaq (N:=z47 Tryz.prog φ d) (zd trivial ⟨(zgk φ),(z7p φ d),trivial⟩ trivial trivial) (z1l φ d) Tryz.func67 (by kernel_rfl) (zf4 φ d) (zf3 φ d)
end Px
end
section
set_option maxHeartbeats 4000000
set_option maxRecDepth 100000
namespace Px
open Go Go.RowKit Go.Proofs
def z2h(φ:Nat):H TV (List (TT 39)):=(.seq .x (.seq .x (.seq (.body (.loop ⟨[(63,[(0,.own 0),(1,.val 0),(2,.cmp 39),(6,.val 0),(7,.val 0),(8,.val 0)]),(1,[(0,.own 0)])],[.row 64 39]⟩ (λn=>kk6 (z40 φ n)) (λzk10=>.x))) (.seq .x (.body (.loop ⟨[(63,[(0,.own 0),(1,.val 0),(2,.cmp 39),(6,.val 0)]),(1,[(0,.own 0)])],[.row 64 39]⟩ (λn=>kk4 (z41 φ n)) (λzk17=>(.seq .x (.body (.seq .x (.seq (.body (.loop ⟨[(63,[(0,.own 0),(1,.val 0),(2,.cmp 39),(6,.val 0),(7,.val 0),(8,.val 0)]),(1,[(0,.own 0)])],[.row 64 39]⟩ (λn z=>z42 φ (λa0 a1 a2 a3=>zk17 (a0,a1,a2,a3,())) n z.1 z.2.1 z.2.2.1 z.2.2.2.1 z.2.2.2.2.1 z.2.2.2.2.2.1) (λzk24=>.x))) .x)))))))))))
def z5u(P:Program)(φ:Nat):Env TV:=⟨P,lk [],lk [(66,z1q φ),(67,z1m φ φ)],lk [],lk []⟩
theorem zgs(φ:Nat)(l a):(z5v φ).F l a=fnM TV (z5u Tryz.prog φ) φ Tryz.f45 64 39 [.val 0,.cmp 39] (z2h φ) l a:=by kernel_rfl
theorem zgr(φ:Nat):fnMO TV (z5u Tryz.prog φ) φ Tryz.f45 64 39 (z2h φ):=by
 unfold fnMO;show obl _ _ _ _ _ _ _ _;unfold z2h
 repeat' (first|exact trivial |(refine⟨?_,?_⟩) |(intro _)|kernel_rfl)
theorem zgq[Dr](φ:Nat):zg0 TV Tryz.prog 45 (z5v φ):=zaq (N:=z5u Tryz.prog φ) (zd trivial ⟨(zak φ),(z7p φ φ),trivial⟩ trivial trivial) (z2h φ) Tryz.func45 (by kernel_rfl) (zgs φ) (zgr φ)
def z1t(φ:Nat):H TV (List (TT 39)):=.x
def z4c(P:Program)(φ:Nat):Env TV:=⟨P,lk [],lk [(45,z5v φ)],lk [],lk []⟩
theorem zfd(φ:Nat)(l a):(z4d φ).F l a=fnM TV (z4c Tryz.prog φ) φ Tryz.f27 64 39 [.cmp 39] (z1t φ) l a:=by kernel_rfl
theorem zfc(φ:Nat):fnMO TV (z4c Tryz.prog φ) φ Tryz.f27 64 39 (z1t φ):=by
 unfold fnMO;show obl _ _ _ _ _ _ _ _;unfold z1t
 repeat' (first|exact trivial |(refine⟨?_,?_⟩) |(intro _)|kernel_rfl)
theorem zfb[Dr](φ:Nat):zg0 TV Tryz.prog 27 (z4d φ):=zaq (N:=z4c Tryz.prog φ) (zd trivial ⟨(zgq φ),trivial⟩ trivial trivial) (z1t φ) Tryz.func27 (by kernel_rfl) (zfd φ) (zfc φ)
def z7a(φ:Nat):H TV (RTup TT [.val 0]):=.x
def z9k(P:Program)(φ:Nat):Env TV:=⟨P,lk [(30,z7t φ),(31,z4n φ),(29,zlw φ)],lk [],lk [],lk []⟩
theorem zot(φ:Nat)(a):(z9l φ).F a=fnX TV (z9k Tryz.prog φ) φ Tryz.f28 [39,39] [.val 0] (z7a φ) a:=by kernel_rfl
theorem zos(φ:Nat):fnO TV (z9k Tryz.prog φ) φ Tryz.f28 [.val 0] (z7a φ):=by
 unfold fnO;show obl _ _ _ _ _ _ _ _;unfold z7a
 repeat' (first|exact trivial |(refine⟨?_,?_⟩) |(intro _)|kernel_rfl)
theorem zor[Dr](φ:Nat):zq TV Tryz.prog 28 (z9l φ):=zu (N:=z9k Tryz.prog φ) (zd ⟨zcv φ,z8s φ,zss φ,trivial⟩ trivial trivial trivial) (z7a φ) Tryz.func28 (by kernel_rfl) (zot φ) (zos φ)
theorem zkv(φ:Nat)(k9 :((List z5)->(List (Nat->Int))->Int->Int->(List z3)->Option ((List z3)×Unit)))(x18 :(List z5))(x19 :(List (Nat->Int)))(x20:Int)(x21:Int)(x22 :(List z3))(x23 :(Nat->Int)):zar (z4v φ k9 x18 x19 x20 x21 x22 x23) (z96 φ k9 x18 x19 x20 x21 x22 x23):=by
 unfold z4v;unfold z96
 repeat' (first|exact zar.one|exact zar.nil|refine zar.cons ?_ ?_|refine zar.ck ?_|exact zar.same (n:=2) rfl|exact zar.same (n:=3) rfl|exact zar.same (n:=4) rfl|exact zar.same (n:=6) rfl|refine zar.bind λ_=>?_)
def z8o(φ:Nat):H TV (RTup TT [.val 40]):=(.seq .x (.seq .x (.seq (.seq .x (.body (.loop ⟨[(67,[(1,.val 36),(5,.own 0),(12,.val 38),(13,.val 0),(14,.val 0)])],[.row 64 39]⟩ (λn=>kk5 (z22 φ n)) (λzk9=>(.seq .x (.seq .x (.seq (.body (.seq .x (.seq (.join ⟨[(67,[(1,.val 36),(5,.own 0),(8,.ptr 1 0),(9,.ptr 2 0),(12,.val 38),(13,.val 0),(14,.val 0)])],[.row 64 39,.box 61 [.val 33],.box 61 [.val 33]]⟩ (λz=>z4w φ (λa0 a1 a2 a3 a4=>zk9 (a0,a1,a2,a3,a4,())) z.1 z.2.1 z.2.2.1 z.2.2.2.1 z.2.2.2.2.1 z.2.2.2.2.2.1 z.2.2.2.2.2.2.1) (.alt ⟨[(67,[(1,.val 36),(5,.own 0),(7,.ptr 1 0),(12,.val 38),(13,.val 0),(14,.val 0)])],[.row 64 39,.box 75 [.val 37]]⟩ (λz=>z4v φ (λa0 a1 a2 a3 a4=>zk9 (a0,a1,a2,a3,a4,())) z.1 z.2.1 z.2.2.1 z.2.2.2.1 z.2.2.2.2.1 z.2.2.2.2.2.1) (λz=>z96 φ (λa0 a1 a2 a3 a4=>zk9 (a0,a1,a2,a3,a4,())) z.1 z.2.1 z.2.2.1 z.2.2.2.1 z.2.2.2.2.1 z.2.2.2.2.2.1))) .x))) .x))))))) .x)))
def zc8(P:Program)(φ:Nat):Env TV:=⟨P,lk [(26,z8y φ),(28,z9l φ)],lk [(27,z4d φ)],lk [],lk []⟩
theorem zs7(φ:Nat)(a):(z6s φ).F a=fnX TV (zc8 Tryz.prog φ) φ Tryz.f11 [26,36] [.val 40] (z8o φ) a:=by kernel_rfl
theorem zs6(φ:Nat):fnO TV (zc8 Tryz.prog φ) φ Tryz.f11 [.val 40] (z8o φ):=by
 unfold fnO;show obl _ _ _ _ _ _ _ _;unfold z8o
 repeat' (first|exact trivial |(refine⟨?_,?_⟩) |(intro _)|kernel_rfl|exact zkv ..)
theorem zc9[Dr](φ:Nat):zq TV Tryz.prog 11 (z6s φ):=zu (N:=zc8 Tryz.prog φ) (zd ⟨zjm φ,zor φ,trivial⟩ ⟨(zfb φ),trivial⟩ trivial trivial) (z8o φ) Tryz.func11 (by kernel_rfl) (zs7 φ) (zs6 φ)
def z8v(φ:Nat):H TV (RTup TT [.val 0]):=.x
def zcd(P:Program)(φ:Nat):Env TV:=⟨P,lk [(34,z3q φ)],lk [],lk [],lk []⟩
theorem zsf(φ:Nat)(a):(z8w φ).F a=fnX TV (zcd Tryz.prog φ) φ Tryz.f22 [26,0,0] [.val 0] (z8v φ) a:=by kernel_rfl
theorem zse(φ:Nat):fnO TV (zcd Tryz.prog φ) φ Tryz.f22 [.val 0] (z8v φ):=by
 unfold fnO;show obl _ _ _ _ _ _ _ _;unfold z8v
 repeat' (first|exact trivial |(refine⟨?_,?_⟩) |(intro _)|kernel_rfl)
theorem zjl[Dr](φ:Nat):zq TV Tryz.prog 22 (z8w φ):=zu (N:=zcd Tryz.prog φ) (zd ⟨z7x φ,trivial⟩ trivial trivial trivial) (z8v φ) Tryz.func22 (by kernel_rfl) (zsf φ) (zse φ)
def z8t(φ:Nat):H TV (RTup TT [.val 42]):=(.seq .x (.seq .x (.seq (.seq .x (.body (.loop ⟨[(72,[(2,.val 0),(7,.own 0),(28,.val 40),(29,.val 0),(30,.val 0)])],[.row 68 41]⟩ (λn=>kk5 (z1d φ n)) (λzk10=>.x)))) .x)))
def zcc(P:Program)(φ:Nat):Env TV:=⟨P,lk [(11,z6s φ)],lk [],lk [],lk []⟩
theorem zsd(φ:Nat)(a):(z8u φ).F a=fnX TV (zcc Tryz.prog φ) φ Tryz.f23 [26,36,0] [.val 42] (z8t φ) a:=by kernel_rfl
theorem zsc(φ:Nat):fnO TV (zcc Tryz.prog φ) φ Tryz.f23 [.val 42] (z8t φ):=by
 unfold fnO;show obl _ _ _ _ _ _ _ _;unfold z8t
 repeat' (first|exact trivial |(refine⟨?_,?_⟩) |(intro _)|kernel_rfl)
theorem zjk[Dr](φ:Nat):zq TV Tryz.prog 23 (z8u φ):=zu (N:=zcc Tryz.prog φ) (zd ⟨zc9 φ,trivial⟩ trivial trivial trivial) (z8t φ) Tryz.func23 (by kernel_rfl) (zsd φ) (zsc φ)
def z8p(φ:Nat):H TV (RTup TT [.val 42,.val 0]):=(.seq .x (.seq .x (.seq .x (.seq (.seq .x (.body (.loop ⟨[(58,[(3,.val 0),(11,.own 0),(25,.val 42),(26,.val 0),(27,.val 0)])],[.row 68 41]⟩ (λn=>kk5 (z0c φ n)) (λzk12=>(.seq .x (.seq .x (.seq (.body (.seq .x (.seq .x (.seq (.join ⟨[(58,[(3,.val 0),(11,.own 0),(13,.ptr 1 0),(25,.val 42),(26,.val 0),(27,.val 0)])],[.row 68 41,.box 68 [.val 41]]⟩ (λz=>z4x φ (λa0 a1 a2 a3 a4=>zk12 (a0,a1,a2,a3,a4,())) z.1 z.2.1 z.2.2.1 z.2.2.2.1 z.2.2.2.2.1 z.2.2.2.2.2.1) (.seq .x .x)) .x)))) .x))))))) .x))))
def zca(P:Program)(φ:Nat):Env TV:=⟨P,lk [(22,z8w φ),(23,z8u φ)],lk [],lk [],lk []⟩
theorem zs9(φ:Nat)(a):(z8q φ).F a=fnX TV (zca Tryz.prog φ) φ Tryz.f6 [26,36,0,0] [.val 42,.val 0] (z8p φ) a:=by kernel_rfl
theorem zs8(φ:Nat):fnO TV (zca Tryz.prog φ) φ Tryz.f6 [.val 42,.val 0] (z8p φ):=by
 unfold fnO;show obl _ _ _ _ _ _ _ _;unfold z8p
 repeat' (first|exact trivial |(refine⟨?_,?_⟩) |(intro _)|kernel_rfl)
theorem zjj[Dr](φ:Nat):zq TV Tryz.prog 6 (z8q φ):=zu (N:=zca Tryz.prog φ) (zd ⟨zjl φ,zjk φ,trivial⟩ trivial trivial trivial) (z8p φ) Tryz.func6 (by kernel_rfl) (zs9 φ) (zs8 φ)
def zd0(φ:Nat):H TV (RTup TT [.val 0,.val 0]):=(.seq .x (.seq .x (.seq .x (.seq .x (.seq (.body (.loop ⟨[(42,[(3,.val 0),(11,.val 42),(12,.val 0)])],[]⟩ (λn=>kk3 (z66 φ n)) (λzk10=>.x))) .x)))))
def zht(P:Program)(φ:Nat):Env TV:=⟨P,lk [(22,z8w φ),(23,z8u φ)],lk [],lk [],lk []⟩
theorem zxw(φ:Nat)(a):(zd1 φ).F a=fnX TV (zht Tryz.prog φ) φ Tryz.f8 [26,36,0,0] [.val 0,.val 0] (zd0 φ) a:=by kernel_rfl
theorem zxv(φ:Nat):fnO TV (zht Tryz.prog φ) φ Tryz.f8 [.val 0,.val 0] (zd0 φ):=by
 unfold fnO;show obl _ _ _ _ _ _ _ _;unfold zd0
 repeat' (first|exact trivial |(refine⟨?_,?_⟩) |(intro _)|kernel_rfl)
theorem zoq[Dr](φ:Nat):zq TV Tryz.prog 8 (zd1 φ):=zu (N:=zht Tryz.prog φ) (zd ⟨zjl φ,zjk φ,trivial⟩ trivial trivial trivial) (zd0 φ) Tryz.func8 (by kernel_rfl) (zxw φ) (zxv φ)
def z52(φ:Nat):H TV (RTup TT [.val 29]):=(.seq .x (.seq .x (.seq (.seq .x (.body (.loop ⟨[(26,[(0,.val 40),(1,.val 40),(5,.val 0)])],[]⟩ (λn=>kk3 (z0f φ n)) (λzk6=>.x)))) .x)))
def z7m(P:Program)(φ:Nat):Env TV:=⟨P,lk [],lk [],lk [],lk []⟩
theorem zlm(φ:Nat)(a):(z53 φ).F a=fnX TV (z7m Tryz.prog φ) φ Tryz.f10 [40,40] [.val 29] (z52 φ) a:=by kernel_rfl
theorem zll(φ:Nat):fnO TV (z7m Tryz.prog φ) φ Tryz.f10 [.val 29] (z52 φ):=by
 unfold fnO;show obl _ _ _ _ _ _ _ _;unfold z52
 repeat' (first|exact trivial |(refine⟨?_,?_⟩) |(intro _)|kernel_rfl)
theorem zby[Dr](φ:Nat):zq TV Tryz.prog 10 (z53 φ):=zu (N:=z7m Tryz.prog φ) (zd trivial trivial trivial trivial) (z52 φ) Tryz.func10 (by kernel_rfl) (zlm φ) (zll φ)
def zfw(φ:Nat):H TV (RTup TT [.val 29]):=(.seq .x (.seq .x (.seq (.seq .x (.body (.loop ⟨[(26,[(0,.val 42),(1,.val 42),(5,.val 0)])],[]⟩ (λn=>kk3 (z85 φ n)) (λzk6=>.x)))) .x)))
def zln(P:Program)(φ:Nat):Env TV:=⟨P,lk [],lk [],lk [],lk []⟩
theorem y3j(φ:Nat)(a):(zfx φ).F a=fnX TV (zln Tryz.prog φ) φ Tryz.f16 [42,42] [.val 29] (zfw φ) a:=by kernel_rfl
theorem y3i(φ:Nat):fnO TV (zln Tryz.prog φ) φ Tryz.f16 [.val 29] (zfw φ):=by
 unfold fnO;show obl _ _ _ _ _ _ _ _;unfold zfw
 repeat' (first|exact trivial |(refine⟨?_,?_⟩) |(intro _)|kernel_rfl)
theorem zrs[Dr](φ:Nat):zq TV Tryz.prog 16 (zfx φ):=zu (N:=zln Tryz.prog φ) (zd trivial trivial trivial trivial) (zfw φ) Tryz.func16 (by kernel_rfl) (y3j φ) (y3i φ)
def z87(φ:Nat):H TV (RTup TT [.row 3 0]):=(.seq .x (.seq .x (.seq (.seq .x (.body (.loop ⟨[(36,[(0,.val 43),(3,.val 0),(9,.val 43),(10,.val 0),(11,.val 0)])],[]⟩ (λn=>kk5 (z2u φ n)) (λzk7=>.x)))) (.seq (.ins 1 55 (.seq .x (.seq .x (.seq .x (.cut 0 (.seq .x .x))))) .x) (.seq (.seq .x (.body (.loop ⟨[(36,[(6,.own 0),(25,.val 43),(26,.val 0),(27,.val 0)])],[.row 3 0]⟩ (λn=>kk4 (z3y φ n)) (λzk17=>.x)))) .x)))))
def zbc(P:Program)(φ:Nat):Env TV:=⟨P,lk [],lk [],lk [],lk []⟩
theorem zrb(φ:Nat)(a):(zbd φ).F a=fnX TV (zbc Tryz.prog φ) φ Tryz.f35 [43] [.row 3 0] (z87 φ) a:=by kernel_rfl
theorem zra(φ:Nat):fnO TV (zbc Tryz.prog φ) φ Tryz.f35 [.row 3 0] (z87 φ):=by
 unfold fnO;show obl _ _ _ _ _ _ _ _;unfold z87
 repeat' (first|exact trivial |(refine⟨?_,?_⟩) |(intro _)|kernel_rfl)
theorem zr9[Dr](φ:Nat):zq TV Tryz.prog 35 (zbd φ):=zu (N:=zbc Tryz.prog φ) (zd trivial trivial trivial trivial) (z87 φ) Tryz.func35 (by kernel_rfl) (zrb φ) (zra φ)
def z07(φ:Nat):H TV (List (TT 27)):=(.seq .x (.body (.loop ⟨[(53,[(0,.own 0),(1,.val 0),(2,.val 0),(3,.cmp 27),(8,.val 0)]),(1,[(0,.own 0)])],[.row 56 27]⟩ (λn=>kk5 (z14 φ n)) (λzk10=>(.seq .x (.seq (.body (.seq .x (.body (.loop ⟨[(53,[(0,.own 0),(1,.val 0),(2,.val 0),(3,.cmp 27),(8,.val 0),(9,.val 0)]),(1,[(0,.own 0)])],[.row 56 27]⟩ (λn z=>z15 φ (λa0 a1 a2 a3 a4=>zk10 (a0,a1,a2,a3,a4,())) n z.1 z.2.1 z.2.2.1 z.2.2.2.1 z.2.2.2.2.1 z.2.2.2.2.2.1) (λzk17=>.x))))) .x))))))
def z1r(P:Program)(φ:Nat):Env TV:=⟨P,lk [],lk [],lk [],lk []⟩
theorem zap(φ:Nat)(l a):(z1s φ).F l a=fnM TV (z1r Tryz.prog φ) φ Tryz.f74 56 27 [.val 0,.val 0,.cmp 27] (z07 φ) l a:=by kernel_rfl
theorem zao(φ:Nat):fnMO TV (z1r Tryz.prog φ) φ Tryz.f74 56 27 (z07 φ):=by
 unfold fnMO;show obl _ _ _ _ _ _ _ _;unfold z07
 repeat' (first|exact trivial |(refine⟨?_,?_⟩) |(intro _)|kernel_rfl)
theorem zan[Dr](φ:Nat):zg0 TV Tryz.prog 74 (z1s φ):=zaq (N:=z1r Tryz.prog φ) (zd trivial trivial trivial trivial) (z07 φ) Tryz.func74 (by kernel_rfl) (zap φ) (zao φ)
def z0m(φ:Nat):H TV (List (TT 27)):=(.seq .x (.body (.loop ⟨[(38,[(0,.own 0),(1,.val 0),(2,.val 0),(3,.val 0),(10,.val 0)]),(1,[(0,.own 0)])],[.row 56 27]⟩ (λn=>kk5 (z2b φ n)) (λzk11=>.x))))
def z35(P:Program)(φ:Nat):Env TV:=⟨P,lk [],lk [],lk [],lk []⟩
theorem zcq(φ:Nat)(l a):(z36 φ).F l a=fnM TV (z35 Tryz.prog φ) φ Tryz.f118 56 27 [.val 0,.val 0,.val 0,.cmp 27] (z0m φ) l a:=by kernel_rfl
theorem zcp(φ:Nat):fnMO TV (z35 Tryz.prog φ) φ Tryz.f118 56 27 (z0m φ):=by
 unfold fnMO;show obl _ _ _ _ _ _ _ _;unfold z0m
 repeat' (first|exact trivial |(refine⟨?_,?_⟩) |(intro _)|kernel_rfl)
theorem zco[Dr](φ:Nat):zg0 TV Tryz.prog 118 (z36 φ):=zaq (N:=z35 Tryz.prog φ) (zd trivial trivial trivial trivial) (z0m φ) Tryz.func118 (by kernel_rfl) (zcq φ) (zcp φ)
def z2g(φ:Nat):H TV (List (TT 27)):=(.seq .x (.seq .x (.seq (.body (.loop ⟨[(58,[(0,.own 0),(2,.val 0),(4,.cmp 27),(10,.val 0),(11,.val 0)]),(1,[(0,.own 0)])],[.row 56 27]⟩ (λn=>kk5 (z1i φ n)) (λzk11=>.x))) .x)))
def z5s(P:Program)(φ:Nat):Env TV:=⟨P,lk [],lk [(118,z36 φ)],lk [],lk []⟩
theorem zgp(φ:Nat)(l a):(z5t φ).F l a=fnM TV (z5s Tryz.prog φ) φ Tryz.f98 56 27 [.val 0,.val 0,.val 0,.cmp 27] (z2g φ) l a:=by kernel_rfl
theorem zgo(φ:Nat):fnMO TV (z5s Tryz.prog φ) φ Tryz.f98 56 27 (z2g φ):=by
 unfold fnMO;show obl _ _ _ _ _ _ _ _;unfold z2g
 repeat' (first|exact trivial |(refine⟨?_,?_⟩) |(intro _)|kernel_rfl)
theorem zgn[Dr](φ:Nat):zg0 TV Tryz.prog 98 (z5t φ):=zaq (N:=z5s Tryz.prog φ) (zd trivial ⟨(zco φ),trivial⟩ trivial trivial) (z2g φ) Tryz.func98 (by kernel_rfl) (zgp φ) (zgo φ)
def z1n(φ d:Nat):H TV (List (TT 27)):=(.seq (.seq .x (.cond (.seq .x (.seq .x (.seq (.body (.loop ⟨[(220,[(0,.own 0),(1,.val 0),(4,.cmp 27),(10,.val 0),(11,.val 0)]),(1,[(0,.own 0)])],[.row 56 27]⟩ (λn=>kk5 (z0q φ n)) (λzk11=>.x))) (.seq (.seq .x (.body (.loop ⟨[(220,[(0,.own 0),(10,.val 0),(13,.val 0)]),(1,[(0,.own 0)])],[.row 56 27]⟩ (λn=>kk3 (z3c φ n)) (λzk16=>.x)))) .x)))) .x)) (.seq (.seq .x (.cond (.seq .x (.seq .x (.seq (.body (.loop ⟨[(220,[(0,.own 0),(2,.val 0),(4,.cmp 27),(14,.val 0),(15,.val 0)]),(1,[(0,.own 0)])],[.row 56 27]⟩ (λn=>kk5 (z0r φ n)) (λzk22=>.x))) (.seq (.seq .x (.body (.loop ⟨[(220,[(0,.own 0),(14,.val 0),(17,.val 0)]),(1,[(0,.own 0)])],[.row 56 27]⟩ (λn=>kk3 (z3d φ n)) (λzk27=>.x)))) .x)))) .x)) (.seq .x (.seq .x (.seq .x (.seq (.join ⟨[(220,[(0,.own 0),(1,.val 0),(2,.val 0),(3,.val 0),(4,.cmp 27),(18,.val 0),(19,.val 0),(20,.val 0),(21,.val 0)]),(1,[(0,.own 0)])],[.row 56 27]⟩ (λz=>z3e φ (zj φ d) z.1 z.2.1 z.2.2.1 z.2.2.2.1 z.2.2.2.2.1 z.2.2.2.2.2.1 z.2.2.2.2.2.2.1 z.2.2.2.2.2.2.2.1 z.2.2.2.2.2.2.2.2.1) (.seq .x .x)) (.seq .x (.seq (.body (.loop ⟨[(220,[(0,.own 0),(1,.val 0),(2,.val 0),(3,.val 0),(4,.cmp 27),(18,.val 0),(19,.val 0),(20,.val 0),(21,.val 0),(22,.val 0)]),(1,[(0,.own 0)])],[.row 56 27]⟩ (λn z=>z0s φ (zj φ d) n z.1 z.2.1 z.2.2.1 z.2.2.2.1 z.2.2.2.2.1 z.2.2.2.2.2.1 z.2.2.2.2.2.2.1 z.2.2.2.2.2.2.2.1 z.2.2.2.2.2.2.2.2.1 z.2.2.2.2.2.2.2.2.2.1) (λzk48=>.x))) (.seq .x (.seq (.join ⟨[(220,[(0,.own 0),(1,.val 0),(3,.val 0),(4,.cmp 27),(18,.val 0),(20,.val 0),(24,.val 0)]),(1,[(0,.own 0)])],[.row 56 27]⟩ (λz=>z3f φ (zj φ d) z.1 z.2.1 z.2.2.1 z.2.2.2.1 z.2.2.2.2.1 z.2.2.2.2.2.1 z.2.2.2.2.2.2.1) (.seq .x .x)) (.seq (.join ⟨[(220,[(0,.own 0),(3,.val 0),(4,.cmp 27),(18,.val 0),(24,.val 0)]),(1,[(0,.own 0)])],[.row 56 27]⟩ (λz=>z3g φ (zj φ d) z.1 z.2.1 z.2.2.1 z.2.2.2.1 z.2.2.2.2.1) (.seq .x .x)) .x)))))))))))
def z48(P:Program)(φ d:Nat):Env TV:=⟨P,lk [],lk [(98,z5t φ),(75,z1o φ d)],lk [],lk []⟩
theorem zf6(φ d:Nat)(l a):(z1o φ (d+1)).F l a=fnM TV (z48 Tryz.prog φ d) φ Tryz.f75 56 27 [.val 0,.val 0,.val 0,.cmp 27] (z1n φ d) l a:=by kernel_rfl
theorem zf5(φ d:Nat):fnMO TV (z48 Tryz.prog φ d) φ Tryz.f75 56 27 (z1n φ d):=by
 unfold fnMO;show obl _ _ _ _ _ _ _ _;unfold z1n
 repeat' (first|exact trivial |(refine⟨?_,?_⟩) |(intro _)|kernel_rfl)
theorem z7q[Dr](φ:Nat):∀d,zg0 TV Tryz.prog 75 (z1o φ d)
 |0=>λl a l2 sv h=>absurd (show (none:Option (List (TT 27)))=some l2 from h) (λq=>by cases q)
 |d+1=>zaq (N:=z48 Tryz.prog φ d) (zd trivial ⟨(zgn φ),(z7q φ d),trivial⟩ trivial trivial) (z1n φ d) Tryz.func75 (by kernel_rfl) (zf6 φ d) (zf5 φ d)
def z2i(φ:Nat):H TV (List (TT 27)):=(.seq .x (.seq .x (.seq (.body (.loop ⟨[(63,[(0,.own 0),(1,.val 0),(2,.cmp 27),(6,.val 0),(7,.val 0),(8,.val 0)]),(1,[(0,.own 0)])],[.row 56 27]⟩ (λn=>kk6 (z43 φ n)) (λzk10=>.x))) (.seq .x (.body (.loop ⟨[(63,[(0,.own 0),(1,.val 0),(2,.cmp 27),(6,.val 0)]),(1,[(0,.own 0)])],[.row 56 27]⟩ (λn=>kk4 (z44 φ n)) (λzk17=>(.seq .x (.body (.seq .x (.seq (.body (.loop ⟨[(63,[(0,.own 0),(1,.val 0),(2,.cmp 27),(6,.val 0),(7,.val 0),(8,.val 0)]),(1,[(0,.own 0)])],[.row 56 27]⟩ (λn z=>z45 φ (λa0 a1 a2 a3=>zk17 (a0,a1,a2,a3,())) n z.1 z.2.1 z.2.2.1 z.2.2.2.1 z.2.2.2.2.1 z.2.2.2.2.2.1) (λzk24=>.x))) .x)))))))))))
def z5w(P:Program)(φ:Nat):Env TV:=⟨P,lk [],lk [(74,z1s φ),(75,z1o φ φ)],lk [],lk []⟩
theorem zgv(φ:Nat)(l a):(z5x φ).F l a=fnM TV (z5w Tryz.prog φ) φ Tryz.f57 56 27 [.val 0,.cmp 27] (z2i φ) l a:=by kernel_rfl
theorem zgu(φ:Nat):fnMO TV (z5w Tryz.prog φ) φ Tryz.f57 56 27 (z2i φ):=by
 unfold fnMO;show obl _ _ _ _ _ _ _ _;unfold z2i
 repeat' (first|exact trivial |(refine⟨?_,?_⟩) |(intro _)|kernel_rfl)
theorem zgt[Dr](φ:Nat):zg0 TV Tryz.prog 57 (z5x φ):=zaq (N:=z5w Tryz.prog φ) (zd trivial ⟨(zan φ),(z7q φ φ),trivial⟩ trivial trivial) (z2i φ) Tryz.func57 (by kernel_rfl) (zgv φ) (zgu φ)
def z1u(φ:Nat):H TV (List (TT 27)):=.x
def z4e(P:Program)(φ:Nat):Env TV:=⟨P,lk [],lk [(57,z5x φ)],lk [],lk []⟩
theorem zfg(φ:Nat)(l a):(z4f φ).F l a=fnM TV (z4e Tryz.prog φ) φ Tryz.f37 56 27 [.cmp 27] (z1u φ) l a:=by kernel_rfl
theorem zff(φ:Nat):fnMO TV (z4e Tryz.prog φ) φ Tryz.f37 56 27 (z1u φ):=by
 unfold fnMO;show obl _ _ _ _ _ _ _ _;unfold z1u
 repeat' (first|exact trivial |(refine⟨?_,?_⟩) |(intro _)|kernel_rfl)
theorem zfe[Dr](φ:Nat):zg0 TV Tryz.prog 37 (z4f φ):=zaq (N:=z4e Tryz.prog φ) (zd trivial ⟨(zgt φ),trivial⟩ trivial trivial) (z1u φ) Tryz.func37 (by kernel_rfl) (zfg φ) (zff φ)
def z63(φ:Nat):H TV (RTup TT [.val 44]):=(.seq .x (.seq .x (.seq .x (.seq (.seq .x (.body (.loop ⟨[(59,[(1,.val 36),(2,.ptr 0 0),(5,.own 1),(17,.val 38),(18,.val 0),(19,.val 0)])],[.box 36 [.val 26],.map 0 29 0]⟩ (λn=>kk6 (z03 φ n)) (λzk11=>.x)))) (.seq .x (.seq (.seq .x (.body (.loop ⟨[(59,[(1,.val 36),(5,.own 0),(8,.own 1),(37,.own 2),(38,.val 0),(39,.val 0)])],[.map 0 29 0,.row 56 27,.row 3 0]⟩ (λn=>kk6 (zo φ n)) (λzk21=>.x)))) .x))))))
def z8c(P:Program)(φ:Nat):Env TV:=⟨P,lk [(34,z3q φ),(26,z8y φ),(36,z9n φ),(35,zbd φ),(31,z4n φ)],lk [(37,z4f φ)],lk [],lk []⟩
theorem zmw(φ:Nat)(a):(z64 φ).F a=fnX TV (z8c Tryz.prog φ) φ Tryz.f14 [26,36] [.val 44] (z63 φ) a:=by kernel_rfl
theorem zmv(φ:Nat):fnO TV (z8c Tryz.prog φ) φ Tryz.f14 [.val 44] (z63 φ):=by
 unfold fnO;show obl _ _ _ _ _ _ _ _;unfold z63
 repeat' (first|exact trivial |(refine⟨?_,?_⟩) |(intro _)|kernel_rfl)
theorem zcr[Dr](φ:Nat):zq TV Tryz.prog 14 (z64 φ):=zu (N:=z8c Tryz.prog φ) (zd ⟨z7x φ,zjm φ,zkw φ,zr9 φ,z8s φ,trivial⟩ ⟨(zfe φ),trivial⟩ trivial trivial) (z63 φ) Tryz.func14 (by kernel_rfl) (zmw φ) (zmv φ)
def z92(φ:Nat):H TV (RTup TT [.val 29]):=(.seq .x (.seq .x (.seq (.seq .x (.body (.loop ⟨[(26,[(0,.val 44),(1,.val 44),(5,.val 0)])],[]⟩ (λn=>kk3 (z3r φ n)) (λzk6=>.x)))) .x)))
def zch(P:Program)(φ:Nat):Env TV:=⟨P,lk [],lk [],lk [],lk []⟩
theorem zsn(φ:Nat)(a):(z93 φ).F a=fnX TV (zch Tryz.prog φ) φ Tryz.f13 [44,44] [.val 29] (z92 φ) a:=by kernel_rfl
theorem zsm(φ:Nat):fnO TV (zch Tryz.prog φ) φ Tryz.f13 [.val 29] (z92 φ):=by
 unfold fnO;show obl _ _ _ _ _ _ _ _;unfold z92
 repeat' (first|exact trivial |(refine⟨?_,?_⟩) |(intro _)|kernel_rfl)
theorem zjp[Dr](φ:Nat):zq TV Tryz.prog 13 (z93 φ):=zu (N:=zch Tryz.prog φ) (zd trivial trivial trivial trivial) (z92 φ) Tryz.func13 (by kernel_rfl) (zsn φ) (zsm φ)
def zfo(φ:Nat):H TV (RTup TT [.val 29]):=.x
def zkz(P:Program)(φ:Nat):Env TV:=⟨P,lk [(17,zec φ),(18,zea φ),(19,zee φ),(11,z6s φ),(6,z8q φ),(8,zd1 φ),(10,z53 φ),(16,zfx φ),(14,z64 φ),(13,z93 φ)],lk [],lk [],lk []⟩
theorem y2i(φ:Nat)(a):(zl0 φ).F a=fnX TV (zkz Tryz.prog φ) φ Tryz.f4 [] [.val 29] (zfo φ) a:=by kernel_rfl
theorem y2h(φ:Nat):fnO TV (zkz Tryz.prog φ) φ Tryz.f4 [.val 29] (zfo φ):=by
 unfold fnO;show obl _ _ _ _ _ _ _ _;unfold zfo
 repeat' (first|exact trivial |(refine⟨?_,?_⟩) |(intro _)|kernel_rfl)
theorem y2g[Dr](φ:Nat):zq TV Tryz.prog 4 (zl0 φ):=zu (N:=zkz Tryz.prog φ) (zd ⟨zu4 φ,zu1 φ,zu7 φ,zc9 φ,zjj φ,zoq φ,zby φ,zrs φ,zcr φ,zjp φ,trivial⟩ trivial trivial trivial) (zfo φ) Tryz.func4 (by kernel_rfl) (y2i φ) (y2h φ)
def z84(φ:Nat):H TV (RTup TT [.val 29]):=(.seq .x (.seq .x (.seq (.seq .x (.body (.loop ⟨[(65,[(1,.ptr 0 0),(3,.val 0)])],[.box 36 [.val 26]]⟩ (λn=>kk2 (z2t φ n)) (λzk4=>.x)))) .x)))
def zb8(P:Program)(φ:Nat):Env TV:=⟨P,lk [],lk [],lk [],lk []⟩
theorem zqw(φ:Nat)(a):(zb9 φ).F a=fnX TV (zb8 Tryz.prog φ) φ Tryz.f20 [26] [.val 29] (z84 φ) a:=by kernel_rfl
theorem zqv(φ:Nat):fnO TV (zb8 Tryz.prog φ) φ Tryz.f20 [.val 29] (z84 φ):=by
 unfold fnO;show obl _ _ _ _ _ _ _ _;unfold z84
 repeat' (first|exact trivial |(refine⟨?_,?_⟩) |(intro _)|kernel_rfl)
theorem zqu[Dr](φ:Nat):zq TV Tryz.prog 20 (zb9 φ):=zu (N:=zb8 Tryz.prog φ) (zd trivial trivial trivial trivial) (z84 φ) Tryz.func20 (by kernel_rfl) (zqw φ) (zqv φ)
def z7f(φ:Nat):H TV (RTup TT [.val 29]):=(.seq .x (.seq .x (.seq (.seq .x (.body (.loop ⟨[(34,[(0,.val 36),(5,.val 0)])],[]⟩ (λn=>kk2 (z24 φ n)) (λzk5=>.x)))) .x)))
def za9(P:Program)(φ:Nat):Env TV:=⟨P,lk [],lk [],lk [],lk []⟩
theorem zpf(φ:Nat)(a):(zaa φ).F a=fnX TV (za9 Tryz.prog φ) φ Tryz.f21 [36,0] [.val 29] (z7f φ) a:=by kernel_rfl
theorem zpe(φ:Nat):fnO TV (za9 Tryz.prog φ) φ Tryz.f21 [.val 29] (z7f φ):=by
 unfold fnO;show obl _ _ _ _ _ _ _ _;unfold z7f
 repeat' (first|exact trivial |(refine⟨?_,?_⟩) |(intro _)|kernel_rfl)
theorem zpd[Dr](φ:Nat):zq TV Tryz.prog 21 (zaa φ):=zu (N:=za9 Tryz.prog φ) (zd trivial trivial trivial trivial) (z7f φ) Tryz.func21 (by kernel_rfl) (zpf φ) (zpe φ)
def zhy(φ:Nat):H TV (RTup TT [.val 29]):=.x
def znl(P:Program)(φ:Nat):Env TV:=⟨P,lk [(20,zb9 φ),(21,zaa φ)],lk [],lk [],lk []⟩
theorem y5b(φ:Nat)(a):(znm φ).F a=fnX TV (znl Tryz.prog φ) φ Tryz.f5 [26,36] [.val 29] (zhy φ) a:=by kernel_rfl
theorem y5a(φ:Nat):fnO TV (znl Tryz.prog φ) φ Tryz.f5 [.val 29] (zhy φ):=by
 unfold fnO;show obl _ _ _ _ _ _ _ _;unfold zhy
 repeat' (first|exact trivial |(refine⟨?_,?_⟩) |(intro _)|kernel_rfl)
theorem y59[Dr](φ:Nat):zq TV Tryz.prog 5 (znm φ):=zu (N:=znl Tryz.prog φ) (zd ⟨zqu φ,zpd φ,trivial⟩ trivial trivial trivial) (zhy φ) Tryz.func5 (by kernel_rfl) (y5b φ) (y5a φ)
def za3(φ:Nat):H TV (RTup TT [.val 29]):=.x
def zeq(P:Program)(φ:Nat):Env TV:=⟨P,lk [],lk [],lk [],lk []⟩
theorem zuw(φ:Nat)(a):(za4 φ).F a=fnX TV (zeq Tryz.prog φ) φ Tryz.f99 [0,0,0] [.val 29] (za3 φ) a:=by kernel_rfl
theorem zuv(φ:Nat):fnO TV (zeq Tryz.prog φ) φ Tryz.f99 [.val 29] (za3 φ):=by
 unfold fnO;show obl _ _ _ _ _ _ _ _;unfold za3
 repeat' (first|exact trivial |(refine⟨?_,?_⟩) |(intro _)|kernel_rfl)
theorem zl7[Dr](φ:Nat):zq TV Tryz.prog 99 (za4 φ):=zu (N:=zeq Tryz.prog φ) (zd trivial trivial trivial trivial) (za3 φ) Tryz.func99 (by kernel_rfl) (zuw φ) (zuv φ)
def zd9(φ:Nat):H TV (RTup TT [.val 29]):=.x
def zid(P:Program)(φ:Nat):Env TV:=⟨P,lk [(99,za4 φ)],lk [],lk [],lk []⟩
theorem zyq(φ:Nat)(a):(zie φ).F a=fnX TV (zid Tryz.prog φ) φ Tryz.f76 [1] [.val 29] (zd9 φ) a:=by kernel_rfl
theorem zyp(φ:Nat):fnO TV (zid Tryz.prog φ) φ Tryz.f76 [.val 29] (zd9 φ):=by
 unfold fnO;show obl _ _ _ _ _ _ _ _;unfold zd9
 repeat' (first|exact trivial |(refine⟨?_,?_⟩) |(intro _)|kernel_rfl)
theorem zyo[Dr](φ:Nat):zq TV Tryz.prog 76 (zie φ):=zu (N:=zid Tryz.prog φ) (zd ⟨zl7 φ,trivial⟩ trivial trivial trivial) (zd9 φ) Tryz.func76 (by kernel_rfl) (zyq φ) (zyp φ)
def zfq(φ:Nat):H TV (RTup TT [.val 29]):=.x
def zl8(P:Program)(φ:Nat):Env TV:=⟨P,lk [(99,za4 φ)],lk [],lk [],lk []⟩
theorem y2v(φ:Nat)(a):(zl9 φ).F a=fnX TV (zl8 Tryz.prog φ) φ Tryz.f77 [3,0] [.val 29] (zfq φ) a:=by kernel_rfl
theorem y2u(φ:Nat):fnO TV (zl8 Tryz.prog φ) φ Tryz.f77 [.val 29] (zfq φ):=by
 unfold fnO;show obl _ _ _ _ _ _ _ _;unfold zfq
 repeat' (first|exact trivial |(refine⟨?_,?_⟩) |(intro _)|kernel_rfl)
theorem y2t[Dr](φ:Nat):zq TV Tryz.prog 77 (zl9 φ):=zu (N:=zl8 Tryz.prog φ) (zd ⟨zl7 φ,trivial⟩ trivial trivial trivial) (zfq φ) Tryz.func77 (by kernel_rfl) (y2v φ) (y2u φ)
def zd8(φ:Nat):H TV (RTup TT [.val 0]):=(.seq .x (.seq .x (.seq (.seq .x (.body (.loop ⟨[(46,[(1,.ptr 0 0),(3,.val 0)])],[.box 25 [.val 5]]⟩ (λn=>kk2 (z6w φ n)) (λzk4=>.x)))) (.seq (.seq .x (.body (.loop ⟨[(46,[(1,.ptr 0 0),(4,.val 0)])],[.box 25 [.val 5]]⟩ (λn=>kk2 (z5i φ n)) (λzk8=>.x)))) .x))))
def zia(P:Program)(φ:Nat):Env TV:=⟨P,lk [(76,zie φ),(77,zl9 φ)],lk [],lk [],lk []⟩
theorem zym(φ:Nat)(a):(zib φ).F a=fnX TV (zia Tryz.prog φ) φ Tryz.f58 [5] [.val 0] (zd8 φ) a:=by kernel_rfl
theorem zyl(φ:Nat):fnO TV (zia Tryz.prog φ) φ Tryz.f58 [.val 0] (zd8 φ):=by
 unfold fnO;show obl _ _ _ _ _ _ _ _;unfold zd8
 repeat' (first|exact trivial |(refine⟨?_,?_⟩) |(intro _)|kernel_rfl)
theorem zyk[Dr](φ:Nat):zq TV Tryz.prog 58 (zib φ):=zu (N:=zia Tryz.prog φ) (zd ⟨zyo φ,y2t φ,trivial⟩ trivial trivial trivial) (zd8 φ) Tryz.func58 (by kernel_rfl) (zym φ) (zyl φ)
def zbi(φ:Nat):H TV (RTup TT [.val 29]):=.x
def zgc(P:Program)(φ:Nat):Env TV:=⟨P,lk [],lk [],lk [],lk []⟩
theorem zvy(φ:Nat)(a):(z5n φ).F a=fnX TV (zgc Tryz.prog φ) φ Tryz.f80 [0,0,0] [.val 29] (zbi φ) a:=by kernel_rfl
theorem zvx(φ:Nat):fnO TV (zgc Tryz.prog φ) φ Tryz.f80 [.val 29] (zbi φ):=by
 unfold fnO;show obl _ _ _ _ _ _ _ _;unfold zbi
 repeat' (first|exact trivial |(refine⟨?_,?_⟩) |(intro _)|kernel_rfl)
theorem z8m[Dr](φ:Nat):zq TV Tryz.prog 80 (z5n φ):=zu (N:=zgc Tryz.prog φ) (zd trivial trivial trivial trivial) (zbi φ) Tryz.func80 (by kernel_rfl) (zvy φ) (zvx φ)
def z82(φ:Nat):H TV (RTup TT [.val 29]):=.x
def zb3(P:Program)(φ:Nat):Env TV:=⟨P,lk [(80,z5n φ)],lk [],lk [],lk []⟩
theorem zqn(φ:Nat)(a):(zb4 φ).F a=fnX TV (zb3 Tryz.prog φ) φ Tryz.f78 [7] [.val 29] (z82 φ) a:=by kernel_rfl
theorem zqm(φ:Nat):fnO TV (zb3 Tryz.prog φ) φ Tryz.f78 [.val 29] (z82 φ):=by
 unfold fnO;show obl _ _ _ _ _ _ _ _;unfold z82
 repeat' (first|exact trivial |(refine⟨?_,?_⟩) |(intro _)|kernel_rfl)
theorem zql[Dr](φ:Nat):zq TV Tryz.prog 78 (zb4 φ):=zu (N:=zb3 Tryz.prog φ) (zd ⟨z8m φ,trivial⟩ trivial trivial trivial) (z82 φ) Tryz.func78 (by kernel_rfl) (zqn φ) (zqm φ)
def z7e(φ:Nat):H TV (RTup TT [.val 29]):=.x
def za5(P:Program)(φ:Nat):Env TV:=⟨P,lk [(80,z5n φ)],lk [],lk [],lk []⟩
theorem zpb(φ:Nat)(a):(za6 φ).F a=fnX TV (za5 Tryz.prog φ) φ Tryz.f79 [9,0] [.val 29] (z7e φ) a:=by kernel_rfl
theorem zpa(φ:Nat):fnO TV (za5 Tryz.prog φ) φ Tryz.f79 [.val 29] (z7e φ):=by
 unfold fnO;show obl _ _ _ _ _ _ _ _;unfold z7e
 repeat' (first|exact trivial |(refine⟨?_,?_⟩) |(intro _)|kernel_rfl)
theorem zp9[Dr](φ:Nat):zq TV Tryz.prog 79 (za6 φ):=zu (N:=za5 Tryz.prog φ) (zd ⟨z8m φ,trivial⟩ trivial trivial trivial) (z7e φ) Tryz.func79 (by kernel_rfl) (zpb φ) (zpa φ)
def zbh(φ:Nat):H TV (RTup TT [.val 0]):=(.seq .x (.seq .x (.seq (.seq .x (.body (.loop ⟨[(57,[(0,.val 14),(3,.own 0),(4,.val 0)])],[.fix 4 29]⟩ (λn=>kk3 (z6b φ n)) (λzk5=>.x)))) .x)))
def zga(P:Program)(φ:Nat):Env TV:=⟨P,lk [(80,z5n φ)],lk [],lk [],lk []⟩
theorem zvw(φ:Nat)(a):(zgb φ).F a=fnX TV (zga Tryz.prog φ) φ Tryz.f81 [14] [.val 0] (zbh φ) a:=by kernel_rfl
theorem zvv(φ:Nat):fnO TV (zga Tryz.prog φ) φ Tryz.f81 [.val 0] (zbh φ):=by
 unfold fnO;show obl _ _ _ _ _ _ _ _;unfold zbh
 repeat' (first|exact trivial |(refine⟨?_,?_⟩) |(intro _)|kernel_rfl)
theorem zvu[Dr](φ:Nat):zq TV Tryz.prog 81 (zgb φ):=zu (N:=zga Tryz.prog φ) (zd ⟨z8m φ,trivial⟩ trivial trivial trivial) (zbh φ) Tryz.func81 (by kernel_rfl) (zvw φ) (zvv φ)
def zda(φ:Nat):H TV (RTup TT [.val 0]):=(.seq .x (.seq .x (.seq (.seq .x (.body (.loop ⟨[(106,[(1,.ptr 0 0),(3,.val 0)])],[.box 31 [.val 15]]⟩ (λn=>kk2 (z6x φ n)) (λzk4=>.x)))) (.seq (.seq .x (.body (.loop ⟨[(106,[(1,.ptr 0 0),(4,.val 0)])],[.box 31 [.val 15]]⟩ (λn=>kk2 (z5j φ n)) (λzk8=>.x)))) (.seq (.seq .x (.body (.loop ⟨[(106,[(1,.ptr 0 0),(5,.val 0)])],[.box 31 [.val 15]]⟩ (λn=>kk2 (z3u φ n)) (λzk12=>.x)))) .x)))))
def zig(P:Program)(φ:Nat):Env TV:=⟨P,lk [(78,zb4 φ),(79,za6 φ),(80,z5n φ),(81,zgb φ)],lk [],lk [],lk []⟩
theorem zyt(φ:Nat)(a):(zih φ).F a=fnX TV (zig Tryz.prog φ) φ Tryz.f59 [15] [.val 0] (zda φ) a:=by kernel_rfl
theorem zys(φ:Nat):fnO TV (zig Tryz.prog φ) φ Tryz.f59 [.val 0] (zda φ):=by
 unfold fnO;show obl _ _ _ _ _ _ _ _;unfold zda
 repeat' (first|exact trivial |(refine⟨?_,?_⟩) |(intro _)|kernel_rfl)
theorem zyr[Dr](φ:Nat):zq TV Tryz.prog 59 (zih φ):=zu (N:=zig Tryz.prog φ) (zd ⟨zql φ,zp9 φ,z8m φ,zvu φ,trivial⟩ trivial trivial trivial) (zda φ) Tryz.func59 (by kernel_rfl) (zyt φ) (zys φ)
def zfr(φ:Nat):H TV (RTup TT [.val 29]):=(.seq .x (.seq .x (.seq (.seq .x (.body (.loop ⟨[(96,[(1,.ptr 0 0),(3,.val 0),(4,.val 0)])],[.box 36 [.val 26]]⟩ (λn=>kk3 (z81 φ n)) (λzk5=>.x)))) (.seq (.seq .x (.body (.loop ⟨[(96,[(1,.ptr 0 0),(3,.val 0),(6,.val 0)])],[.box 36 [.val 26]]⟩ (λn=>kk3 (z5k φ n)) (λzk10=>.x)))) (.seq (.seq .x (.body (.loop ⟨[(96,[(1,.ptr 0 0),(3,.val 0),(7,.val 0)])],[.box 36 [.val 26]]⟩ (λn=>kk3 (z5l φ n)) (λzk15=>.x)))) .x)))))
def zla(P:Program)(φ:Nat):Env TV:=⟨P,lk [(80,z5n φ)],lk [],lk [],lk []⟩
theorem y2y(φ:Nat)(a):(zlb φ).F a=fnX TV (zla Tryz.prog φ) φ Tryz.f60 [26] [.val 29] (zfr φ) a:=by kernel_rfl
theorem y2x(φ:Nat):fnO TV (zla Tryz.prog φ) φ Tryz.f60 [.val 29] (zfr φ):=by
 unfold fnO;show obl _ _ _ _ _ _ _ _;unfold zfr
 repeat' (first|exact trivial |(refine⟨?_,?_⟩) |(intro _)|kernel_rfl)
theorem y2w[Dr](φ:Nat):zq TV Tryz.prog 60 (zlb φ):=zu (N:=zla Tryz.prog φ) (zd ⟨z8m φ,trivial⟩ trivial trivial trivial) (zfr φ) Tryz.func60 (by kernel_rfl) (y2y φ) (y2x φ)
def zdb(φ:Nat):H TV (RTup TT [.val 29]):=(.seq .x (.seq .x (.seq (.seq .x (.body (.loop ⟨[(51,[(1,.ptr 0 0),(3,.val 0),(4,.val 0)])],[.box 36 [.val 26]]⟩ (λn=>kk3 (z6y φ n)) (λzk5=>.x)))) (.seq (.seq .x (.body (.loop ⟨[(51,[(1,.ptr 0 0),(3,.val 0),(6,.val 0)])],[.box 36 [.val 26]]⟩ (λn=>kk3 (z5m φ n)) (λzk9=>.x)))) .x))))
def zij(P:Program)(φ:Nat):Env TV:=⟨P,lk [],lk [],lk [],lk []⟩
theorem zyx(φ:Nat)(a):(zik φ).F a=fnX TV (zij Tryz.prog φ) φ Tryz.f61 [26] [.val 29] (zdb φ) a:=by kernel_rfl
theorem zyw(φ:Nat):fnO TV (zij Tryz.prog φ) φ Tryz.f61 [.val 29] (zdb φ):=by
 unfold fnO;show obl _ _ _ _ _ _ _ _;unfold zdb
 repeat' (first|exact trivial |(refine⟨?_,?_⟩) |(intro _)|kernel_rfl)
theorem zyv[Dr](φ:Nat):zq TV Tryz.prog 61 (zik φ):=zu (N:=zij Tryz.prog φ) (zd trivial trivial trivial trivial) (zdb φ) Tryz.func61 (by kernel_rfl) (zyx φ) (zyw φ)
def zd7(φ:Nat):H TV (RTup TT [.val 0]):=(.seq .x (.seq (.seq .x (.body (.loop ⟨[(62,[(1,.ptr 0 0),(3,.val 0)])],[.box 99 [.val 23]]⟩ (λn=>kk2 (z6u φ n)) (λzk4=>.x)))) (.seq (.seq .x (.body (.loop ⟨[(62,[(1,.ptr 0 0),(5,.val 0)])],[.box 99 [.val 23]]⟩ (λn=>kk2 (z6v φ n)) (λzk7=>.x)))) .x)))
def zi7(P:Program)(φ:Nat):Env TV:=⟨P,lk [],lk [],lk [],lk []⟩
theorem zyj(φ:Nat)(a):(zi8 φ).F a=fnX TV (zi7 Tryz.prog φ) φ Tryz.f62 [23] [.val 0] (zd7 φ) a:=by kernel_rfl
theorem zyi(φ:Nat):fnO TV (zi7 Tryz.prog φ) φ Tryz.f62 [.val 0] (zd7 φ):=by
 unfold fnO;show obl _ _ _ _ _ _ _ _;unfold zd7
 repeat' (first|exact trivial |(refine⟨?_,?_⟩) |(intro _)|kernel_rfl)
theorem zyh[Dr](φ:Nat):zq TV Tryz.prog 62 (zi8 φ):=zu (N:=zi7 Tryz.prog φ) (zd trivial trivial trivial trivial) (zd7 φ) Tryz.func62 (by kernel_rfl) (zyj φ) (zyi φ)
def zd5(φ:Nat):H TV (RTup TT [.val 6]):=(.seq .x (.seq .x (.seq (.body (.loop ⟨[(26,[(0,.val 6),(1,.val 6),(2,.val 6),(7,.val 6)])],[]⟩ (λn=>kk4 (z3m φ n)) (λzk8=>(.seq .x (.seq (.body (.seq (.join ⟨[(26,[(0,.val 6),(1,.val 6),(2,.val 6),(7,.val 6)])],[]⟩ (λz=>za2 φ (λa0 a1 a2 a3=>zk8 (a0,a1,a2,a3,())) z.1 z.2.1 z.2.2.1 z.2.2.2.1) (.seq .x .x)) .x)) .x))))) .x)))
def zi1(P:Program)(φ:Nat):Env TV:=⟨P,lk [],lk [],lk [],lk []⟩
theorem zyd(φ:Nat)(a):(zi2 φ).F a=fnX TV (zi1 Tryz.prog φ) φ Tryz.f100 [6,6,6] [.val 6] (zd5 φ) a:=by kernel_rfl
theorem zyc(φ:Nat):fnO TV (zi1 Tryz.prog φ) φ Tryz.f100 [.val 6] (zd5 φ):=by
 unfold fnO;show obl _ _ _ _ _ _ _ _;unfold zd5
 repeat' (first|exact trivial |(refine⟨?_,?_⟩) |(intro _)|kernel_rfl)
theorem zyb[Dr](φ:Nat):zq TV Tryz.prog 100 (zi2 φ):=zu (N:=zi1 Tryz.prog φ) (zd trivial trivial trivial trivial) (zd5 φ) Tryz.func100 (by kernel_rfl) (zyd φ) (zyc φ)
def zi0(φ:Nat):H TV (RTup TT [.val 6]):=(.seq .x (.seq .x (.seq (.seq .x (.body (.loop ⟨[(22,[(0,.val 6),(1,.val 6),(5,.val 6)])],[]⟩ (λn=>kk3 (z6l φ n)) (λzk6=>(.seq .x (.seq (.body (.seq (.join ⟨[(22,[(0,.val 6),(1,.val 6),(5,.val 6)])],[]⟩ (λz=>zd4 φ (λa0 a1 a2=>zk6 (a0,a1,a2,())) z.1 z.2.1 z.2.2.1) (.seq .x .x)) .x)) .x)))))) .x)))
def znr(P:Program)(φ:Nat):Env TV:=⟨P,lk [(100,zi2 φ)],lk [],lk [],lk []⟩
theorem y5t(φ:Nat)(a):(zns φ).F a=fnX TV (znr Tryz.prog φ) φ Tryz.f82 [6,6] [.val 6] (zi0 φ) a:=by kernel_rfl
theorem y5s(φ:Nat):fnO TV (znr Tryz.prog φ) φ Tryz.f82 [.val 6] (zi0 φ):=by
 unfold fnO;show obl _ _ _ _ _ _ _ _;unfold zi0
 repeat' (first|exact trivial |(refine⟨?_,?_⟩) |(intro _)|kernel_rfl)
theorem y5r[Dr](φ:Nat):zq TV Tryz.prog 82 (zns φ):=zu (N:=znr Tryz.prog φ) (zd ⟨zyb φ,trivial⟩ trivial trivial trivial) (zi0 φ) Tryz.func82 (by kernel_rfl) (y5t φ) (y5s φ)
def zd6(φ:Nat):H TV (RTup TT [.val 29]):=.x
def zi4(P:Program)(φ:Nat):Env TV:=⟨P,lk [(82,zns φ)],lk [],lk [],lk []⟩
theorem zyg(φ:Nat)(a):(zi5 φ).F a=fnX TV (zi4 Tryz.prog φ) φ Tryz.f63 [6] [.val 29] (zd6 φ) a:=by kernel_rfl
theorem zyf(φ:Nat):fnO TV (zi4 Tryz.prog φ) φ Tryz.f63 [.val 29] (zd6 φ):=by
 unfold fnO;show obl _ _ _ _ _ _ _ _;unfold zd6
 repeat' (first|exact trivial |(refine⟨?_,?_⟩) |(intro _)|kernel_rfl)
theorem zye[Dr](φ:Nat):zq TV Tryz.prog 63 (zi5 φ):=zu (N:=zi4 Tryz.prog φ) (zd ⟨y5r φ,trivial⟩ trivial trivial trivial) (zd6 φ) Tryz.func63 (by kernel_rfl) (zyg φ) (zyf φ)
def z80(φ:Nat):H TV (RTup TT [.val 0]):=(.seq .x (.seq .x (.seq .x (.seq .x (.seq .x (.seq .x (.seq .x (.seq (.seq .x (.body (.loop ⟨[(70,[(1,.ptr 0 0),(4,.val 0)])],[.box 36 [.val 26]]⟩ (λn=>kk2 (z1f φ n)) (λzk8=>.x)))) .x))))))))
def zb1(P:Program)(φ:Nat):Env TV:=⟨P,lk [(58,zib φ),(59,zih φ),(60,zlb φ),(61,zik φ),(62,zi8 φ),(63,zi5 φ)],lk [],lk [],lk []⟩
theorem zqk(φ:Nat)(a):(z6a φ).F a=fnX TV (zb1 Tryz.prog φ) φ Tryz.f38 [26] [.val 0] (z80 φ) a:=by kernel_rfl
theorem zqj(φ:Nat):fnO TV (zb1 Tryz.prog φ) φ Tryz.f38 [.val 0] (z80 φ):=by
 unfold fnO;show obl _ _ _ _ _ _ _ _;unfold z80
 repeat' (first|exact trivial |(refine⟨?_,?_⟩) |(intro _)|kernel_rfl)
theorem zb2[Dr](φ:Nat):zq TV Tryz.prog 38 (z6a φ):=zu (N:=zb1 Tryz.prog φ) (zd ⟨zyk φ,zyr φ,y2w φ,zyv φ,zyh φ,zye φ,trivial⟩ trivial trivial trivial) (z80 φ) Tryz.func38 (by kernel_rfl) (zqk φ) (zqj φ)
def zds(φ:Nat):H TV (RTup TT [.val 0]):=.x
def zj6(P:Program)(φ:Nat):Env TV:=⟨P,lk [(38,z6a φ)],lk [],lk [],lk []⟩
theorem zzq(φ:Nat)(a):(zdt φ).F a=fnX TV (zj6 Tryz.prog φ) φ Tryz.f24 [26,0,0] [.val 0] (zds φ) a:=by kernel_rfl
theorem zzp(φ:Nat):fnO TV (zj6 Tryz.prog φ) φ Tryz.f24 [.val 0] (zds φ):=by
 unfold fnO;show obl _ _ _ _ _ _ _ _;unfold zds
 repeat' (first|exact trivial |(refine⟨?_,?_⟩) |(intro _)|kernel_rfl)
theorem zph[Dr](φ:Nat):zq TV Tryz.prog 24 (zdt φ):=zu (N:=zj6 Tryz.prog φ) (zd ⟨zb2 φ,trivial⟩ trivial trivial trivial) (zds φ) Tryz.func24 (by kernel_rfl) (zzq φ) (zzp φ)
def zfs(φ:Nat):H TV (RTup TT [.val 28]):=(.seq .x (.seq (.seq .x (.body (.seq .x (.cond .x (.seq .x (.cond .x (.seq (.join ⟨[(30,[(3,.val 0),(8,.val 29)])],[]⟩ (kk2 (zdf φ)) (.seq .x .x)) (.cond .x (.seq .x (.cond .x (.seq .x (.cond .x (.seq .x (.cond .x (.seq .x (.cond .x (.seq .x (.cond .x (.seq .x (.cond .x (.seq (.join ⟨[(30,[(3,.val 0),(23,.val 29)])],[]⟩ (kk2 (zdg φ)) (.seq .x .x)) .x))))))))))))))))))))) .x))
def zlc(P:Program)(φ:Nat):Env TV:=⟨P,lk [],lk [],lk [],lk []⟩
theorem y38(φ:Nat)(a):(zld φ).F a=fnX TV (zlc Tryz.prog φ) φ Tryz.f83 [0] [.val 28] (zfs φ) a:=by kernel_rfl
theorem y37(φ:Nat):fnO TV (zlc Tryz.prog φ) φ Tryz.f83 [.val 28] (zfs φ):=by
 unfold fnO;show obl _ _ _ _ _ _ _ _;unfold zfs
 repeat' (first|exact trivial |(refine⟨?_,?_⟩) |(intro _)|kernel_rfl)
theorem y2z[Dr](φ:Nat):zq TV Tryz.prog 83 (zld φ):=zu (N:=zlc Tryz.prog φ) (zd trivial trivial trivial trivial) (zfs φ) Tryz.func83 (by kernel_rfl) (y38 φ) (y37 φ)
def za7(φ:Nat):H TV (RTup TT [.val 29]):=.x
def zeu(P:Program)(φ:Nat):Env TV:=⟨P,lk [],lk [],lk [],lk []⟩
theorem zuz(φ:Nat)(a):(z0i φ).F a=fnX TV (zeu Tryz.prog φ) φ Tryz.f84 [0,0,0] [.val 29] (za7 φ) a:=by kernel_rfl
theorem zuy(φ:Nat):fnO TV (zeu Tryz.prog φ) φ Tryz.f84 [.val 29] (za7 φ):=by
 unfold fnO;show obl _ _ _ _ _ _ _ _;unfold za7
 repeat' (first|exact trivial |(refine⟨?_,?_⟩) |(intro _)|kernel_rfl)
theorem z2n[Dr](φ:Nat):zq TV Tryz.prog 84 (z0i φ):=zu (N:=zeu Tryz.prog φ) (zd trivial trivial trivial trivial) (za7 φ) Tryz.func84 (by kernel_rfl) (zuz φ) (zuy φ)
def z83(φ:Nat):H TV (RTup TT [.val 29]):=.x
def zb6(P:Program)(φ:Nat):Env TV:=⟨P,lk [(84,z0i φ)],lk [],lk [],lk []⟩
theorem zqt(φ:Nat)(a):(zb7 φ).F a=fnX TV (zb6 Tryz.prog φ) φ Tryz.f85 [32] [.val 29] (z83 φ) a:=by kernel_rfl
theorem zqs(φ:Nat):fnO TV (zb6 Tryz.prog φ) φ Tryz.f85 [.val 29] (z83 φ):=by
 unfold fnO;show obl _ _ _ _ _ _ _ _;unfold z83
 repeat' (first|exact trivial |(refine⟨?_,?_⟩) |(intro _)|kernel_rfl)
theorem zqr[Dr](φ:Nat):zq TV Tryz.prog 85 (zb7 φ):=zu (N:=zb6 Tryz.prog φ) (zd ⟨z2n φ,trivial⟩ trivial trivial trivial) (z83 φ) Tryz.func85 (by kernel_rfl) (zqt φ) (zqs φ)
def zme(φ:Nat):H TV (RTup TT [.val 29]):=(.seq .x (.seq (.seq .x (.body (.loop ⟨[(17,[(0,.val 28),(1,.val 45),(5,.val 0)])],[]⟩ (λn=>kk3 (zet φ n)) (λzk6=>.x)))) .x))
def zqo(P:Program)(φ:Nat):Env TV:=⟨P,lk [],lk [],lk [],lk []⟩
theorem y97(φ:Nat)(a):(zqp φ).F a=fnX TV (zqo Tryz.prog φ) φ Tryz.f86 [28,45] [.val 29] (zme φ) a:=by kernel_rfl
theorem y96(φ:Nat):fnO TV (zqo Tryz.prog φ) φ Tryz.f86 [.val 29] (zme φ):=by
 unfold fnO;show obl _ _ _ _ _ _ _ _;unfold zme
 repeat' (first|exact trivial |(refine⟨?_,?_⟩) |(intro _)|kernel_rfl)
theorem y95[Dr](φ:Nat):zq TV Tryz.prog 86 (zqp φ):=zu (N:=zqo Tryz.prog φ) (zd trivial trivial trivial trivial) (zme φ) Tryz.func86 (by kernel_rfl) (y97 φ) (y96 φ)
def zdk(φ:Nat):H TV (RTup TT [.val 29]):=(.seq .x (.seq .x (.seq .x (.seq (.seq .x (.body (.seq (.join ⟨[(34,[(5,.val 0),(24,.val 0),(25,.val 29)])],[]⟩ (kk3 (zbm φ)) (.seq .x .x)) .x))) .x))))
def ziu(P:Program)(φ:Nat):Env TV:=⟨P,lk [(84,z0i φ)],lk [],lk [],lk []⟩
theorem zzb(φ:Nat)(a):(ziv φ).F a=fnX TV (ziu Tryz.prog φ) φ Tryz.f101 [26,32] [.val 29] (zdk φ) a:=by kernel_rfl
theorem zza(φ:Nat):fnO TV (ziu Tryz.prog φ) φ Tryz.f101 [.val 29] (zdk φ):=by
 unfold fnO;show obl _ _ _ _ _ _ _ _;unfold zdk
 repeat' (first|exact trivial |(refine⟨?_,?_⟩) |(intro _)|kernel_rfl)
theorem zz9[Dr](φ:Nat):zq TV Tryz.prog 101 (ziv φ):=zu (N:=ziu Tryz.prog φ) (zd ⟨z2n φ,trivial⟩ trivial trivial trivial) (zdk φ) Tryz.func101 (by kernel_rfl) (zzb φ) (zza φ)
end Px
end
section
set_option maxHeartbeats 4000000
set_option maxRecDepth 100000
namespace Px
open Go Go.RowKit Go.Proofs
def zdi(φ:Nat):H TV (RTup TT [.val 29]):=(.seq .x (.seq (.seq .x (.body (.seq .x (.cond .x (.seq (.join ⟨[(51,[(2,.ptr 0 0),(3,.ptr 1 0),(7,.val 0),(17,.val 29)])],[.box 36 [.val 26],.box 59 [.val 32]]⟩ (kk4 (zbl φ)) (.seq .x .x)) .x))))) .x))
def zio(P:Program)(φ:Nat):Env TV:=⟨P,lk [(84,z0i φ)],lk [],lk [],lk []⟩
theorem zz5(φ:Nat)(a):(ziq φ).F a=fnX TV (zio Tryz.prog φ) φ Tryz.f102 [26,32] [.val 29] (zdi φ) a:=by kernel_rfl
theorem zz4(φ:Nat):fnO TV (zio Tryz.prog φ) φ Tryz.f102 [.val 29] (zdi φ):=by
 unfold fnO;show obl _ _ _ _ _ _ _ _;unfold zdi
 repeat' (first|exact trivial |(refine⟨?_,?_⟩) |(intro _)|kernel_rfl)
theorem zz3[Dr](φ:Nat):zq TV Tryz.prog 102 (ziq φ):=zu (N:=zio Tryz.prog φ) (zd ⟨z2n φ,trivial⟩ trivial trivial trivial) (zdi φ) Tryz.func102 (by kernel_rfl) (zz5 φ) (zz4 φ)
def zbk(φ:Nat):H TV (RTup TT [.val 29]):=.x
def zgd(P:Program)(φ:Nat):Env TV:=⟨P,lk [(84,z0i φ)],lk [],lk [],lk []⟩
theorem zw1(φ:Nat)(a):(zge φ).F a=fnX TV (zgd Tryz.prog φ) φ Tryz.f103 [26,32] [.val 29] (zbk φ) a:=by kernel_rfl
theorem zw0(φ:Nat):fnO TV (zgd Tryz.prog φ) φ Tryz.f103 [.val 29] (zbk φ):=by
 unfold fnO;show obl _ _ _ _ _ _ _ _;unfold zbk
 repeat' (first|exact trivial |(refine⟨?_,?_⟩) |(intro _)|kernel_rfl)
theorem zvz[Dr](φ:Nat):zq TV Tryz.prog 103 (zge φ):=zu (N:=zgd Tryz.prog φ) (zd ⟨z2n φ,trivial⟩ trivial trivial trivial) (zbk φ) Tryz.func103 (by kernel_rfl) (zw1 φ) (zw0 φ)
def zft(φ:Nat):H TV (RTup TT [.val 29]):=(.seq .x (.seq (.seq .x (.body (.seq (.join ⟨[(24,[(1,.ptr 0 0),(4,.val 0),(5,.val 29)])],[.box 59 [.val 32]]⟩ (kk3 (zdh φ)) (.seq .x .x)) .x))) .x))
def zle(P:Program)(φ:Nat):Env TV:=⟨P,lk [(84,z0i φ)],lk [],lk [],lk []⟩
theorem y3b(φ:Nat)(a):(zlf φ).F a=fnX TV (zle Tryz.prog φ) φ Tryz.f104 [32] [.val 29] (zft φ) a:=by kernel_rfl
theorem y3a(φ:Nat):fnO TV (zle Tryz.prog φ) φ Tryz.f104 [.val 29] (zft φ):=by
 unfold fnO;show obl _ _ _ _ _ _ _ _;unfold zft
 repeat' (first|exact trivial |(refine⟨?_,?_⟩) |(intro _)|kernel_rfl)
theorem y39[Dr](φ:Nat):zq TV Tryz.prog 104 (zlf φ):=zu (N:=zle Tryz.prog φ) (zd ⟨z2n φ,trivial⟩ trivial trivial trivial) (zft φ) Tryz.func104 (by kernel_rfl) (y3b φ) (y3a φ)
def zdl(φ:Nat):H TV (RTup TT [.val 29]):=.x
def ziw(P:Program)(φ:Nat):Env TV:=⟨P,lk [(84,z0i φ),(101,ziv φ),(102,ziq φ),(103,zge φ),(104,zlf φ)],lk [],lk [],lk []⟩
theorem zze(φ:Nat)(a):(zix φ).F a=fnX TV (ziw Tryz.prog φ) φ Tryz.f87 [26,32,45] [.val 29] (zdl φ) a:=by kernel_rfl
theorem zzd(φ:Nat):fnO TV (ziw Tryz.prog φ) φ Tryz.f87 [.val 29] (zdl φ):=by
 unfold fnO;show obl _ _ _ _ _ _ _ _;unfold zdl
 repeat' (first|exact trivial |(refine⟨?_,?_⟩) |(intro _)|kernel_rfl)
theorem zzc[Dr](φ:Nat):zq TV Tryz.prog 87 (zix φ):=zu (N:=ziw Tryz.prog φ) (zd ⟨z2n φ,zz9 φ,zz3 φ,zvz φ,y39 φ,trivial⟩ trivial trivial trivial) (zdl φ) Tryz.func87 (by kernel_rfl) (zze φ) (zzd φ)
def zdc(φ:Nat):H TV (RTup TT [.val 0]):=.x
def zil(P:Program)(φ:Nat):Env TV:=⟨P,lk [],lk [],lk [],lk []⟩
theorem zz0(φ:Nat)(a):(zim φ).F a=fnX TV (zil Tryz.prog φ) φ Tryz.f88 [32,45] [.val 0] (zdc φ) a:=by kernel_rfl
theorem zyz(φ:Nat):fnO TV (zil Tryz.prog φ) φ Tryz.f88 [.val 0] (zdc φ):=by
 unfold fnO;show obl _ _ _ _ _ _ _ _;unfold zdc
 repeat' (first|exact trivial |(refine⟨?_,?_⟩) |(intro _)|kernel_rfl)
theorem zyy[Dr](φ:Nat):zq TV Tryz.prog 88 (zim φ):=zu (N:=zil Tryz.prog φ) (zd trivial trivial trivial trivial) (zdc φ) Tryz.func88 (by kernel_rfl) (zz0 φ) (zyz φ)
def zdj(φ:Nat):H TV (RTup TT [.val 29]):=(.seq .x (.seq .x (.seq (.seq .x (.body (.loop ⟨[(51,[(1,.ptr 0 0),(3,.val 0)])],[.box 59 [.val 32]]⟩ (λn=>kk2 (z6z φ n)) (λzk4=>.x)))) .x)))
def zis(P:Program)(φ:Nat):Env TV:=⟨P,lk [(84,z0i φ)],lk [],lk [],lk []⟩
theorem zz8(φ:Nat)(a):(zit φ).F a=fnX TV (zis Tryz.prog φ) φ Tryz.f89 [32] [.val 29] (zdj φ) a:=by kernel_rfl
theorem zz7(φ:Nat):fnO TV (zis Tryz.prog φ) φ Tryz.f89 [.val 29] (zdj φ):=by
 unfold fnO;show obl _ _ _ _ _ _ _ _;unfold zdj
 repeat' (first|exact trivial |(refine⟨?_,?_⟩) |(intro _)|kernel_rfl)
theorem zz6[Dr](φ:Nat):zq TV Tryz.prog 89 (zit φ):=zu (N:=zis Tryz.prog φ) (zd ⟨z2n φ,trivial⟩ trivial trivial trivial) (zdj φ) Tryz.func89 (by kernel_rfl) (zz8 φ) (zz7 φ)
def zdd(φ:Nat):H TV (RTup TT [.val 29]):=(.seq .x (.seq .x (.seq .x (.seq (.seq .x (.body (.loop ⟨[(77,[(2,.ptr 0 0),(3,.ptr 1 0),(5,.val 28),(6,.val 0)])],[.box 36 [.val 26],.box 59 [.val 32]]⟩ (λn=>kk4 (z3v φ n)) (λzk10=>.x)))) .x))))
def zin(P:Program)(φ:Nat):Env TV:=⟨P,lk [(83,zld φ),(84,z0i φ),(85,zb7 φ),(86,zqp φ),(87,zix φ),(88,zim φ),(89,zit φ)],lk [],lk [],lk []⟩
theorem zz2(φ:Nat)(a):(zde φ).F a=fnX TV (zin Tryz.prog φ) φ Tryz.f64 [26,32] [.val 29] (zdd φ) a:=by kernel_rfl
theorem zz1(φ:Nat):fnO TV (zin Tryz.prog φ) φ Tryz.f64 [.val 29] (zdd φ):=by
 unfold fnO;show obl _ _ _ _ _ _ _ _;unfold zdd
 repeat' (first|exact trivial |(refine⟨?_,?_⟩) |(intro _)|kernel_rfl)
theorem zpc[Dr](φ:Nat):zq TV Tryz.prog 64 (zde φ):=zu (N:=zin Tryz.prog φ) (zd ⟨y2z φ,z2n φ,zqr φ,y95 φ,zzc φ,zyy φ,zz6 φ,trivial⟩ trivial trivial trivial) (zdd φ) Tryz.func64 (by kernel_rfl) (zz2 φ) (zz1 φ)
def zmk(φ:Nat):H TV (RTup TT [.val 22]):=(.seq .x (.seq .x (.seq (.seq .x (.body (.loop ⟨[(37,[(1,.val 36),(2,.val 0),(3,.ptr 0 0),(7,.own 1),(8,.val 0)])],[.box 36 [.val 26],.row 3 0]⟩ (λn=>kk5 (z97 φ n)) (λzk9=>.x)))) .x)))
def zqz(P:Program)(φ:Nat):Env TV:=⟨P,lk [(64,zde φ)],lk [],lk [],lk []⟩
theorem y9d(φ:Nat)(a):(zr0 φ).F a=fnX TV (zqz Tryz.prog φ) φ Tryz.f39 [26,36,0] [.val 22] (zmk φ) a:=by kernel_rfl
theorem y9c(φ:Nat):fnO TV (zqz Tryz.prog φ) φ Tryz.f39 [.val 22] (zmk φ):=by
 unfold fnO;show obl _ _ _ _ _ _ _ _;unfold zmk
 repeat' (first|exact trivial |(refine⟨?_,?_⟩) |(intro _)|kernel_rfl)
theorem y9b[Dr](φ:Nat):zq TV Tryz.prog 39 (zr0 φ):=zu (N:=zqz Tryz.prog φ) (zd ⟨zpc φ,trivial⟩ trivial trivial trivial) (zmk φ) Tryz.func39 (by kernel_rfl) (y9d φ) (y9c φ)
def zfv(φ:Nat):H TV (RTup TT [.row 3 0]):=(.seq .x (.seq .x (.seq (.seq .x (.body (.loop ⟨[(37,[(1,.val 36),(2,.val 0),(3,.ptr 0 0),(7,.own 1),(8,.val 0)])],[.box 36 [.val 26],.row 3 0]⟩ (λn=>kk5 (zdo φ n)) (λzk9=>.x)))) .x)))
def zlj(P:Program)(φ:Nat):Env TV:=⟨P,lk [(64,zde φ)],lk [],lk [],lk []⟩
theorem y3h(φ:Nat)(a):(zlk φ).F a=fnX TV (zlj Tryz.prog φ) φ Tryz.f39 [26,36,0] [.row 3 0] (zfv φ) a:=by kernel_rfl
theorem y3g(φ:Nat):fnO TV (zlj Tryz.prog φ) φ Tryz.f39 [.row 3 0] (zfv φ):=by
 unfold fnO;show obl _ _ _ _ _ _ _ _;unfold zfv
 repeat' (first|exact trivial |(refine⟨?_,?_⟩) |(intro _)|kernel_rfl)
theorem y3f[Dr](φ:Nat):zq TV Tryz.prog 39 (zlk φ):=zu (N:=zlj Tryz.prog φ) (zd ⟨zpc φ,trivial⟩ trivial trivial trivial) (zfv φ) Tryz.func39 (by kernel_rfl) (y3h φ) (y3g φ)
def zbn(φ:Nat):H TV (RTup TT [.val 29]):=.x
def zgf(P:Program)(φ:Nat):Env TV:=⟨P,lk [],lk [],lk [],lk []⟩
theorem zw3(φ:Nat)(a):(z70 φ).F a=fnX TV (zgf Tryz.prog φ) φ Tryz.f40 [27,27] [.val 29] (zbn φ) a:=by kernel_rfl
theorem zw2(φ:Nat):fnO TV (zgf Tryz.prog φ) φ Tryz.f40 [.val 29] (zbn φ):=by
 unfold fnO;show obl _ _ _ _ _ _ _ _;unfold zbn
 repeat' (first|exact trivial |(refine⟨?_,?_⟩) |(intro _)|kernel_rfl)
theorem zbo[Dr](φ:Nat):zq TV Tryz.prog 40 (z70 φ):=zu (N:=zgf Tryz.prog φ) (zd trivial trivial trivial trivial) (zbn φ) Tryz.func40 (by kernel_rfl) (zw3 φ) (zw2 φ)
def zbq(φ:Nat):H TV (RTup TT [.val 22]):=(.seq .x (.seq .x (.seq (.seq .x (.body (.loop ⟨[(82,[(0,.val 36),(1,.val 22),(5,.own 0),(6,.val 0)])],[.row 3 0]⟩ (λn=>kk4 (z3x φ n)) (λzk7=>(.seq .x (.seq (.body (.seq .x (.seq .x (.seq (.join ⟨[(82,[(0,.val 36),(1,.val 22),(5,.own 0),(6,.val 0),(8,.val 0)])],[.row 3 0]⟩ (λz=>z4q φ (λa0 a1 a2 a3=>zk7 (a0,a1,a2,a3,())) z.1 z.2.1 z.2.2.1 z.2.2.2.1 z.2.2.2.2.1) (.body (.loop ⟨[(82,[(0,.val 36),(1,.val 22),(5,.own 0),(6,.val 0),(7,.ptr 1 0),(8,.val 0)])],[.row 3 0,.box 61 [.val 33]]⟩ (λn z=>z30 φ (λa0 a1 a2 a3=>zk7 (a0,a1,a2,a3,())) n z.1 z.2.1 z.2.2.1 z.2.2.2.1 z.2.2.2.2.1 z.2.2.2.2.2.1) (λzk20=>.x)))) (.seq .x (.seq (.frz [(5,none)] .x) .x)))))) .x)))))) .x)))
def zgi(P:Program)(φ:Nat):Env TV:=⟨P,lk [(40,z70 φ)],lk [],lk [],lk []⟩
theorem zw9(φ:Nat)(a):(zgj φ).F a=fnX TV (zgi Tryz.prog φ) φ Tryz.f47 [36,22] [.val 22] (zbq φ) a:=by kernel_rfl
theorem zw8(φ:Nat):fnO TV (zgi Tryz.prog φ) φ Tryz.f47 [.val 22] (zbq φ):=by
 unfold fnO;show obl _ _ _ _ _ _ _ _;unfold zbq
 repeat' (first|exact trivial |(refine⟨?_,?_⟩) |(intro _)|kernel_rfl)
theorem zw7[Dr](φ:Nat):zq TV Tryz.prog 47 (zgj φ):=zu (N:=zgi Tryz.prog φ) (zd ⟨zbo φ,trivial⟩ trivial trivial trivial) (zbq φ) Tryz.func47 (by kernel_rfl) (zw9 φ) (zw8 φ)
def zbp(φ:Nat):H TV (RTup TT [.val 29]):=.x
def zgg(P:Program)(φ:Nat):Env TV:=⟨P,lk [],lk [],lk [],lk []⟩
theorem zw6(φ:Nat)(a):(zgh φ).F a=fnX TV (zgg Tryz.prog φ) φ Tryz.f68 [26,33] [.val 29] (zbp φ) a:=by kernel_rfl
theorem zw5(φ:Nat):fnO TV (zgg Tryz.prog φ) φ Tryz.f68 [.val 29] (zbp φ):=by
 unfold fnO;show obl _ _ _ _ _ _ _ _;unfold zbp
 repeat' (first|exact trivial |(refine⟨?_,?_⟩) |(intro _)|kernel_rfl)
theorem zw4[Dr](φ:Nat):zq TV Tryz.prog 68 (zgh φ):=zu (N:=zgg Tryz.prog φ) (zd trivial trivial trivial trivial) (zbp φ) Tryz.func68 (by kernel_rfl) (zw6 φ) (zw5 φ)
def zja(φ:Nat):H TV (RTup TT [.val 0]):=.x
def znv(P:Program)(φ:Nat):Env TV:=⟨P,lk [],lk [],lk [],lk []⟩
theorem y5v(φ:Nat)(a):(zjb φ).F a=fnX TV (znv Tryz.prog φ) φ Tryz.f49 [33,33] [.val 0] (zja φ) a:=by kernel_rfl
theorem y5u(φ:Nat):fnO TV (znv Tryz.prog φ) φ Tryz.f49 [.val 0] (zja φ):=by
 unfold fnO;show obl _ _ _ _ _ _ _ _;unfold zja
 repeat' (first|exact trivial |(refine⟨?_,?_⟩) |(intro _)|kernel_rfl)
theorem zv3[Dr](φ:Nat):zq TV Tryz.prog 49 (zjb φ):=zu (N:=znv Tryz.prog φ) (zd trivial trivial trivial trivial) (zja φ) Tryz.func49 (by kernel_rfl) (y5v φ) (y5u φ)
def zfu(φ:Nat):H TV (RTup TT [.val 29]):=.x
def zlh(P:Program)(φ:Nat):Env TV:=⟨P,lk [(68,zgh φ),(49,zjb φ)],lk [],lk [],lk []⟩
theorem y3e(φ:Nat)(a):(zli φ).F a=fnX TV (zlh Tryz.prog φ) φ Tryz.f48 [26,33,33] [.val 29] (zfu φ) a:=by kernel_rfl
theorem y3d(φ:Nat):fnO TV (zlh Tryz.prog φ) φ Tryz.f48 [.val 29] (zfu φ):=by
 unfold fnO;show obl _ _ _ _ _ _ _ _;unfold zfu
 repeat' (first|exact trivial |(refine⟨?_,?_⟩) |(intro _)|kernel_rfl)
theorem y3c[Dr](φ:Nat):zq TV Tryz.prog 48 (zli φ):=zu (N:=zlh Tryz.prog φ) (zd ⟨zw4 φ,zv3 φ,trivial⟩ trivial trivial trivial) (zfu φ) Tryz.func48 (by kernel_rfl) (y3e φ) (y3d φ)
def zdp(φ:Nat):H TV (RTup TT [.val 38]):=(.seq .x (.seq .x (.seq .x (.seq .x (.seq .x (.seq .x (.seq (.seq .x (.body (.loop ⟨[(126,[(1,.val 36),(2,.ptr 0 0),(5,.own 1),(6,.val 22),(7,.val 22),(8,.own 2),(9,.val 0)])],[.box 36 [.val 26],.fix 4 29,.row 75 37]⟩ (λn=>kk7 (z2p φ n)) (λzk14=>(.seq .x (.seq (.body (.seq .x (.seq .x (.seq (.seq .x (.body (.loop ⟨[(126,[(1,.val 36),(2,.ptr 0 0),(5,.own 1),(6,.val 22),(7,.val 22),(8,.own 2),(9,.val 0),(10,.ptr 3 0),(11,.val 0),(12,.val 0)])],[.box 36 [.val 26],.fix 4 29,.row 75 37,.box 61 [.val 33]]⟩ (λn z=>z1g φ (λa0 a1 a2 a3 a4 a5 a6=>zk14 (a0,a1,a2,a3,a4,a5,a6,())) n z.1 z.2.1 z.2.2.1 z.2.2.2.1 z.2.2.2.2.1 z.2.2.2.2.2.1 z.2.2.2.2.2.2.1 z.2.2.2.2.2.2.2.1 z.2.2.2.2.2.2.2.2.1 z.2.2.2.2.2.2.2.2.2.1) (λzk25=>.x)))) .x)))) .x)))))) .x)))))))
def zj3(P:Program)(φ:Nat):Env TV:=⟨P,lk [(38,z6a φ),(39,zr0 φ),(47,zgj φ),(48,zli φ),(49,zjb φ),(40,z70 φ)],lk [],lk [],lk []⟩
theorem zzl(φ:Nat)(a):(zdq φ).F a=fnX TV (zj3 Tryz.prog φ) φ Tryz.f32 [26,36] [.val 38] (zdp φ) a:=by kernel_rfl
theorem zzk(φ:Nat):fnO TV (zj3 Tryz.prog φ) φ Tryz.f32 [.val 38] (zdp φ):=by
 unfold fnO;show obl _ _ _ _ _ _ _ _;unfold zdp
 repeat' (first|exact trivial |(refine⟨?_,?_⟩) |(intro _)|kernel_rfl)
theorem zpg[Dr](φ:Nat):zq TV Tryz.prog 32 (zdq φ):=zu (N:=zj3 Tryz.prog φ) (zd ⟨zb2 φ,y9b φ,zw7 φ,y3c φ,zv3 φ,zbo φ,trivial⟩ trivial trivial trivial) (zdp φ) Tryz.func32 (by kernel_rfl) (zzl φ) (zzk φ)
def zdu(φ:Nat):H TV (RTup TT [.val 29]):=.x
def zj8(P:Program)(φ:Nat):Env TV:=⟨P,lk [(40,z70 φ)],lk [],lk [],lk []⟩
theorem zzt(φ:Nat)(a):(zj9 φ).F a=fnX TV (zj8 Tryz.prog φ) φ Tryz.f33 [39,39] [.val 29] (zdu φ) a:=by kernel_rfl
theorem zzs(φ:Nat):fnO TV (zj8 Tryz.prog φ) φ Tryz.f33 [.val 29] (zdu φ):=by
 unfold fnO;show obl _ _ _ _ _ _ _ _;unfold zdu
 repeat' (first|exact trivial |(refine⟨?_,?_⟩) |(intro _)|kernel_rfl)
theorem zzr[Dr](φ:Nat):zq TV Tryz.prog 33 (zj9 φ):=zu (N:=zj8 Tryz.prog φ) (zd ⟨zbo φ,trivial⟩ trivial trivial trivial) (zdu φ) Tryz.func33 (by kernel_rfl) (zzt φ) (zzs φ)
def zdn(φ:Nat):H TV (RTup TT [.val 40]):=(.seq .x (.seq .x (.seq .x (.seq (.seq .x (.body (.loop ⟨[(100,[(1,.val 36),(5,.val 38),(6,.own 0),(7,.val 0)])],[.row 64 39]⟩ (λn=>kk4 (z3n φ n)) (λzk8=>(.seq .x (.seq (.body (.seq .x (.seq .x (.seq .x (.seq .x (.seq (.body (.loop ⟨[(100,[(1,.val 36),(5,.val 38),(6,.own 0),(7,.val 0),(10,.ptr 1 0),(11,.val 0)])],[.row 64 39,.box 64 [.val 39]]⟩ (λn z=>z6d φ (λa0 a1 a2 a3=>zk8 (a0,a1,a2,a3,())) n z.1 z.2.1 z.2.2.1 z.2.2.2.1 z.2.2.2.2.1 z.2.2.2.2.2.1) (λzk15=>.x))) (.seq .x (.seq (.frz [(6,none)] .x) .x)))))))) .x)))))) .x))))
def zj1(P:Program)(φ:Nat):Env TV:=⟨P,lk [(32,zdq φ),(33,zj9 φ)],lk [],lk [],lk []⟩
theorem zzj(φ:Nat)(a):(zad φ).F a=fnX TV (zj1 Tryz.prog φ) φ Tryz.f12 [26,36] [.val 40] (zdn φ) a:=by kernel_rfl
theorem zzi(φ:Nat):fnO TV (zj1 Tryz.prog φ) φ Tryz.f12 [.val 40] (zdn φ):=by
 unfold fnO;show obl _ _ _ _ _ _ _ _;unfold zdn
 repeat' (first|exact trivial |(refine⟨?_,?_⟩) |(intro _)|kernel_rfl)
theorem zj2[Dr](φ:Nat):zq TV Tryz.prog 12 (zad φ):=zu (N:=zj1 Tryz.prog φ) (zd ⟨zpg φ,zzr φ,trivial⟩ trivial trivial trivial) (zdn φ) Tryz.func12 (by kernel_rfl) (zzj φ) (zzi φ)
def zdm(φ:Nat):H TV (RTup TT [.val 42]):=(.seq .x (.seq .x (.seq .x (.seq .x (.seq (.seq .x (.body (.loop ⟨[(92,[(2,.val 0),(8,.own 0),(9,.val 40),(10,.val 0)])],[.row 68 41]⟩ (λn=>kk4 (z5o φ n)) (λzk9=>.x)))) .x)))))
def ziy(P:Program)(φ:Nat):Env TV:=⟨P,lk [(12,zad φ)],lk [],lk [],lk []⟩
theorem zzh(φ:Nat)(a):(zj0 φ).F a=fnX TV (ziy Tryz.prog φ) φ Tryz.f25 [26,36,0] [.val 42] (zdm φ) a:=by kernel_rfl
theorem zzg(φ:Nat):fnO TV (ziy Tryz.prog φ) φ Tryz.f25 [.val 42] (zdm φ):=by
 unfold fnO;show obl _ _ _ _ _ _ _ _;unfold zdm
 repeat' (first|exact trivial |(refine⟨?_,?_⟩) |(intro _)|kernel_rfl)
theorem zzf[Dr](φ:Nat):zq TV Tryz.prog 25 (zj0 φ):=zu (N:=ziy Tryz.prog φ) (zd ⟨zj2 φ,trivial⟩ trivial trivial trivial) (zdm φ) Tryz.func25 (by kernel_rfl) (zzh φ) (zzg φ)
def zac(φ:Nat):H TV (RTup TT [.row 68 41]):=(.seq .x (.seq .x (.seq .x (.seq .x (.seq (.seq .x (.body (.loop ⟨[(92,[(2,.val 0),(8,.own 0),(9,.val 40),(10,.val 0)])],[.row 68 41]⟩ (λn=>kk4 (z91 φ n)) (λzk9=>.x)))) .x)))))
def zex(P:Program)(φ:Nat):Env TV:=⟨P,lk [(12,zad φ)],lk [],lk [],lk []⟩
theorem zv2(φ:Nat)(a):(zey φ).F a=fnX TV (zex Tryz.prog φ) φ Tryz.f25 [26,36,0] [.row 68 41] (zac φ) a:=by kernel_rfl
theorem zv1(φ:Nat):fnO TV (zex Tryz.prog φ) φ Tryz.f25 [.row 68 41] (zac φ):=by
 unfold fnO;show obl _ _ _ _ _ _ _ _;unfold zac
 repeat' (first|exact trivial |(refine⟨?_,?_⟩) |(intro _)|kernel_rfl)
theorem zv0[Dr](φ:Nat):zq TV Tryz.prog 25 (zey φ):=zu (N:=zex Tryz.prog φ) (zd ⟨zj2 φ,trivial⟩ trivial trivial trivial) (zac φ) Tryz.func25 (by kernel_rfl) (zv2 φ) (zv1 φ)
def zdr(φ:Nat):H TV (RTup TT [.val 42,.val 0]):=(.seq .x (.seq .x (.seq .x (.seq .x (.seq .x (.seq (.seq .x (.body (.loop ⟨[(72,[(3,.val 0),(11,.own 0),(12,.own 1),(13,.val 0)])],[.row 68 41,.row 68 41]⟩ (λn=>kk4 (z0j φ n)) (λzk11=>(.seq .x (.seq (.body (.seq .x (.seq .x (.seq (.join ⟨[(72,[(3,.val 0),(11,.own 0),(12,.own 1),(13,.val 0)])],[.row 68 41,.row 68 41]⟩ (λz=>z7n φ (λa0 a1 a2 a3=>zk11 (a0,a1,a2,a3,())) z.1 z.2.1 z.2.2.1 z.2.2.2.1) (.seq .x .x)) .x)))) .x)))))) .x))))))
def zj4(P:Program)(φ:Nat):Env TV:=⟨P,lk [(24,zdt φ),(25,zey φ)],lk [],lk [],lk []⟩
theorem zzo(φ:Nat)(a):(zj5 φ).F a=fnX TV (zj4 Tryz.prog φ) φ Tryz.f7 [26,36,0,0] [.val 42,.val 0] (zdr φ) a:=by kernel_rfl
theorem zzn(φ:Nat):fnO TV (zj4 Tryz.prog φ) φ Tryz.f7 [.val 42,.val 0] (zdr φ):=by
 unfold fnO;show obl _ _ _ _ _ _ _ _;unfold zdr
 repeat' (first|exact trivial |(refine⟨?_,?_⟩) |(intro _)|kernel_rfl)
theorem zzm[Dr](φ:Nat):zq TV Tryz.prog 7 (zj5 φ):=zu (N:=zj4 Tryz.prog φ) (zd ⟨zph φ,zv0 φ,trivial⟩ trivial trivial trivial) (zdr φ) Tryz.func7 (by kernel_rfl) (zzo φ) (zzn φ)
def zmh(φ:Nat):H TV (RTup TT [.val 0,.val 0]):=(.seq .x (.seq .x (.seq .x (.seq .x (.seq .x (.seq (.seq .x (.body (.loop ⟨[(45,[(3,.val 0),(11,.val 42),(12,.val 0),(13,.val 0)])],[]⟩ (λn=>kk4 (z7k φ n)) (λzk11=>.x)))) .x))))))
def zqx(P:Program)(φ:Nat):Env TV:=⟨P,lk [(24,zdt φ),(25,zj0 φ)],lk [],lk [],lk []⟩
theorem y9a(φ:Nat)(a):(zqy φ).F a=fnX TV (zqx Tryz.prog φ) φ Tryz.f9 [26,36,0,0] [.val 0,.val 0] (zmh φ) a:=by kernel_rfl
theorem y99(φ:Nat):fnO TV (zqx Tryz.prog φ) φ Tryz.f9 [.val 0,.val 0] (zmh φ):=by
 unfold fnO;show obl _ _ _ _ _ _ _ _;unfold zmh
 repeat' (first|exact trivial |(refine⟨?_,?_⟩) |(intro _)|kernel_rfl)
theorem y98[Dr](φ:Nat):zq TV Tryz.prog 9 (zqy φ):=zu (N:=zqx Tryz.prog φ) (zd ⟨zph φ,zzf φ,trivial⟩ trivial trivial trivial) (zmh φ) Tryz.func9 (by kernel_rfl) (y9a φ) (y99 φ)
def z86(φ:Nat):H TV (RTup TT [.val 44]):=(.seq .x (.seq .x (.seq .x (.seq .x (.seq (.seq .x (.body (.loop ⟨[(101,[(1,.val 36),(2,.ptr 0 0),(5,.own 1),(6,.val 38),(7,.val 0)])],[.box 36 [.val 26],.fix 4 29]⟩ (λn=>kk5 (z25 φ n)) (λzk10=>.x)))) (.seq .x (.seq .x (.seq (.seq .x (.body (.loop ⟨[(101,[(1,.val 36),(5,.own 0),(8,.own 1),(9,.own 2),(10,.val 0)])],[.fix 4 29,.row 3 0,.row 56 27]⟩ (λn=>kk5 (z00 φ n)) (λzk18=>(.seq .x (.seq (.body (.seq .x (.seq .x (.seq .x (.seq (.body (.loop ⟨[(101,[(1,.val 36),(5,.own 0),(8,.own 1),(9,.own 2),(10,.val 0),(11,.ptr 3 0),(12,.val 0)])],[.fix 4 29,.row 3 0,.row 56 27,.box 56 [.val 27]]⟩ (λn z=>z26 φ (λa0 a1 a2 a3 a4=>zk18 (a0,a1,a2,a3,a4,())) n z.1 z.2.1 z.2.2.1 z.2.2.2.1 z.2.2.2.2.1 z.2.2.2.2.2.1 z.2.2.2.2.2.2.1) (λzk26=>.x))) (.seq .x (.seq (.frz [(9,none)] .x) .x))))))) .x)))))) .x))))))))
def zba(P:Program)(φ:Nat):Env TV:=⟨P,lk [(38,z6a φ),(32,zdq φ),(39,zlk φ),(40,z70 φ)],lk [],lk [],lk []⟩
theorem zr3(φ:Nat)(a):(zbb φ).F a=fnX TV (zba Tryz.prog φ) φ Tryz.f15 [26,36] [.val 44] (z86 φ) a:=by kernel_rfl
theorem zr2(φ:Nat):fnO TV (zba Tryz.prog φ) φ Tryz.f15 [.val 44] (z86 φ):=by
 unfold fnO;show obl _ _ _ _ _ _ _ _;unfold z86
 repeat' (first|exact trivial |(refine⟨?_,?_⟩) |(intro _)|kernel_rfl)
theorem zr1[Dr](φ:Nat):zq TV Tryz.prog 15 (zbb φ):=zu (N:=zba Tryz.prog φ) (zd ⟨zb2 φ,zpg φ,y3f φ,zbo φ,trivial⟩ trivial trivial trivial) (z86 φ) Tryz.func15 (by kernel_rfl) (zr3 φ) (zr2 φ)
def z3i(φ:Nat):H TV (RTup TT [.val 29]):=.x
def z6p(P:Program)(φ:Nat):Env TV:=⟨P,lk [(4,zl0 φ),(5,znm φ),(6,z8q φ),(7,zj5 φ),(8,zd1 φ),(9,zqy φ),(11,z6s φ),(12,zad φ),(10,z53 φ),(14,z64 φ),(15,zbb φ),(13,z93 φ),(16,zfx φ)],lk [],lk [],lk []⟩
theorem zhx(φ:Nat)(a):(z3j φ).F a=fnX TV (z6p Tryz.prog φ) φ Tryz.f3 [26,36,0,0,0] [.val 29] (z3i φ) a:=by kernel_rfl
theorem zhw(φ:Nat):fnO TV (z6p Tryz.prog φ) φ Tryz.f3 [.val 29] (z3i φ):=by
 unfold fnO;show obl _ _ _ _ _ _ _ _;unfold z3i
 repeat' (first|exact trivial |(refine⟨?_,?_⟩) |(intro _)|kernel_rfl)
theorem zhv[Dr](φ:Nat):zq TV Tryz.prog 3 (z3j φ):=zu (N:=z6p Tryz.prog φ) (zd ⟨y2g φ,y59 φ,zjj φ,zzm φ,zoq φ,y98 φ,zc9 φ,zj2 φ,zby φ,zcr φ,zr1 φ,zjp φ,zrs φ,trivial⟩ trivial trivial trivial) (z3i φ) Tryz.func3 (by kernel_rfl) (zhx φ) (zhw φ)
end Px
end
section
namespace Px
open Go
theorem ybr{σ ρ:Type}(L:Nat->Int->σ->Option ρ)(len:Nat)(Inv:Nat->σ->Prop)(G:Option ρ->Prop)
  (step:∀n i s,i<len->Inv i s->(∀s',Inv (i+1) s'->G (L n ((i:Int)+1) s'))->G (L (n+1) i s))
  (done:∀n s,Inv len s->G (L (n+1) len s)):∀n i s,i<=len->Inv i s->len-i<n->G (L n i s):=by
 intro n
 induction n with
 |zero=>intro i s _ _ h;omega
 |succ n ih=>
  intro i s hi hI hn;by_cases h:i=len
  .subst h;exact done n s hI
  .refine step n i s (by omega) hI λs' hs'=>?_
   have:=ih (i+1) s' (by omega) hs' (by omega);simpa using this
theorem z0a{σ ρ:Type}(L:Nat->Int->σ->Option ρ)(len:Nat)(Inv:Nat->σ->Prop)(G:Option ρ->Prop)
  (step:∀n i s,i<len->Inv i s->(∀s',Inv (i+1) s'->G (L n ((i:Int)+1) s'))->G (L (n+1) i s))
  (done:∀n s,Inv len s->G (L (n+1) len s)) (n:Nat) (s:σ) (h:Inv 0 s) (hn:len<n):G (L n 0 s):=by
 simpa using ybr L len Inv G step done n 0 s (w2s _) h (by omega)
theorem y0k(x:Int):W x=if x % 18446744073709551616 >= 9223372036854775808 then x % 18446744073709551616-18446744073709551616 else x % 18446744073709551616:=by simp[W,IntKind.wrap,IntKind.bits,IntKind.signed]
theorem y9v(x:Int):U x=x % 18446744073709551616:=by simp[U,IntKind.wrap,IntKind.bits,IntKind.signed]
theorem W_id{x:Int}(h : -9223372036854775808<=x)(h':x<=9223372036854775807):W x=x:=by rw[y0k];split<;>omega
theorem U_id{x:Int}(h:0<=x)(h':x<=18446744073709551615):U x=x:=by rw[y9v];omega
theorem znz{α:Type}[Inhabited α](ok:α->Bool)(l:List α)(i:Nat)(h:i<l.length):(l.take (i+1)).all ok =((l.take i).all ok&&ok (gt l (i:Int))):=by rw[w2o h,w3y];simp[gt,h]
theorem zhb{α:Type}[Inhabited α](ok:α->Bool)(l:List α)(i:Nat)(h:i<l.length):(l.take (i+1)).any ok =((l.take i).any ok||ok (gt l (i:Int))):=by rw[w2o h,w4j];simp[gt,h]
theorem z0e{α:Type}[Inhabited α](l:List α)(i:Nat)(h:i<l.length):l.take (i+1)=l.take i++[gt l (i:Int)]:=by rw[w2o h];simp[gt,h]
theorem z79{α:Type}[Inhabited α]{l:List α}{i:Int}(h0:0<=i)(h:i<(l.length:Int)):gt l i∈l:=by
 have hlt:i.toNat<l.length:=by omega
 simp[gt,hlt]
theorem z8i{α:Type}[Inhabited α]{l:List α}{i:Nat}(h:i<l.length):gt l (i:Int)=l[i]:=by simp[gt,h]
theorem yah{α:Type}[Inhabited α](l:List α)(i:Nat)(h:i<l.length):l.drop i=gt l (i:Int)::l.drop (i+1):=by rw[z8i h,List.getElem_cons_drop]
theorem yme{α:Type}[Inhabited α]{l:List α}{x:α}(h:x∈l):∃i:Nat,i<l.length/\gt l (i:Int)=x:=by obtain⟨i,hi,e⟩:=List.getElem_of_mem h;exact⟨i,hi,by rw[z8i hi,e]⟩
theorem zop{α:Type}[Inhabited α](l:List α)(i j:Int)(x:α)(hi:0<=i)(h:i<(l.length:Int))(hj:0<=j):gt (zk l i x) j=if j=i then x else gt l j:=by
 unfold gt zk;by_cases e:j=i
 .subst e;have:j.toNat<l.length:=by omega
  simp[List.getD,w1n,this]
 .have:i.toNat≠j.toNat:=by omega
  simp[List.getD,w1n,this,e]
theorem y1z{α:Type}[Inhabited α](n:Nat)(x:α)(j:Int)(hj:0<=j)(h:j<n):gt (List.replicate n x) j=x:=by
 have:j.toNat<n:=by omega
 simp[gt,List.getD,w3d,this]
theorem zhs{α:Type}[Inhabited α](l m:List α)(j:Int)(h0:0<=j)(h:j<(l.length:Int)):gt (l++m) j=gt l j:=by
 have:j.toNat<l.length:=by omega
 simp[gt,List.getD,w1w,this]
theorem zbt{α:Type}[Inhabited α](l m:List α)(j:Int)(h :(l.length:Int)<=j):gt (l++m) j=gt m (j-l.length):=by
 have:¬j.toNat<l.length:=by omega
 have e :(j-l.length).toNat=j.toNat-l.length:=by omega
 simp[gt,List.getD,w1w,this,e]
theorem zt2{α ρ:Type}[Inhabited α](L:Nat->Int->Int->Option ρ)(k:Int->Option ρ)(l:List α)(ok:α->Bool)
  (step:∀(n i:Nat)(s:Int),i<l.length->L (n+1) i s=L n ((i:Int)+1) (bif ok (gt l i) then s else 1)) (done:∀n s,L (n+1) l.length s=k s) :
  ∀n s,l.length<n->L n 0 s=k (bif l.all ok then s else 1):=by
 intro n s hn;refine ybr L l.length (λi t=>t=bif (l.take i).all ok then s else 1) (λo=>o=k (bif l.all ok then s else 1)) ?_ ?_ n 0 s (w2s _) (by simp) (by omega)
 .intro n i t hi ht hs;rw[step n i t hi];refine hs _ ?_;rw[znz ok l i hi,ht];cases (l.take i).all ok<;>cases ok (gt l (i:Int))<;>simp
 .intro n t ht;rw[done,ht,w23]
theorem ybq{α ρ:Type}[Inhabited α](L:Nat->Int->Option ρ)(k:Option ρ)(l:List α)(p:α->Bool)(g:α->Option ρ)
  (step:∀n i:Nat,i<l.length->L (n+1) i=bif p (gt l i) then g (gt l i) else L n ((i:Int)+1)) (done:∀n,L (n+1) l.length=k) :
  ∀n,l.length<n->L n 0=match l.find? p with|some x=>g x|none=>k:=by
 intro n hn;refine z0a (λn i(_:Unit)=>L n i) l.length (λi _=>∀x∈l.take i,p x=false) (λo=>o=match l.find? p with|some x=>g x|none=>k) ?_ ?_ n () (by simp) hn
 .intro n i _ hi hI hs;simp only[step n i hi];cases e:p (gt l (i:Int)) with
  |false=>
   refine hs () ?_;rw[z0e l i hi];intro x hx;rcases w0j.1 hx with h|h
   .exact hI x h
   .simp at h;rw[h];exact e
  |true=>
   have:l.find? p=some (gt l (i:Int)):=by
    have h1:l=l.take i++(gt l (i:Int)::l.drop (i+1)):=by rw[z8i hi,List.getElem_cons_drop,w0h]
    generalize gt l (i:Int)=y at *;rw[h1,List.find?_append,List.find?_eq_none.2 (λx hx=>by simp[hI x hx])];simp[List.find?_cons,e]
   rw[this];rfl
 .intro n _ hI;simp only[done];rw[w23] at hI;rw[List.find?_eq_none.2 (λx hx=>by simp[hI x hx])]
theorem yf4{α ρ:Type}(l:List α)(p:α->Bool)(r k:ρ):(match l.find? p with|some _=>r|none=>k)=bif l.any p then r else k:=by
 induction l with
 |nil=>rfl
 |cons x l ih=>
  rw[List.find?_cons,w3s];cases p x
  .simpa using ih
  .rfl
theorem z7c{α ρ:Type}[Inhabited α](L:Nat->Int->Option ρ)(k r:Option ρ)(l:List α)(p:α->Bool)
  (step:∀n i:Nat,i<l.length->L (n+1) i=bif p (gt l i) then r else L n ((i:Int)+1)) (done:∀n,L (n+1) l.length=k)
  (n:Nat) (hn:l.length<n):L n 0=bif l.any p then r else k:=by
 rw[ybq L k l p (λ_=>r) step done n hn,yf4]
theorem z9x{α σ ρ:Type}[Inhabited α](L:Nat->Int->σ->Option ρ)(k:σ->Option ρ)(l:List α)(f:σ->α->σ)(Inv:Nat->σ->Prop)
  (step:∀(n i:Nat)(s:σ),i<l.length->Inv i s->L (n+1) i s=L n ((i:Int)+1) (f s (gt l i))/\Inv (i+1) (f s (gt l i))) (done:∀n s,Inv l.length s->L (n+1) l.length s=k s)
  (n:Nat) (s:σ) (h0:Inv 0 s) (hn:l.length<n):L n 0 s=k (l.foldl f s)/\Inv l.length (l.foldl f s):=by
 refine z0a L l.length (λi t=>t =(l.take i).foldl f s/\Inv i t) (λo=>o=k (l.foldl f s)/\Inv l.length (l.foldl f s)) ?_ ?_ n s ⟨by simp,h0⟩ hn
 .intro n i t hi ⟨ht,hI⟩ hs;rw[(step n i t hi hI).1];refine hs _ ⟨?_,(step n i t hi hI).2⟩;rw[z0e l i hi,w53,<- ht];rfl
 .intro n t ⟨ht,hI⟩;rw[w23] at ht;subst ht;exact⟨done n _ hI,hI⟩
def bet(a b c:Int):Bool:=decide (b<=a)&&decide (a<=c)
theorem zt9{a b c:Int}: bet a b c=true↔b<=a/\a<=c:=by simp[bet]
theorem zta{a b c:Int}(h:bet a b c=true):b<=a/\a<=c:=zt9.1 h
theorem mk_t(n:Int)(b:Nat)(h0:0<=n)(h:n<=100000)(hb:b<=1000000):znn n b:=by refine⟨h0,?_,by omega⟩;have :(b:Int)*n<=1000000*100000:=Int.mul_le_mul (by omega) h h0 (by omega);omega
theorem yk5{x y z:Int}: min2 x y<z↔x<z\/y<z:=by unfold min2;split<;>omega
end Px
end
section
namespace Px
open Go
structure Swo{α:Type}(lt:α->α->Bool):Prop where
 asym:∀a b,lt a b=true->lt b a=false
 ntr:∀a b c,lt a b=false->lt b c=false->lt a c=false
def Srt{α:Type}(lt:α->α->Bool)(l:List α):Prop:=l.Pairwise λa b=>lt b a=false
def eqv2{α:Type}(lt:α->α->Bool)(a b:α):Bool:=!lt a b&&!lt b a
def Stb{α:Type}(lt:α->α->Bool)(l r:List α):Prop:=r.Perm l/\∀a,r.filter (eqv2 lt a)=l.filter (eqv2 lt a)
section
variable{α:Type}{lt:α->α->Bool}
theorem Swo.irr(h:Swo lt)(a:α):lt a a=false:=by
 cases e:lt a a with
 |false=>rfl
 |true=>exact(h.asym a a e).symm.trans e |>.symm
theorem zsw{a b:α}: eqv2 lt a b=true↔lt a b=false/\lt b a=false:=by simp[eqv2]
theorem Stb.refl(l:List α):Stb lt l l:=⟨.refl _,λ_=>rfl⟩
theorem Stb.trans{a b c:List α}(h:Stb lt a b)(h':Stb lt b c):Stb lt a c:=⟨h'.1.trans h.1,λx=>(h'.2 x).trans (h.2 x)⟩
theorem Stb.app{a b c d:List α}(h:Stb lt a b)(h':Stb lt c d):Stb lt (a++c) (b++d):=⟨h.1.append h'.1,λx=>by simp only[w29,h.2 x,h'.2 x]⟩
theorem Stb.mem{l r:List α}(h:Stb lt l r){x:α}: x∈r↔x∈l:=h.1.mem_iff
theorem Stb.len{l r:List α}(h:Stb lt l r):r.length=l.length:=h.1.length_eq
theorem y1r(a:α){X:List α}(h:∀x∈X,eqv2 lt a x=false):X.filter (eqv2 lt a) = []:=by rw[List.filter_eq_nil_iff];intro x hx;simp[h x hx]
theorem Stb.swap(hs:Swo lt){X Y:List α}(h:∀x∈X,∀y∈Y,lt y x=true):Stb lt (X++Y) (Y++X):=by
 refine⟨List.perm_append_comm,λa=>?_⟩;simp only[w29];by_cases hx:∃x∈X,eqv2 lt a x=true
 .obtain⟨x,hx,ex⟩:=hx;have:Y.filter (eqv2 lt a) = []:=y1r a λy hy=>by
   cases e:eqv2 lt a y with
   |false=>rfl
   |true=>have h1:=zsw.1 e;have h2:=zsw.1 ex;have:=hs.ntr y a x h1.2 h2.1;rw[h x hx y hy] at this;cases this
  rw[this];simp
 .have:X.filter (eqv2 lt a) = []:=y1r a λx hx'=>by
   cases e:eqv2 lt a x with
   |false=>rfl
   |true=>exact absurd ⟨x,hx',e⟩ hx
  rw[this];simp
theorem Srt.app{a b:List α}(h:Srt lt a)(h':Srt lt b)(hc:∀x∈a,∀y∈b,lt y x=false):Srt lt (a++b):=w4k.2 ⟨h,h',hc⟩
theorem Srt.parts{a b:List α}(h:Srt lt (a++b)):Srt lt a/\Srt lt b/\∀x∈a,∀y∈b,lt y x=false:=w4k.1 h
theorem Srt.unique(hs:Swo lt):∀{r r':List α},Srt lt r->Srt lt r'->Stb lt r r'->r=r'
 | [],r',_,_,h=>by have:=h.len;simp at this;exact this.symm
 |x::r,r',hr,hr',h=>by
  cases r' with
  |nil=>have:=h.len;simp at this
  |cons y r'=>
   have hr1:=w0w.1 hr;have hr2:=w0w.1 hr';have h1:lt y x=false:=by
    rcases w08.1 (h.mem.1 (w0n (a:=y))) with e|e
    .rw[e];exact hs.irr _
    .exact hr1.1 y e
   have h2:lt x y=false:=by
    rcases w08.1 (h.mem.2 (w0n (a:=x))) with e|e
    .rw[e];exact hs.irr _
    .exact hr2.1 x e
   have e1:eqv2 lt x x=true:=zsw.2 ⟨hs.irr _,hs.irr _⟩;have e2:eqv2 lt x y=true:=zsw.2 ⟨h2,h1⟩;have hf:=h.2 x;rw[w2h e1,w2h e2] at hf;have hxy:y=x:=(List.cons.inj hf).1;subst hxy;congr 1;refine Srt.unique hs hr1.2 hr2.2 ⟨(List.perm_cons _).1 h.1,λa=>?_⟩;have:=h.2 a;simp only[w2g] at this;split at this
   .exact(List.cons.inj this).2
   .exact this
theorem zno(hs:Swo lt){A B C E R1 R2:List α}(h1:Srt lt (A++B))(h2:Srt lt (C++E))(hA:∀x∈B,∀y∈C,lt y x=true)(hB:∀x∈A,∀y∈E,lt y x=false)
  (s1:Srt lt R1) (t1:Stb lt (A++C) R1) (s2:Srt lt R2) (t2:Stb lt (B++E) R2):Srt lt (R1++R2)/\Stb lt ((A++B)++(C++E)) (R1++R2):=by
 refine⟨s1.app s2 λu hu v hv=>?_,?_⟩
 .have hu:=w0j.1 (t1.mem.1 hu);have hv:=w0j.1 (t2.mem.1 hv);rcases hu with hu|hu<;>rcases hv with hv|hv
  .exact h1.parts.2.2 u hu v hv
  .exact hB u hu v hv
  .exact hs.asym _ _ (hA v hv u hu)
  .exact h2.parts.2.2 u hu v hv
 .have:Stb lt ((A++B)++(C++E)) ((A++C)++(B++E)):=by have:=((Stb.refl (lt:=lt) A).app (Stb.swap hs hA)).app (Stb.refl E);simpa[w0q] using this
  exact this.trans (t1.app t2)
theorem zqc(hs:Swo lt){y c x b:α}(h1:lt c y=false)(h2:lt c b=true)(h3:lt x b=false):lt y x=true:=by
 cases e:lt y x with
 |true=>rfl
 |false=>have:=hs.ntr _ _ _ (hs.ntr _ _ _ h1 e) h3;rw[h2] at this;cases this
theorem y5e(hs:Swo lt){y e x a:α}(h1:lt y e=false)(h2:lt e a=false)(h3:lt a x=false):lt y x=false:=hs.ntr _ _ _ (hs.ntr _ _ _ h1 h2) h3
theorem y8p(hs:Swo lt){A B:List α}{x:α}(h:∀y∈B,lt x y=true):Stb lt (A++B++[x]) (A++[x]++B):=by have:=(Stb.refl (lt:=lt) A).app (Stb.swap hs (X:=B) (Y:=[x]) λz hz y hy=>by simp at hy;subst hy;exact h z hz);simpa[w0q] using this
theorem y4c{ρ:Type}(L:Nat->Int->Int->Option ρ)(k:Int->Option ρ)(pred:Nat->Bool)(R:Nat)(s0:Nat)
  (step:∀n s r:Nat,s0<=s->s<r->r<=R->L (n+1) s r=if pred ((s+r) / 2)=true then L n (((s+r) / 2+1:Nat)) r else L n s ((s+r) / 2:Nat)) (done:∀n s:Nat,L (n+1) s s=k s) :
  ∀n s r:Nat,s0<=s->s<=r->r<=R->r-s<n->∃c:Nat,s<=c/\c<=r/\(c=s\/pred (c-1)=true)/\(c=r\/pred c=false)/\L n s r=k c:=by
 intro n
 induction n with
 |zero=>intro s r _ _ _ h;omega
 |succ n ih=>
  intro s r h0 h hR hn;by_cases e:s=r
  .subst e;exact⟨s,w0t _,w0t _,.inl rfl,.inl rfl,done n s⟩
  .rw[step n s r h0 (by omega) hR];cases hp:pred ((s+r) / 2) with
   |true=>
    rw[if_pos rfl];obtain⟨c,h1,h2,h3,h4,h5⟩:=ih ((s+r) / 2+1) r (by omega) (by omega) hR (by omega);refine⟨c,by omega,h2,?_,h4,h5⟩;rcases h3 with h3|h3
    .right;rw[h3];simpa using hp
    .exact .inr h3
   |false=>
    rw[if_neg (by simp)];obtain⟨c,h1,h2,h3,h4,h5⟩:=ih s ((s+r) / 2) h0 (by omega) (by omega) (by omega);refine⟨c,h1,by omega,h3,?_,h5⟩;rcases h4 with h4|h4
    .right;rw[h4];exact hp
    .exact .inr h4
end
section arr
variable{α:Type}[Inhabited α]
theorem zjt{A B:List α}{x:α}{i:Int}(h:i=A.length):gt (A++x::B) i=x:=by subst h;rw[zbt _ _ _ (w59 _)];simp[gt]
omit [Inhabited α] in
theorem zru{A B:List α}{x y:α}{i:Int}(h:i=A.length):zk (A++x::B) i y=A++y::B:=by subst h;simp[zk]
theorem ybx{n:Int}(h0:0<=n)(h:n<=4611686018427387904):W ((U (W n)).fdiv 2)=n / 2:=by rw[W_id (x:=n) (by omega) (by omega),U_id h0 (by omega),w1j _ (by omega),W_id (by omega) (by omega)]
end arr
def Cmp{α:Type}(D:α->Prop)(y:α->α->Option Int)(lt:α->α->Bool):Prop:=∀a b,D a->D b->∃z,y a b=some z/\decide (z<0)=lt a b
theorem zel{α:Type}(l:List α):l = []\/∃S w,l=S++[w]:=by
 rcases List.eq_nil_or_concat l with h|⟨S,w,h⟩
 .exact .inl h
 .exact .inr ⟨S,w,by rw[h,List.concat_eq_append]⟩
inductive Runs {α:Type} (lt:α->α->Bool) (bs:Nat):List α->Prop
 |last {l:List α} (h:l.length<=bs) (hs:Srt lt l):Runs lt bs l
 |cons {b r:List α} (h:b.length=bs) (hs:Srt lt b) (hr:Runs lt bs r):Runs lt bs (b++r)
theorem Runs.small{α:Type}{lt:α->α->Bool}{bs:Nat}{l:List α}(h:Runs lt bs l)(hl:l.length<=bs):Srt lt l:=by
 cases h with
 |last _ hs=>exact hs
 |cons h hs hr=>rename_i b r;have:r = []:=w1k (by simp at hl;omega);rw[this,w09];exact hs
theorem Runs.big{α:Type}{lt:α->α->Bool}{bs:Nat}{l:List α}(h:Runs lt bs l)(hl:bs<l.length):∃b r,l=b++r/\b.length=bs/\Srt lt b/\Runs lt bs r/\r≠[]:=by
 cases h with
 |last h _=>omega
 |cons h hs hr=>rename_i b r;exact⟨b,r,rfl,h,hs,hr,by intro e;subst e;simp at hl;omega⟩
end Px
end
section
namespace Px
open Go
set_option maxHeartbeats 1000000
section
variable{α:Type}[Inhabited α]
def zol(φ:Nat)(e :(Int->Int->(α->α->Option Int)->Int->(List α)->Option (List α))):Nat->Int->Int->(α->α->Option Int)->Int->Int->(List α)->Option (List α)
 |0,_,_,_,_,_,_=>none
 |h+1,c,f,d,g,a,b=>(ck (((decide (c<a))=true)->rg a b.length) (ck (((decide (c<a))=true)->rg (W (a-1)) b.length) ((z9 (0:Int) ((decide (c<a))=true) (d (gt b a) (gt b (W (a-1))))).bind λi=>(if((decide (c<a))&&(decide (i<0)))=true then(ck (rg (W (a-1)) b.length) (ck (rg a b.length) (ck (rg a b.length) (ck (rg (W (a-1)) (((zk b a (gt b (W (a-1))))).length)) ((zol φ e h) c f d g (W (a-1)) ((zk ((zk b a (gt b (W (a-1))))) (W (a-1)) (gt b a)))))))) else(e c f d (W (g+1)) b)))))
def zhq(φ:Nat):Nat->Int->Int->(α->α->Option Int)->Int->(List α)->Option (List α)
 |0,_,_,_,_,_=>none
 |d+1,e,b,f,a,c=>(if(decide (a<b))=true then(zol φ (zhq φ d) φ e b f a a c) else(some c))
def gins(φ:Nat)(b :(List α))(a c:Int)(d :(α->α->Option Int)):Option (List α):=(zhq φ φ a c d (W (a+1)) b)
def zkt(φ:Nat):Nat->Int->Int->Int->Int->(List α)->Option (List α)
 |0,_,_,_,_,_=>none
 |f+1,c,d,e,a,b=>(if(decide (a<e))=true then(ck (rg (W (d+a)) b.length) (ck (rg (W (c+a)) b.length) (ck (rg (W (c+a)) b.length) (ck (rg (W (d+a)) (((zk b (W (c+a)) (gt b (W (d+a))))).length)) ((zkt φ f) c d e (W (a+1)) ((zk ((zk b (W (c+a)) (gt b (W (d+a))))) (W (d+a)) (gt b (W (c+a)))))))))) else(some b))
def yb7(φ:Nat)(a :(List α))(b c d:Int)(e :(α->α->Option Int)):Option (List α):=(zkt φ φ b c d 0 a)
def zom(φ:Nat):Nat->Int->(α->α->Option Int)->Int->Int->(List α)->Option (List α)
 |0,_,_,_,_,_=>none
 |f+1,b,d,a,c,e=>(if(a !=c)=true then(if(decide (c<a))=true then((yb7 φ e (W (b-a)) b c d).bind λg=>((zom φ f) b d (W (a-c)) c g)) else((yb7 φ e (W (b-a)) ((W ((W (b+c))-a))) a d).bind λh=>((zom φ f) b d a (W (c-a)) h))) else((yb7 φ e (W (b-a)) b a d).bind λi=>(some i)))
def grot(φ:Nat)(b :(List α))(c a d:Int)(e :(α->α->Option Int)):Option (List α):=(zom φ φ a e (W (a-c)) (W (d-a)) b)
def zm1(φ:Nat):Nat->Int->Int->(List α)->Option (List α)
 |0,_,_,_=>none
 |d+1,c,a,b=>(if(decide (a<(W (c-1))))=true then(ck (rg (W (a+1)) b.length) (ck (rg a b.length) (ck (rg a b.length) (ck (rg (W (a+1)) (((zk b a (gt b (W (a+1))))).length)) ((zm1 φ d) c (W (a+1)) ((zk ((zk b a (gt b (W (a+1))))) (W (a+1)) (gt b a)))))))) else(some b))
def zcx(φ:Nat):Nat->Int->(α->α->Option Int)->Int->Int->(List α)->Option (List α)
 |0,_,_,_,_,_=>none
 |f+1,d,e,a,c,b=>(if(decide (a<c))=true then(if 0<=(1:Int) then(ck (rg ((W ((((U ((W (a+c)))):Int).fdiv (2 ^ (min (1:Int).toNat 64)))))) b.length) (ck (rg d b.length) ((e (((gt b ((W ((((U ((W (a+c)))):Int).fdiv (2 ^ (min (1:Int).toNat 64))))))))) (gt b d)).bind λg=>(if(decide (g<0))=true then((zcx φ f) d e ((W ((W ((((U ((W (a+c)))):Int).fdiv (2 ^ (min (1:Int).toNat 64)))))+1))) c b) else((zcx φ f) d e a ((W ((((U ((W (a+c)))):Int).fdiv (2 ^ (min (1:Int).toNat 64)))))) b))))) else none) else(zm1 φ φ a d b))
def zm2(φ:Nat):Nat->Int->Int->(List α)->Option (List α)
 |0,_,_,_=>none
 |d+1,c,a,b=>(if(decide (c<a))=true then(ck (rg (W (a-1)) b.length) (ck (rg a b.length) (ck (rg a b.length) (ck (rg (W (a-1)) (((zk b a (gt b (W (a-1))))).length)) ((zm2 φ d) c (W (a-1)) ((zk ((zk b a (gt b (W (a-1))))) (W (a-1)) (gt b a)))))))) else(some b))
def zcy(φ:Nat):Nat->Int->(α->α->Option Int)->Int->Int->(List α)->Option (List α)
 |0,_,_,_,_,_=>none
 |f+1,d,e,a,c,b=>(if(decide (a<c))=true then(if 0<=(1:Int) then(ck (rg d b.length) (ck (rg ((W ((((U ((W (a+c)))):Int).fdiv (2 ^ (min (1:Int).toNat 64)))))) b.length) ((e (gt b d) (((gt b ((W ((((U ((W (a+c)))):Int).fdiv (2 ^ (min (1:Int).toNat 64)))))))))).bind λg=>(if(!(decide (g<0)))=true then((zcy φ f) d e ((W ((W ((((U ((W (a+c)))):Int).fdiv (2 ^ (min (1:Int).toNat 64)))))+1))) c b) else((zcy φ f) d e a ((W ((((U ((W (a+c)))):Int).fdiv (2 ^ (min (1:Int).toNat 64)))))) b))))) else none) else(zm2 φ φ a d b))
def zoo(φ:Nat)(e :((List α)->Int->Int->Int->(α->α->Option Int)->Option (List α)))(b:Int)(f :(α->α->Option Int))(c a:Int)(d :(List α)):Option (List α):=(if((decide (c<a))&&(decide (a<b)))=true then((e d c a b f).bind λg=>(some g)) else(some d))
def zhr(φ:Nat)(b :((List α)->Int->Int->Int->(α->α->Option Int)->Option (List α)))(e f:Int)(c :(α->α->Option Int))(a d g:Int)(h :(List α)):Option (List α):=(if((decide (e<d))&&(decide (d<a)))=true then((b h e d a c).bind λi=>(zoo φ b f c a g i)) else(zoo φ b f c a g h))
def zcz(φ:Nat)(g :((List α)->Int->Int->Int->(α->α->Option Int)->Option (List α))):Nat->Int->Int->Int->(α->α->Option Int)->Int->Int->Int->Int->Int->(List α)->Option (List α)
 |0,_,_,_,_,_,_,_,_,_,_=>none
 |l+1,h,f,i,d,j,e,a,b,k,c=>(if(decide (a<b))=true then(if 0<=(1:Int) then(ck (rg ((W (k-(W ((((U ((W (a+b)))):Int).fdiv (2 ^ (min (1:Int).toNat 64)))))))) c.length) (ck (rg ((W ((((U ((W (a+b)))):Int).fdiv (2 ^ (min (1:Int).toNat 64)))))) c.length) ((d (((gt c ((W (k-(W ((((U ((W (a+b)))):Int).fdiv (2 ^ (min (1:Int).toNat 64))))))))))) (((gt c ((W ((((U ((W (a+b)))):Int).fdiv (2 ^ (min (1:Int).toNat 64)))))))))).bind λm=>(if(!(decide (m<0)))=true then((zcz φ g l) h f i d j e ((W ((W ((((U ((W (a+b)))):Int).fdiv (2 ^ (min (1:Int).toNat 64)))))+1))) b k c) else((zcz φ g l) h f i d j e a ((W ((((U ((W (a+b)))):Int).fdiv (2 ^ (min (1:Int).toNat 64)))))) k c))))) else none) else(if((decide (a<f))&&(decide (f<(W (e-a)))))=true then((grot φ c a f (W (e-a)) d).bind λn=>(zhr φ g h i d j a (W (e-a)) n)) else(zhr φ g h i d j a (W (e-a)) c)))
def zm3(φ:Nat)(b :((List α)->Int->Int->Int->(α->α->Option Int)->Option (List α)))(c d e:Int)(f :(α->α->Option Int))(g a h i:Int)(j :(List α)):Option (List α):=(zcz φ b φ c d e f g a h i (W (a-1)) j)
def gsym(φ:Nat):Nat->(List α)->Int->Int->Int->(α->α->Option Int)->Option (List α)
 |0,_,_,_,_,_=>none
 |d+1,e,a,b,c,f=>(if(((W (b-a)):Int)==1)=true then(zcx φ φ a f b c e) else(if(((W (c-b)):Int)==1)=true then(zcy φ φ b f a b e) else(if 0<=(1:Int) then(if(decide (((W ((((U ((W (a+c)))):Int).fdiv (2 ^ (min (1:Int).toNat 64))))):Int)<b))=true then(zm3 φ (gsym φ d) a b c f ((W ((((U ((W (a+c)))):Int).fdiv (2 ^ (min (1:Int).toNat 64)))))) ((W ((W ((((U ((W (a+c)))):Int).fdiv (2 ^ (min (1:Int).toNat 64)))))+b))) ((W ((W ((W ((((U ((W (a+c)))):Int).fdiv (2 ^ (min (1:Int).toNat 64)))))+b))-c))) ((W ((((U ((W (a+c)))):Int).fdiv (2 ^ (min (1:Int).toNat 64)))))) e) else(zm3 φ (gsym φ d) a b c f ((W ((((U ((W (a+c)))):Int).fdiv (2 ^ (min (1:Int).toNat 64)))))) ((W ((W ((((U ((W (a+c)))):Int).fdiv (2 ^ (min (1:Int).toNat 64)))))+b))) a b e)) else none)))
def zon(φ:Nat)(f :(Int->(α->α->Option Int)->Int->(List α)->Option (List α))):Nat->Int->(α->α->Option Int)->Int->Int->Int->(List α)->Option (List α)
 |0,_,_,_,_,_,_=>none
 |h+1,b,c,a,d,e,g=>(if(decide (e<=b))=true then((gsym φ φ g d (W (d+a)) e c).bind λi=>((zon φ f h) b c a e ((W (e+(W (2*a))))) i)) else(if(decide (((W (d+a)):Int)<b))=true then((gsym φ φ g d (W (d+a)) b c).bind λj=>(f b c (W (a*2)) j)) else(f b c (W (a*2)) g)))
def zbs(φ:Nat):Nat->Int->(α->α->Option Int)->Int->(List α)->Option (List α)
 |0,_,_,_,_=>none
 |d+1,b,e,a,c=>(if(decide (a<b))=true then(zon φ (zbs φ d) φ b e a 0 (W (2*a)) c) else(some c))
def zks(φ:Nat):Nat->Int->(α->α->Option Int)->Int->Int->Int->(List α)->Option (List α)
 |0,_,_,_,_,_,_=>none
 |g+1,a,b,d,e,c,f=>(if(decide (c<=a))=true then((gins φ f e c b).bind λh=>((zks φ g) a b d c (W (c+d)) h)) else((gins φ f e a b).bind λi=>(zbs φ φ a b d i)))
def ym2(φ:Nat)(a :(List α))(b:Int)(c :(α->α->Option Int)):Option (List α):=(zks φ φ b c 20 0 20 a)
def y4w(φ:Nat)(a :(List α))(b :(α->α->Option Int)):Option (List α):=((ym2 φ a (a.length:Int) b).bind λc=>(some c))
theorem zjs{β:Type}{z:β}{p:Prop}[Decidable p]{x:Option β}(h:p):z9 z p x=x:=if_pos h
variable{D:α->Prop}{lt:α->α->Bool}{y:α->α->Option Int}
theorem yji(hy:Cmp D y lt)(φ:Nat)(k:Int->Int->(α->α->Option Int)->Int->List α->Option (List α))(b i0:Int)(P:List α)(x:α)(hx:D x):∀(n:Nat)(S1 S2:List α),(∀z∈S1,D z)->P.length+S1.length+S2.length<=1000000->S1.length<n->
  ∃A B,S1=A++B/\(∀z∈B,lt x z=true)/\(A = []\/∃A' z,A=A'++[z]/\lt x z=false)/\
   zol φ k n (P.length:Int) b y i0 ((P.length:Int)+S1.length) (P++S1++x::S2)=k (P.length:Int) b y (W (i0+1)) (P++A++x::(B++S2)):=by
 intro n
 induction n with
 |zero=>intro S1 S2 _ _ h;omega
 |succ n ih=>
  intro S1 S2 hD hl hn;rcases List.eq_nil_or_concat S1 with rfl|⟨S,z,rfl⟩
  .refine⟨[],[],rfl,by simp,.inl rfl,?_⟩;have h0:decide ((P.length:Int)<(P.length:Int)+(([]:List α).length:Int))=false:=by simp
   rw[zol,h0];simp[ck,rg,rg,z9]
  .simp only[List.concat_eq_append] at hD hl hn⊢;simp only[w0d,w0m,w1l] at hl hn;have e1:P++(S++[z])++x::S2 =(P++S++[z])++x::S2:=by simp
   have e2:P++(S++[z])++x::S2 =(P++S)++z::(x::S2):=by simp
   have g1:gt (P++(S++[z])++x::S2) ((P.length:Int)+((S++[z]).length:Int))=x:=by rw[e1];exact zjt (by simp<;>omega)
   have hw:W ((P.length:Int)+((S++[z]).length:Int)-1) =(P.length:Int)+S.length:=by rw[W_id (by simp;omega) (by simp;omega)];simp;omega
   have g2:gt (P++(S++[z])++x::S2) ((P.length:Int)+(S.length:Int))=z:=by rw[e2];exact zjt (by simp)
   have h0:decide ((P.length:Int)<(P.length:Int)+((S++[z]).length:Int))=true:=by simp;omega
   have hlen :((P++(S++[z])++x::S2).length:Int)=P.length+S.length+1+1+S2.length:=by simp;omega
   obtain⟨w,hw1,hw2⟩:=hy x z hx (hD z (by simp));have s1:zk (P++(S++[z])++x::S2) ((P.length:Int)+((S++[z]).length:Int)) z =(P++S)++z::(z::S2):=by rw[e1,zru (by simp<;>omega)];simp
   have s2:zk ((P++S)++z::(z::S2)) ((P.length:Int)+(S.length:Int)) x=P++S++x::(z::S2):=zru (by simp);rw[zol,hw,h0,g1,g2,hw1,hlen];rw[z4 (λ_=>⟨by omega,by simp;omega⟩),z4 (λ_=>⟨by omega,by omega⟩),zjs rfl];simp only[w00,hw2,w1o];cases hlt:lt x z with
   |true=>
    rw[if_pos rfl,z4 ⟨by omega,by omega⟩,z4 ⟨by omega,by simp;omega⟩,z4 ⟨by omega,by simp;omega⟩,s1];rw[z4 ⟨by omega,by simp;omega⟩,s2];obtain⟨A,B,q1,q2,q3,q4⟩:=ih S (z::S2) (λu hu=>hD u (by simp[hu])) (by simp;omega) (by omega);refine⟨A,B++[z],by rw[q1];simp,?_,q3,?_⟩
    .intro u hu;rcases w0j.1 hu with h|h
     .exact q2 u h
     .simp at h;rw[h];exact hlt
    .rw[q4];simp
   |false=>rw[if_neg (by simp)];exact⟨S++[z],[],by simp,by simp,.inr ⟨S,z,rfl,hlt⟩,by simp⟩
theorem yf8(hs:Swo lt)(hy:Cmp D y lt)(φ:Nat)(P Q:List α):∀(n:Nat)(S R:List α),S≠[]->Srt lt S->(∀z∈S,D z)->(∀z∈R,D z)->P.length+S.length+R.length+Q.length<=1000000->P.length+S.length+R.length<φ->R.length<n->
  ∃S',Srt lt S'/\Stb lt (S++R) S'/\zhq φ n (P.length:Int) ((P.length:Int)+S.length+R.length) y ((P.length:Int)+S.length) (P++S++R++Q)=some (P++S'++Q):=by
 intro n
 induction n with
 |zero=>intro S R _ _ _ _ _ _ h;omega
 |succ n ih=>
  intro S R hne hS hD hD' hl hφ hn;cases R with
  |nil=>refine⟨S,hS,by simpa using Stb.refl S,?_⟩;rw[zhq,if_neg (by simp)];simp
  |cons x R=>
   simp only[w0m] at hl hφ hn;rw[zhq,if_pos (by simp;omega)];obtain⟨A,B,q1,q2,q3,q4⟩:=yji hy φ (zhq φ n) ((P.length:Int)+S.length+(x::R).length) ((P.length:Int)+S.length) P x (hD' x (by simp)) φ S (R++Q) hD (by simp;omega) (by omega);rw[show P++S++x::R++Q=P++S++x::(R++Q) by simp,q4];have hA:∀u∈A,lt x u=false:=by
    rcases q3 with rfl|⟨A',z,rfl,hz⟩
    .simp
    .intro u hu;rcases w0j.1 hu with h|h
     .subst q1;have:=(hS.parts.1).parts.2.2 u h z (by simp);exact hs.ntr _ _ _ hz this
     .simp at h;rw[h];exact hz
   have hS2:Srt lt (A++x::B):=by
    subst q1;refine hS.parts.1.app (w0w.2 ⟨λu hu=>hs.asym _ _ (q2 u hu),hS.parts.2.1⟩) λu hu v hv=>?_
    rcases w08.1 hv with h|h
    .subst h;exact hA u hu
    .exact hS.parts.2.2 u hu v h
   obtain⟨S',p1,p2,p3⟩:=ih (A++x::B) R (by simp) hS2 (λz hz=>by
    subst q1;simp only[w0j,w08] at hz;rcases hz with h|h|h
    .exact hD z (by simp[h])
    .subst h;exact hD' _ (by simp)
    .exact hD z (by simp[h])) (λz hz=>hD' z (by simp[hz])) (by subst q1;simp at hl⊢;omega) (by subst q1;simp at hφ⊢;omega) (by omega)
   refine⟨S',p1,?_,?_⟩
   .have h1:Stb lt (S++[x]) (A++[x]++B):=by subst q1;exact y8p hs q2
    have:=h1.app (Stb.refl R);refine Stb.trans ?_ (Stb.trans this ?_)
    .simpa using Stb.refl (lt:=lt) (S++x::R)
    .simpa using p2
   .rw[<- p3];have e1:W ((P.length:Int)+S.length+1) =(P.length:Int)+S.length+1:=W_id (by omega) (by omega);have hSl:S.length=A.length+B.length:=by rw[q1];simp
    have e2 :(P.length:Int)+S.length+1=P.length+(A++x::B).length:=by simp;omega
    have e3 :(P.length:Int)+S.length+(x::R).length=P.length+(A++x::B).length+R.length:=by simp;omega
    have e4:P++A++x::(B++(R++Q))=P++(A++x::B)++R++Q:=by simp
    rw[e1,e2,e3,e4]
theorem yb6(hs:Swo lt)(hy:Cmp D y lt)(φ:Nat)(P X Q:List α)(hD:∀z∈X,D z)(hl:P.length+X.length+Q.length<=1000000)(hφ:P.length+X.length<φ):
  ∃X',Srt lt X'/\Stb lt X X'/\gins φ (P++X++Q) (P.length:Int) ((P.length:Int)+X.length) y=some (P++X'++Q):=by
 unfold gins;rw[W_id (x:=(P.length:Int)+1) (by omega) (by omega)];cases X with
 |nil=>refine⟨[],List.Pairwise.nil,Stb.refl _,?_⟩;obtain⟨n,rfl⟩:∃n,φ=n+1:=⟨φ-1,by omega⟩;rw[zhq,if_neg (by simp;omega)]
 |cons x R=>simp only[w0m] at hl hφ;obtain⟨S',p1,p2,p3⟩:=yf8 hs hy φ P Q φ [x] R (by simp) (w2i _ _) (λz hz=>hD z (by simp at hz;simp[hz])) (λz hz=>hD z (by simp[hz])) (by simp;omega) (by simp;omega) (by omega);refine⟨S',p1,by simpa using p2,?_⟩;rw[<- p3];simp only[w0q,w2p,w0m,w1l,w2u];congr 1;simp;omega
theorem ym3(φ:Nat)(P Z Q:List α)(c:Nat):∀(n:Nat)(X1 X2 Y1 Y2:List α),X1.length=Y1.length->X2.length=Y2.length->c=X1.length+X2.length->P.length+c+Z.length+c+Q.length<=1000000->X2.length<n->
  zkt φ n (P.length:Int) ((P.length:Int)+c+Z.length) (c:Int) (X1.length:Int) (P++Y1++X2++Z++X1++Y2++Q)=some (P++Y1++Y2++Z++X1++X2++Q):=by
 intro n
 induction n with
 |zero=>intro X1 X2 Y1 Y2 _ _ _ _ h;omega
 |succ n ih=>
  intro X1 X2 Y1 Y2 h1 h2 hc hl hn;cases X2 with
  |nil=>have:Y2 = []:=w1k (by simpa using h2.symm);subst this;simp only[w1l,w31] at hc;rw[zkt,if_neg (by simp;omega)]
  |cons x X2=>
   cases Y2 with
   |nil=>simp at h2
   |cons w Y2=>
    simp only[w0m,Nat.add_right_cancel_iff] at h2 hc hn;have w1:W ((P.length:Int)+c+Z.length+X1.length) =(P.length:Int)+c+Z.length+X1.length:=W_id (by omega) (by omega);have w2:W ((P.length:Int)+X1.length) =(P.length:Int)+X1.length:=W_id (by omega) (by omega);have w3:W ((X1.length:Int)+1) =(X1.length:Int)+1:=W_id (by omega) (by omega);have e1:P++Y1++x::X2++Z++X1++w::Y2++Q =(P++Y1)++x::(X2++Z++X1++w::Y2++Q):=by simp
    have e2:P++Y1++x::X2++Z++X1++w::Y2++Q =(P++Y1++x::X2++Z++X1)++w::(Y2++Q):=by simp
    have g1:gt (P++Y1++x::X2++Z++X1++w::Y2++Q) ((P.length:Int)+X1.length)=x:=by rw[e1];exact zjt (by simp;omega)
    have g2:gt (P++Y1++x::X2++Z++X1++w::Y2++Q) ((P.length:Int)+c+Z.length+X1.length)=w:=by rw[e2];exact zjt (by simp;omega)
    have s1:zk (P++Y1++x::X2++Z++X1++w::Y2++Q) ((P.length:Int)+X1.length) w =(P++Y1)++w::(X2++Z++X1++w::Y2++Q):=by rw[e1];exact zru (by simp;omega)
    have e3 :(P++Y1)++w::(X2++Z++X1++w::Y2++Q) =(P++Y1++w::X2++Z++X1)++w::(Y2++Q):=by simp
    have s2:zk ((P++Y1++w::X2++Z++X1)++w::(Y2++Q)) ((P.length:Int)+c+Z.length+X1.length) x =(P++Y1++w::X2++Z++X1)++x::(Y2++Q):=zru (by simp;omega);have e4 :(P++Y1++w::X2++Z++X1)++x::(Y2++Q)=P++(Y1++[w])++X2++Z++(X1++[x])++Y2++Q:=by simp
    have hlen :((P++Y1++x::X2++Z++X1++w::Y2++Q).length:Int)=P.length+c+Z.length+c+Q.length:=by simp;omega
    have hlen2 :(((P++Y1++w::X2++Z++X1)++w::(Y2++Q)).length:Int)=P.length+c+Z.length+c+Q.length:=by simp;omega
    rw[zkt,if_pos (by simp;omega),w1,w2,w3,g1,g2,s1,e3,s2,e4,hlen,hlen2];rw[z4 ⟨by omega,by omega⟩,z4 ⟨by omega,by omega⟩,z4 ⟨by omega,by omega⟩,z4 ⟨by omega,by omega⟩];have:=ih (X1++[x]) X2 (Y1++[w]) Y2 (by simp[h1]) h2 (by simp;omega) hl (by omega);have e5 :(((X1++[x]).length:Nat):Int) =(X1.length:Int)+1:=by simp
    rw[e5] at this;rw[this];simp
theorem zxt(φ:Nat)(P X Z Y Q:List α)(y:α->α->Option Int)(h:X.length=Y.length)(hl:P.length+X.length+Z.length+X.length+Q.length<=1000000)(hφ:X.length<φ):
  yb7 φ (P++X++Z++Y++Q) (P.length:Int) ((P.length:Int)+X.length+Z.length) (X.length:Int) y=some (P++Y++Z++X++Q):=by
 have:=ym3 φ P Z Q X.length φ [] X [] Y rfl h (by simp) hl hφ;simpa[yb7] using this
theorem ynr(φ:Nat)(y:α->α->Option Int):∀(n:Nat)(P X Y Q:List α),X≠[]->Y≠[]->P.length+X.length+Y.length+Q.length<=1000000->X.length+Y.length<=n->X.length+Y.length<φ->
  zom φ n ((P.length:Int)+X.length) y (X.length:Int) (Y.length:Int) (P++X++Y++Q)=some (P++Y++X++Q):=by
 intro n
 induction n with
 |zero=>intro P X Y Q hX hY _ h;have:=List.length_pos_iff.2 hX;omega
 |succ n ih=>
  intro P X Y Q hX hY hl hn hφ;have hX0:=List.length_pos_iff.2 hX;have hY0:=List.length_pos_iff.2 hY;have w1:W ((P.length:Int)+X.length-X.length) =(P.length:Int):=by rw[W_id (by omega) (by omega)];omega
  rw[zom,w1];by_cases he:X.length=Y.length
  .rw[if_neg (by simp[he])];have:=zxt φ P X [] Y Q y he (by simp;omega) (by omega);simp only[w09,w1l,Int.ofNat_zero,Int.add_zero] at this;rw[this];rfl
  .rw[if_pos (by simp;omega)];by_cases hlt:Y.length<X.length
   .rw[if_pos (by simp;omega)];obtain⟨X1,X2,rfl,h1⟩:∃X1 X2,X=X1++X2/\X1.length=Y.length:=⟨X.take Y.length,X.drop Y.length,(w0h _ _).symm,by simp;omega⟩;simp only[w0d] at hl hn hφ hlt hX0 he;have e1:P++(X1++X2)++Y++Q=P++X1++X2++Y++Q:=by simp
    have e2 :(P.length:Int)+((X1++X2).length:Nat) =(P.length:Int)+X1.length+X2.length:=by simp;omega
    rw[e1,e2,<- h1,zxt φ P X1 X2 Y Q y h1 (by omega) (by omega)];simp only[w00];have w2:W (((X1++X2).length:Int)-X1.length) =(X2.length:Int):=by simp;rw[W_id (by omega) (by omega)];omega
    rw[w2];have:=ih (P++Y) X2 X1 Q (by intro e;subst e;simp at hlt;omega) (by intro e;subst e;simp at h1;omega) (by simp;omega) (by omega) (by omega);have e3 :(((P++Y).length:Nat):Int)+X2.length =(P.length:Int)+X1.length+X2.length:=by simp;omega
    rw[e3] at this;rw[this];simp
   .rw[if_neg (by simp;omega)];obtain⟨Y1,Y2,rfl,h1⟩:∃Y1 Y2,Y=Y1++Y2/\Y2.length=X.length:=⟨Y.take (Y.length-X.length),Y.drop (Y.length-X.length),(w0h _ _).symm,by simp;omega⟩;simp only[w0d] at hl hn hφ hlt hY0 he;have e1:P++X++(Y1++Y2)++Q=P++X++Y1++Y2++Q:=by simp
    have w3:W ((P.length:Int)+X.length+((Y1++Y2).length:Nat)) =(P.length:Int)+X.length+Y1.length+Y2.length:=by simp;rw[W_id (by omega) (by omega)];omega
    have w4:W ((P.length:Int)+X.length+Y1.length+Y2.length-X.length) =(P.length:Int)+X.length+Y1.length:=by rw[W_id (by omega) (by omega)];omega
    have w5:W (((Y1++Y2).length:Int)-X.length) =(Y1.length:Int):=by simp;rw[W_id (by omega) (by omega)];omega
    rw[e1,w3,w4,w5,zxt φ P X Y1 Y2 Q y h1.symm (by omega) (by omega)];simp only[w00];have:=ih P Y2 Y1 (X++Q) (by intro e;subst e;simp at h1;omega) (by intro e;subst e;simp at h1 hlt he;omega) (by simp;omega) (by omega) (by omega);rw[h1] at this;have e2:P++Y2++Y1++X++Q=P++Y2++Y1++(X++Q):=by simp
    rw[e2,this];simp
theorem yjl(φ:Nat)(P X Y Q:List α)(y:α->α->Option Int)(hX:X≠[])(hY:Y≠[])(hl:P.length+X.length+Y.length+Q.length<=1000000)(hφ:X.length+Y.length<φ):
  grot φ (P++X++Y++Q) (P.length:Int) ((P.length:Int)+X.length) ((P.length:Int)+X.length+Y.length) y=some (P++Y++X++Q):=by
 have:=ynr φ y φ P X Y Q hX hY hl (by omega) hφ;rw[<- this];unfold grot;have w1:W ((P.length:Int)+X.length-P.length) =(X.length:Int):=by rw[W_id (by omega) (by omega)];omega
 have w2:W ((P.length:Int)+X.length+Y.length-((P.length:Int)+X.length)) =(Y.length:Int):=by rw[W_id (by omega) (by omega)];omega
 rw[w1,w2]
end
end Px
end
section
namespace Px
open Go
set_option maxHeartbeats 4000000
section
variable{α:Type}[Inhabited α]
variable{D:α->Prop}{lt:α->α->Bool}{y:α->α->Option Int}
theorem p21 :(2:Int) ^ (min (1:Int).toNat 64)=2:=by decide
theorem yf9(φ:Nat)(x:α):∀(n:Nat)(P C E:List α),P.length+C.length+E.length<=999999->C.length<n->
  zm1 φ n ((P.length:Int)+C.length+1) (P.length:Int) (P++x::(C++E))=some (P++C++x::E):=by
 intro n
 induction n with
 |zero=>intro P C E _ h;omega
 |succ n ih=>
  intro P C E hl hn;have w0:W ((P.length:Int)+C.length+1-1) =(P.length:Int)+C.length:=by rw[W_id (by omega) (by omega)];omega
  rw[zm1,w0];cases C with
  |nil=>rw[if_neg (by simp)];simp
  |cons w C=>
   simp only[w0m] at hl hn;have w1:W ((P.length:Int)+1) =(P.length:Int)+1:=W_id (by omega) (by omega);have e1:P++x::(w::C++E) =(P++[x])++w::(C++E):=by simp
   have g1:gt (P++x::(w::C++E)) (P.length:Int)=x:=zjt rfl;have g2:gt (P++x::(w::C++E)) ((P.length:Int)+1)=w:=by rw[e1];exact zjt (by simp)
   have s1:zk (P++x::(w::C++E)) (P.length:Int) w=P++w::(w::C++E):=zru rfl;have e2:P++w::(w::C++E) =(P++[w])++w::(C++E):=by simp
   have s2:zk ((P++[w])++w::(C++E)) ((P.length:Int)+1) x =(P++[w])++x::(C++E):=zru (by simp);have hlen :((P++x::(w::C++E)).length:Int)=P.length+C.length+E.length+2:=by simp;omega
   have hlen2 :(((P++[w])++w::(C++E)).length:Int)=P.length+C.length+E.length+2:=by simp;omega
   rw[if_pos (by simp;omega),w1,g1,g2,s1,e2,s2,hlen,hlen2,z4 ⟨by omega,by omega⟩,z4 ⟨by omega,by omega⟩,z4 ⟨by omega,by omega⟩,z4 ⟨by omega,by omega⟩];have:=ih (P++[w]) C E (by simp;omega) (by omega);have e3 :(((P++[w]).length:Nat):Int) =(P.length:Int)+1:=by simp
   have e4 :(P.length:Int)+((w::C).length:Nat)+1 =(P.length:Int)+1+C.length+1:=by simp;omega
   rw[e3] at this;rw[e4,this];simp
theorem y8n(φ:Nat)(x:α)(P:List α):∀(n:Nat)(C E:List α),P.length+C.length+E.length<=999999->C.length<n->
  zm2 φ n (P.length:Int) ((P.length:Int)+C.length) (P++C++x::E)=some (P++x::(C++E)):=by
 intro n
 induction n with
 |zero=>intro C E _ h;omega
 |succ n ih=>
  intro C E hl hn;rw[zm2];rcases zel C with rfl|⟨S,z,rfl⟩
  .rw[if_neg (by simp)];simp
  .simp only[w0d,w0m,w1l] at hl hn;have w1:W ((P.length:Int)+((S++[z]).length:Nat)-1) =(P.length:Int)+S.length:=by rw[W_id (by simp;omega) (by simp;omega)];simp;omega
   have e1:P++(S++[z])++x::E =(P++S++[z])++x::E:=by simp
   have e2:P++(S++[z])++x::E =(P++S)++z::(x::E):=by simp
   have g1:gt (P++(S++[z])++x::E) ((P.length:Int)+((S++[z]).length:Nat))=x:=by rw[e1];exact zjt (by simp<;>omega)
   have g2:gt (P++(S++[z])++x::E) ((P.length:Int)+S.length)=z:=by rw[e2];exact zjt (by simp)
   have s1:zk (P++(S++[z])++x::E) ((P.length:Int)+((S++[z]).length:Nat)) z =(P++S)++z::(z::E):=by rw[e1,zru (by simp<;>omega)];simp
   have s2:zk ((P++S)++z::(z::E)) ((P.length:Int)+S.length) x=P++S++x::(z::E):=zru (by simp);have hlen :((P++(S++[z])++x::E).length:Int)=P.length+S.length+E.length+2:=by simp;omega
   have hlen2 :(((P++S)++z::(z::E)).length:Int)=P.length+S.length+E.length+2:=by simp;omega
   rw[if_pos (by simp;omega),w1,g1,g2,s1,s2,hlen,hlen2,z4 ⟨by omega,by omega⟩,z4 ⟨by simp;omega,by simp;omega⟩,z4 ⟨by simp;omega,by simp;omega⟩,z4 ⟨by omega,by omega⟩];rw[ih S (z::E) (by simp;omega) (by omega)];simp
theorem y4v(hs:Swo lt)(hy:Cmp D y lt)(φ:Nat)(P L Q:List α)(x:α)(hx:D x)(hD:∀z∈L,D z)(hS:Srt lt L)(hl:P.length+L.length+Q.length<=999998)(hφ:P.length+L.length+2<φ):
  ∃R,Srt lt R/\Stb lt (x::L) R/\zcx φ φ (P.length:Int) y ((P.length:Int)+1) ((P.length:Int)+1+L.length) (P++x::(L++Q))=some (P++R++Q):=by
 have gx:gt (P++x::(L++Q)) (P.length:Int)=x:=zjt rfl;have hlen :((P++x::(L++Q)).length:Int)=P.length+L.length+Q.length+1:=by simp;omega
 have gL:∀i:Nat,P.length+1<=i->i<P.length+1+L.length->gt (P++x::(L++Q)) (i:Int)=gt L ((i-(P.length+1):Nat):Int):=by
  intro i h1 h2;have e:P++x::(L++Q) =(P++[x])++(L++Q):=by simp
  rw[e,zbt _ _ _ (by simp;omega),zhs _ _ _ (by simp;omega) (by simp;omega)];congr 1;simp;omega
 obtain⟨c,h1,h2,h3,h4,h5⟩:=y4c (λn s r=>zcx φ n (P.length:Int) y s r (P++x::(L++Q)))
  (λs=>zm1 φ φ s (P.length:Int) (P++x::(L++Q))) (λh=>lt (gt (P++x::(L++Q)) (h:Int)) x) (P.length+1+L.length) (P.length+1)
  (by
   intro n s r h0 hlt hR;have hm :(W ((U (W ((s:Int)+r))).fdiv 2)) =(((s+r) / 2:Nat):Int):=by rw[ybx (by omega) (by omega)];omega
   have hm1:W ((((s+r) / 2:Nat):Int)+1) =(((s+r) / 2+1:Nat):Int):=by rw[W_id (by omega) (by omega)];simp
   obtain⟨w,hw1,hw2⟩:=hy (gt (P++x::(L++Q)) (((s+r) / 2:Nat):Int)) x (by rw[gL _ (by omega) (by omega)];exact hD _ (z79 (by omega) (by omega))) hx;show zcx φ (n+1) _ _ _ _ _=_;rw[zcx,if_pos (by simp;omega),if_pos (by decide),p21,hm,hm1,hlen,gx,z4 ⟨by omega,by omega⟩,z4 ⟨by omega,by omega⟩,hw1];simp only[w00,hw2])
  (by intro n s;show zcx φ (n+1) _ _ _ _ _=_;rw[zcx,if_neg (by simp)]) φ (P.length+1) (P.length+1+L.length) (w0t _) (by omega) (w0t _) (by omega)
 obtain⟨C,E,rfl,hC⟩:∃C E,L=C++E/\C.length=c-(P.length+1):=⟨L.take (c-(P.length+1)),L.drop (c-(P.length+1)),(w0h _ _).symm,by simp;omega⟩;simp only[w0d] at hl hφ h2 gL;have hCx:∀z∈C,lt z x=true:=by
  intro z hz;rcases zel C with rfl|⟨S,w,rfl⟩
  .cases hz
  .simp only[w0d,w0m,w1l] at hC hz hS gL h2;have hp:lt w x=true:=by
    rcases h3 with h3|h3
    .omega
    .rw[gL _ (by omega) (by omega)] at h3;have e:S++[w]++E=S++w::E:=by simp
     rw[e,zjt (by omega)] at h3;exact h3
   rcases w0j.1 hz with h|h
   .exact zqc hs (hS.parts.1.parts.2.2 z h w (by simp)) hp (hs.irr x)
   .simp at h;rw[h];exact hp
 have hEx:∀z∈E,lt z x=false:=by
  intro z hz;cases E with
  |nil=>cases hz
  |cons w E=>
   simp only[w0m] at h2 gL h4;have hp:lt w x=false:=by
    rcases h4 with h4|h4
    .simp at h4;omega
    .rw[gL _ (by omega) (by omega),zjt (by omega)] at h4;exact h4
   rcases w08.1 hz with h|h
   .rw[h];exact hp
   .exact hs.ntr _ _ _ ((w0w.1 hS.parts.2.1).1 z h) hp
 have hm:=zno hs (A:=[]) (B:=[x]) (C:=C) (E:=E) (R1:=C) (R2:=x::E) (w2i _ _) hS (by simpa using hCx) (by simp) hS.parts.1 (by simpa using Stb.refl C) (w0w.2 ⟨hEx,hS.parts.2.1⟩) (by simpa using Stb.refl (x::E));refine⟨C++x::E,hm.1,by simpa using hm.2,?_⟩;have e5 :((P.length:Int)+1+((C++E).length:Nat)) =((P.length+1+(C++E).length:Nat):Int):=by simp
 have e6 :((P.length:Int)+1) =((P.length+1:Nat):Int):=by simp
 rw[e5,e6];refine h5.trans ?_;show zm1 φ φ _ _ _=_;have e7 :(c:Int) =(P.length:Int)+C.length+1:=by omega
 have e8:P++x::(C++E++Q)=P++x::(C++(E++Q)):=by simp
 rw[e7,e8,yf9 φ x φ P C (E++Q) (by simp;omega) (by omega)];simp
theorem y8l(hs:Swo lt)(hy:Cmp D y lt)(φ:Nat)(P L Q:List α)(x:α)(hx:D x)(hD:∀z∈L,D z)(hS:Srt lt L)(hl:P.length+L.length+Q.length<=999998)(hφ:P.length+L.length+2<φ):
  ∃R,Srt lt R/\Stb lt (L++[x]) R/\zcy φ φ ((P.length:Int)+L.length) y (P.length:Int) ((P.length:Int)+L.length) (P++L++x::Q)=some (P++R++Q):=by
 have gx:gt (P++L++x::Q) ((P.length:Int)+L.length)=x:=zjt (by simp);have hlen :((P++L++x::Q).length:Int)=P.length+L.length+Q.length+1:=by simp;omega
 have gL:∀i:Nat,P.length<=i->i<P.length+L.length->gt (P++L++x::Q) (i:Int)=gt L ((i-P.length:Nat):Int):=by intro i h1 h2;rw[w0q,zbt _ _ _ (by omega),zhs _ _ _ (by omega) (by omega)];congr 1;omega
 obtain⟨c,h1,h2,h3,h4,h5⟩:=y4c (λn s r=>zcy φ n ((P.length:Int)+L.length) y s r (P++L++x::Q))
  (λs=>zm2 φ φ s ((P.length:Int)+L.length) (P++L++x::Q)) (λh=>!lt x (gt (P++L++x::Q) (h:Int))) (P.length+L.length) P.length
  (by
   intro n s r h0 hlt hR;have hm :(W ((U (W ((s:Int)+r))).fdiv 2)) =(((s+r) / 2:Nat):Int):=by rw[ybx (by omega) (by omega)];omega
   have hm1:W ((((s+r) / 2:Nat):Int)+1) =(((s+r) / 2+1:Nat):Int):=by rw[W_id (by omega) (by omega)];simp
   obtain⟨w,hw1,hw2⟩:=hy x (gt (P++L++x::Q) (((s+r) / 2:Nat):Int)) hx (by rw[gL _ (by omega) (by omega)];exact hD _ (z79 (by omega) (by omega)));show zcy φ (n+1) _ _ _ _ _=_;rw[zcy,if_pos (by simp;omega),if_pos (by decide),p21,hm,hm1,hlen,gx,z4 ⟨by omega,by omega⟩,z4 ⟨by omega,by omega⟩,hw1];simp only[w00,hw2])
  (by intro n s;show zcy φ (n+1) _ _ _ _ _=_;rw[zcy,if_neg (by simp)]) φ P.length (P.length+L.length) (w0t _) (by omega) (w0t _) (by omega)
 obtain⟨A,B,rfl,hC⟩:∃A B,L=A++B/\A.length=c-P.length:=⟨L.take (c-P.length),L.drop (c-P.length),(w0h _ _).symm,by simp;omega⟩;simp only[w0d] at hl hφ h2 gL;have hA:∀z∈A,lt x z=false:=by
  intro z hz;rcases zel A with rfl|⟨S,w,rfl⟩
  .cases hz
  .simp only[w0d,w0m,w1l] at hC hz hS gL h2;have hp:lt x w=false:=by
    rcases h3 with h3|h3
    .omega
    .rw[gL _ (by omega) (by omega)] at h3;have e:S++[w]++B=S++w::B:=by simp
     rw[e,zjt (by omega)] at h3;simpa using h3
   rcases w0j.1 hz with h|h
   .exact hs.ntr _ _ _ hp (hS.parts.1.parts.2.2 z h w (by simp))
   .simp at h;rw[h];exact hp
 have hB:∀z∈B,lt x z=true:=by
  intro z hz;cases B with
  |nil=>cases hz
  |cons w B=>
   simp only[w0m] at h2 gL h4;have hp:lt x w=true:=by
    rcases h4 with h4|h4
    .simp at h4;omega
    .rw[gL _ (by omega) (by omega),zjt (by omega)] at h4;simpa using h4
   rcases w08.1 hz with h|h
   .rw[h];exact hp
   .exact zqc hs (hs.irr x) hp ((w0w.1 hS.parts.2.1).1 z h)
 have hm:=zno hs (A:=A) (B:=B) (C:=[x]) (E:=[]) (R1:=A++[x]) (R2:=B) hS (by rw[w09];exact w2i _ x) (by simpa using hB) (by simp)
  (hS.parts.1.app (w2i _ _) (by simpa using hA)) (Stb.refl _) hS.parts.2.1 (by simpa using Stb.refl B)
 refine⟨A++[x]++B,hm.1,by simpa using hm.2,?_⟩;have e5 :((P.length:Int)+((A++B).length:Nat)) =((P.length+(A++B).length:Nat):Int):=by simp
 rw[e5] at h5⊢;refine h5.trans ?_;show zm2 φ φ _ _ _=_;have e7 :(c:Int) =(((P++A).length:Nat):Int):=by simp;omega
 have e8:P++(A++B)++x::Q =(P++A)++B++x::Q:=by simp
 have e9 :((P.length+(A++B).length:Nat):Int) =(((P++A).length:Nat):Int)+B.length:=by simp;omega
 rw[e7,e8,e9,y8n φ x (P++A) φ B Q (by simp;omega) (by omega)];simp
def yb8(φ:Nat)(c:List α->Int->Int->Int->(α->α->Option Int)->Option (List α))(a m b:Int)(y:α->α->Option Int)(mid n s:Int)(l:List α):Option (List α):=(if((decide ((s:Int)<m))&&(decide ((m:Int)<(W (n-s)))))=true then((grot φ l s m (W (n-s)) y).bind λd=>(zhr φ c a b y mid s (W (n-s)) d)) else(zhr φ c a b y mid s (W (n-s)) l))
theorem yjm(hs:Swo lt)(hy:Cmp D y lt)(φ:Nat)(k0:List α->Int->Int->Int->(α->α->Option Int)->Option (List α))(P L1 L2 Q:List α)(hD1:∀z∈L1,D z)(hD2:∀z∈L2,D z)(hS1:Srt lt L1)(hS2:Srt lt L2)
  (a m b mid s0 r0:Nat) (ha:a=P.length) (hm:m=a+L1.length) (hb:b=m+L2.length) (hmid:mid =(a+b) / 2) (hl:b+Q.length<=999998) (hφ:b<φ)
  (h1:1<=L1.length) (h2:1<=L2.length) (hs0 :(mid<m/\s0=mid+m-b/\r0=mid)\/(m<=mid/\s0=a/\r0=m)) :
  ∃A B C E,L1=A++B/\L2=C++E/\mid+m-(a+A.length)=m+C.length/\(∀x∈B,∀y∈C,lt y x=true)/\(∀x∈A,∀y∈E,lt y x=false)/\
   zcz φ k0 φ (a:Int) (m:Int) (b:Int) y (mid:Int) ((mid+m:Nat):Int) (s0:Int) (r0:Int) ((mid+m-1:Nat):Int) (P++L1++L2++Q)=yb8 φ k0 (a:Int) (m:Int) (b:Int) y (mid:Int) ((mid+m:Nat):Int) ((a+A.length:Nat):Int) (P++L1++L2++Q):=by
 have g1:∀i:Nat,a<=i->i<m->gt (P++L1++L2++Q) (i:Int)=gt L1 ((i-a:Nat):Int):=by
  intro i q1 q2;have e:P++L1++L2++Q=P++(L1++(L2++Q)):=by simp
  rw[e,zbt _ _ _ (by omega),zhs _ _ _ (by omega) (by omega)];congr 1;omega
 have g2:∀i:Nat,m<=i->i<b->gt (P++L1++L2++Q) (i:Int)=gt L2 ((i-m:Nat):Int):=by
  intro i q1 q2;have e:P++L1++L2++Q =(P++L1)++(L2++Q):=by simp
  rw[e,zbt _ _ _ (by simp;omega),zhs _ _ _ (by simp;omega) (by simp;omega)];congr 1;simp;omega
 have hlen :((P++L1++L2++Q).length:Int)=b+Q.length:=by simp;omega
 have hW:W ((U (W ((a:Int)+b))).fdiv 2) =(mid:Int):=by rw[ybx (by omega) (by omega)];omega
 have hn:W ((mid:Int)+m) =((mid+m:Nat):Int):=by rw[W_id (by omega) (by omega)];simp
 have hp:W (((mid+m:Nat):Int)-1) =((mid+m-1:Nat):Int):=by rw[W_id (by omega) (by omega)];omega
 have hmb:mid<=b:=by omega
 have ham:a<=mid:=by omega
 obtain⟨c,h3,h4,h5,h6,h7⟩:=y4c (λn s r=>zcz φ k0 n (a:Int) (m:Int) (b:Int) y (mid:Int) ((mid+m:Nat):Int) s r ((mid+m-1:Nat):Int) (P++L1++L2++Q)) (λs=>yb8 φ k0 (a:Int) (m:Int) (b:Int) y (mid:Int) ((mid+m:Nat):Int) s (P++L1++L2++Q))
  (λc=>!lt (gt (P++L1++L2++Q) ((mid+m-1-c:Nat):Int)) (gt (P++L1++L2++Q) (c:Int))) r0 s0
  (by
   intro n s r q0 hlt hR;have hm' :(W ((U (W ((s:Int)+r))).fdiv 2)) =(((s+r) / 2:Nat):Int):=by rw[ybx (by omega) (by omega)];omega
   have hm1:W ((((s+r) / 2:Nat):Int)+1) =(((s+r) / 2+1:Nat):Int):=by rw[W_id (by omega) (by omega)];simp
   have hpc:W (((mid+m-1:Nat):Int)-(((s+r) / 2:Nat):Int)) =((mid+m-1-(s+r) / 2:Nat):Int):=by rw[W_id (by omega) (by omega)];omega
   obtain⟨w,hw1,hw2⟩:=hy (gt (P++L1++L2++Q) ((mid+m-1-(s+r) / 2:Nat):Int)) (gt (P++L1++L2++Q) (((s+r) / 2:Nat):Int))
    (by rw[g2 _ (by omega) (by omega)];exact hD2 _ (z79 (by omega) (by omega))) (by rw[g1 _ (by omega) (by omega)];exact hD1 _ (z79 (by omega) (by omega)))
   show zcz φ k0 (n+1) _ _ _ _ _ _ _ _ _ _=_;rw[zcz,if_pos (by simp;omega),if_pos (by decide),p21,hm',hm1,hpc,hlen,z4 ⟨by omega,by omega⟩,z4 ⟨by omega,by omega⟩,hw1];simp only[w00,hw2])
  (by intro n s;show zcz φ k0 (n+1) _ _ _ _ _ _ _ _ _ _=_;rw[zcz,if_neg (by simp)];rfl) φ s0 r0 (w0t _) (by omega) (w0t _) (by omega)
 obtain⟨A,B,rfl,hA⟩:∃A B,L1=A++B/\A.length=c-a:=⟨L1.take (c-a),L1.drop (c-a),(w0h _ _).symm,by simp;omega⟩;obtain⟨C,E,rfl,hC⟩:∃C E,L2=C++E/\C.length=mid-c:=⟨L2.take (mid-c),L2.drop (mid-c),(w0h _ _).symm,by simp;omega⟩;simp only[w0d] at hm hb g1 g2;refine⟨A,B,C,E,rfl,rfl,by omega,?_,?_,?_⟩
 .intro x hx z hz;rcases zel C with rfl|⟨S,w,rfl⟩
  .cases hz
  .cases B with
   |nil=>cases hx
   |cons x0 B=>
    simp only[w0d,w0m,w1l] at hC hm hb g1 g2 hA;have hp:lt w x0=true:=by
     rcases h6 with h6|h6
     .omega
     .rw[g1 c (by omega) (by omega),g2 (mid+m-1-c) (by omega) (by omega)] at h6;have e:S++[w]++E=S++w::E:=by simp
      rw[e,zjt (by omega),zjt (by omega)] at h6;simpa using h6
    have hz1:lt w z=false:=by
     rcases w0j.1 hz with h|h
     .exact hS2.parts.1.parts.2.2 z h w (by simp)
     .simp at h;rw[h];exact hs.irr _
    have hx1:lt x x0=false:=by
     rcases w08.1 hx with h|h
     .rw[h];exact hs.irr _
     .exact(w0w.1 hS1.parts.2.1).1 x h
    exact zqc hs hz1 hp hx1
 .intro x hx z hz;rcases zel A with rfl|⟨S,w,rfl⟩
  .cases hx
  .cases E with
   |nil=>cases hz
   |cons e0 E=>
    simp only[w0d,w0m,w1l] at hC hm hb g1 g2 hA;have hp:lt e0 w=false:=by
     rcases h5 with h5|h5
     .omega
     .have e1:mid+m-1-(c-1)=mid+m-c:=by omega
      rw[e1,g1 (c-1) (by omega) (by omega),g2 (mid+m-c) (by omega) (by omega)] at h5;have e:S++[w]++B=S++w::B:=by simp
      rw[e,zjt (by omega),zjt (by omega)] at h5;simpa using h5
    have hz1:lt z e0=false:=by
     rcases w08.1 hz with h|h
     .rw[h];exact hs.irr _
     .exact(w0w.1 hS2.parts.2.1).1 z h
    have hx1:lt w x=false:=by
     rcases w0j.1 hx with h|h
     .exact hS1.parts.1.parts.2.2 x h w (by simp)
     .simp at h;rw[h];exact hs.irr _
    exact y5e hs hz1 hp hx1
 .refine h7.trans ?_;have e :(c:Int) =((a+A.length:Nat):Int):=by omega
  show yb8 φ k0 _ _ _ _ _ _ _ _=_;rw[e]
theorem y1y(hs:Swo lt)(hy:Cmp D y lt)(φ:Nat):∀(d:Nat)(P L1 L2 Q:List α),(∀z∈L1,D z)->(∀z∈L2,D z)->Srt lt L1->Srt lt L2->L1≠[]->L2≠[]->
  P.length+L1.length+L2.length+Q.length<=999998->P.length+L1.length+L2.length+3<φ->L1.length+L2.length<=d->
  ∃R,Srt lt R/\Stb lt (L1++L2) R/\gsym φ d (P++L1++L2++Q) (P.length:Int) ((P.length:Int)+L1.length) ((P.length:Int)+L1.length+L2.length) y=some (P++R++Q):=by
 intro d
 induction d with
 |zero=>intro P L1 L2 Q _ _ _ _ h1 _ _ _ h;have:=List.length_pos_iff.2 h1;omega
 |succ d ih=>
  intro P L1 L2 Q hD1 hD2 hS1 hS2 hn1 hn2 hl hφ hd;have hp1:=List.length_pos_iff.2 hn1;have hp2:=List.length_pos_iff.2 hn2;rw[gsym];have w1:W ((P.length:Int)+L1.length-P.length) =(L1.length:Int):=by rw[W_id (by omega) (by omega)];omega
  have w2:W ((P.length:Int)+L1.length+L2.length-((P.length:Int)+L1.length)) =(L2.length:Int):=by rw[W_id (by omega) (by omega)];omega
  rw[w1,w2];by_cases q1:L1.length=1
  .rw[if_pos (by simp[q1])]
   match L1,q1 with
   | [x],_=>obtain⟨R,r1,r2,r3⟩:=y4v hs hy φ P L2 Q x (hD1 x (by simp)) hD2 hS2 (by simp at hl;omega) (by simp at hφ;omega);refine⟨R,r1,r2,?_⟩;rw[<- r3];simp
  .rw[if_neg (by simp;omega)];by_cases q2:L2.length=1
   .rw[if_pos (by simp[q2])]
    match L2,q2 with
    | [x],_=>obtain⟨R,r1,r2,r3⟩:=y8l hs hy φ P L1 Q x (hD2 x (by simp)) hD1 hS1 (by simp at hl;omega) (by simp at hφ;omega);refine⟨R,r1,r2,?_⟩;rw[<- r3];simp
   .rw[if_neg (by simp;omega)];obtain⟨a,ha⟩:∃a,a=P.length:=⟨_,rfl⟩;obtain⟨m,hm⟩:∃m,m=a+L1.length:=⟨_,rfl⟩;obtain⟨b,hb⟩:∃b,b=m+L2.length:=⟨_,rfl⟩;obtain⟨mid,hmid⟩:∃mid,mid =(a+b) / 2:=⟨_,rfl⟩;have ea :(P.length:Int) =(a:Int):=by omega
    have em :(P.length:Int)+L1.length =(m:Int):=by omega
    have eb :(P.length:Int)+L1.length+L2.length =(b:Int):=by omega
    rw[eb,em,ea];have hW:W ((U (W ((a:Int)+b))).fdiv 2) =(mid:Int):=by rw[ybx (by omega) (by omega)];omega
    have hn:W ((mid:Int)+m) =((mid+m:Nat):Int):=by rw[W_id (by omega) (by omega)];simp
    rw[if_pos (show (0:Int)<=1 by decide),p21,hW,hn];have key:∃s0 r0:Nat,((mid<m/\s0=mid+m-b/\r0=mid)\/(m<=mid/\s0=a/\r0=m))/\
      (if decide ((mid:Int)<m)=true then zm3 φ (gsym φ d) (a:Int) (m:Int) (b:Int) y (mid:Int) ((mid+m:Nat):Int) (W (((mid+m:Nat):Int)-b)) (mid:Int) (P++L1++L2++Q)
       else zm3 φ (gsym φ d) (a:Int) (m:Int) (b:Int) y (mid:Int) ((mid+m:Nat):Int) (a:Int) (m:Int) (P++L1++L2++Q)) =
      zm3 φ (gsym φ d) (a:Int) (m:Int) (b:Int) y (mid:Int) ((mid+m:Nat):Int) (s0:Int) (r0:Int) (P++L1++L2++Q):=by
     by_cases q:mid<m
     .refine⟨mid+m-b,mid,.inl ⟨q,rfl,rfl⟩,?_⟩;have:W (((mid+m:Nat):Int)-b) =((mid+m-b:Nat):Int):=by rw[W_id (by omega) (by omega)];omega
      rw[if_pos (by simp;omega),this]
     .refine⟨a,m,.inr ⟨by omega,rfl,rfl⟩,?_⟩;rw[if_neg (by simp;omega)]
    obtain⟨s0,r0,hk,e⟩:=key;rw[e];unfold zm3;have hp:W (((mid+m:Nat):Int)-1) =((mid+m-1:Nat):Int):=by rw[W_id (by omega) (by omega)];omega
    rw[hp];obtain⟨A,B,C,E,rfl,rfl,hc,hA,hB,hL⟩:=yjm hs hy φ (gsym φ d) P L1 L2 Q hD1 hD2 hS1 hS2 a m b mid s0 r0 ha hm hb hmid (by omega) (by omega) (by omega) (by omega) hk;rw[hL];simp only[w0d] at hm hb hl hφ hp1 hp2 q1 q2;have hcm:mid=a+A.length+C.length:=by omega
    have hend:W (((mid+m:Nat):Int)-((a+A.length:Nat):Int)) =((m+C.length:Nat):Int):=by rw[W_id (by omega) (by omega)];omega
    have step1:yb8 φ (gsym φ d) (a:Int) (m:Int) (b:Int) y (mid:Int) ((mid+m:Nat):Int) ((a+A.length:Nat):Int) (P++(A++B)++(C++E)++Q) =
      zhr φ (gsym φ d) (a:Int) (b:Int) y (mid:Int) ((a+A.length:Nat):Int) ((m+C.length:Nat):Int) (P++A++C++B++E++Q):=by
     unfold yb8;rw[hend];by_cases hBC:B = []\/C = []
     .rw[if_neg (by
       rcases hBC with rfl|rfl
       .simp at hm⊢;omega
       .simp)]
      rcases hBC with rfl|rfl<;>simp
     .obtain⟨hB0,hC0⟩:=not_or.1 hBC;have b0:=List.length_pos_iff.2 hB0;have c0:=List.length_pos_iff.2 hC0;rw[if_pos (by simp;omega)];have:=yjl φ (P++A) B C (E++Q) y hB0 hC0 (by simp;omega) (by omega);have e1:P++(A++B)++(C++E)++Q=P++A++B++C++(E++Q):=by simp
      have e2 :((a+A.length:Nat):Int) =((P++A).length:Nat):=by simp;omega
      have e3 :(m:Int) =((P++A).length:Nat)+(B.length:Int):=by simp;omega
      have e4 :((m+C.length:Nat):Int) =((P++A).length:Nat)+(B.length:Int)+C.length:=by simp;omega
      rw[e1]
      conv=>lhs;arg 1;rw[e4,e2,e3]
      rw[this];simp only[w00];congr 1;simp
    rw[step1];have step2:∃R1,Srt lt R1/\Stb lt (A++C) R1/\zhr φ (gsym φ d) (a:Int) (b:Int) y (mid:Int) ((a+A.length:Nat):Int) ((m+C.length:Nat):Int) (P++A++C++B++E++Q) =
      zoo φ (gsym φ d) (b:Int) y (mid:Int) ((m+C.length:Nat):Int) (P++R1++B++E++Q):=by
     unfold zhr;by_cases hAC:A = []\/C = []
     .refine⟨A++C,?_,Stb.refl _,?_⟩
      .rcases hAC with rfl|rfl
       .simpa using hS2.parts.1
       .simpa using hS1.parts.1
      .rw[if_neg (by
        rcases hAC with rfl|rfl
        .simp
        .simp at hcm⊢;omega)]
       simp
     .obtain⟨hA0,hC0⟩:=not_or.1 hAC;have a0:=List.length_pos_iff.2 hA0;have c0:=List.length_pos_iff.2 hC0;obtain⟨R1,r1,r2,r3⟩:=ih P A C (B++E++Q) (λz hz=>hD1 z (by simp[hz])) (λz hz=>hD2 z (by simp[hz])) hS1.parts.1 hS2.parts.1 hA0 hC0 (by simp;omega) (by omega) (by omega);refine⟨R1,r1,r2,?_⟩;rw[if_pos (by simp;omega)];have e1:P++A++C++B++E++Q=P++A++C++(B++E++Q):=by simp
      have e2 :((a+A.length:Nat):Int) =(P.length:Int)+A.length:=by simp;omega
      have e3 :(mid:Int) =(P.length:Int)+A.length+C.length:=by omega
      rw[e1]
      conv=>lhs;arg 1;rw[e3,e2,<- ea]
      rw[r3];simp
    obtain⟨R1,r1,r2,e2⟩:=step2;rw[e2];have hR1:R1.length=A.length+C.length:=by rw[r2.len];simp
    have step3:∃R2,Srt lt R2/\Stb lt (B++E) R2/\zoo φ (gsym φ d) (b:Int) y (mid:Int) ((m+C.length:Nat):Int) (P++R1++B++E++Q)=some (P++(R1++R2)++Q):=by
     unfold zoo;by_cases hBE:B = []\/E = []
     .refine⟨B++E,?_,Stb.refl _,?_⟩
      .rcases hBE with rfl|rfl
       .simpa using hS2.parts.2.1
       .simpa using hS1.parts.2.1
      .rw[if_neg (by
        rcases hBE with rfl|rfl
        .simp at hm⊢;omega
        .simp at hb⊢;omega)]
       simp
     .obtain⟨hB0,hE0⟩:=not_or.1 hBE;have b0:=List.length_pos_iff.2 hB0;have c0:=List.length_pos_iff.2 hE0;obtain⟨R2,p1,p2,p3⟩:=ih (P++R1) B E Q (λz hz=>hD1 z (by simp[hz])) (λz hz=>hD2 z (by simp[hz])) hS1.parts.2.1 hS2.parts.2.1 hB0 hE0 (by simp;omega) (by simp;omega) (by omega);refine⟨R2,p1,p2,?_⟩;rw[if_pos (by simp;omega)];have e1 :(mid:Int) =((P++R1).length:Nat):=by simp;omega
      have e3 :((m+C.length:Nat):Int) =((P++R1).length:Nat)+(B.length:Int):=by simp;omega
      have e4 :(b:Int) =((P++R1).length:Nat)+(B.length:Int)+E.length:=by simp;omega
      conv=>lhs;arg 1;rw[e4,e3,e1]
      rw[p3];simp
    obtain⟨R2,p1,p2,e3⟩:=step3;rw[e3];have hm':=zno hs hS1 hS2 hA hB r1 r2 p1 p2;exact⟨R1++R2,hm'.1,hm'.2,rfl⟩
theorem y8k(hs:Swo lt)(hy:Cmp D y lt)(φ N:Nat)(hN:N<=900000)(hφ:N<φ):
  ∀(n:Nat)(X Y:List α),(∀z∈Y,D z)->X.length+Y.length=N->Y.length<n->
  ∃Y1 Y2 Y1',Y=Y1++Y2/\Runs lt 20 (Y1'++[])/\Y2.length<20/\Stb lt Y1 Y1'/\(∀T,Runs lt 20 T->Runs lt 20 (Y1'++T))/\
   zks φ n (N:Int) y 20 (X.length:Int) ((X.length:Int)+20) (X++Y) =((gins φ (X++Y1'++Y2) ((X.length:Int)+Y1.length) (N:Int) y).bind λy12=>zbs φ φ (N:Int) y 20 y12):=by
 intro n
 induction n with
 |zero=>intro X Y _ _ h;omega
 |succ n ih=>
  intro X Y hD hl hn;rw[zks];by_cases h:Y.length<20
  .refine⟨[],Y,[],rfl,.last (by simp) List.Pairwise.nil,h,Stb.refl _,λT hT=>hT,?_⟩;rw[if_neg (by simp;omega)];simp
  .obtain⟨B,Z,rfl,hB⟩:∃B Z,Y=B++Z/\B.length=20:=⟨Y.take 20,Y.drop 20,(w0h _ _).symm,by simp;omega⟩;simp only[w0d] at hl hn h;rw[if_pos (by simp;omega)];obtain⟨B',b1,b2,b3⟩:=yb6 hs hy φ X B Z (λz hz=>hD z (by simp[hz])) (by omega) (by omega);rw[hB] at b3;have e1:X++(B++Z)=X++B++Z:=by simp
   have e2 :((20:Nat):Int)=20:=rfl;rw[e2] at b3;rw[e1,b3];simp only[w00];have hB':B'.length=20:=by rw[b2.len,hB]
   have w1:W ((X.length:Int)+20+20) =(X.length:Int)+20+20:=W_id (by omega) (by omega);have e3 :(X.length:Int)+20 =((X++B').length:Nat):=by simp[hB']
   rw[w1];obtain⟨Y1,Y2,Y1',q1,q2,q3,q4,q5,q6⟩:=ih (X++B') Z (λz hz=>hD z (by simp[hz])) (by simp;omega) (by omega);rw[<- e3] at q6;refine⟨B++Y1,Y2,B'++Y1',by rw[q1];simp,?_,q3,b2.app q4,λT hT=>?_,?_⟩
   .rw[w0q];exact .cons hB' b1 q2
   .rw[w0q];exact .cons hB' b1 (q5 T hT)
   .rw[q6];have e4 :(X.length:Int)+20+Y1.length =(X.length:Int)+((B++Y1).length:Nat):=by simp;omega
    rw[e4];simp
theorem ynp(hs:Swo lt)(hy:Cmp D y lt)(φ N bs:Nat)(k:Int->(α->α->Option Int)->Int->List α->Option (List α))(hN:N<=900000)(hφ:2*N+3<φ)(hb0:0<bs)(hb:bs<=900000):
  ∀(n:Nat)(X Y:List α),(∀z∈Y,D z)->Runs lt bs Y->X.length+Y.length=N->Y.length<n->
  ∃Y',Runs lt (bs*2) Y'/\Stb lt Y Y'/\zon φ k n (N:Int) y (bs:Int) (X.length:Int) ((X.length:Int)+2*bs) (X++Y)=k (N:Int) y ((bs*2:Nat):Int) (X++Y'):=by
 intro n
 induction n with
 |zero=>intro X Y _ _ _ h;omega
 |succ n ih=>
  intro X Y hD hR hl hn;have w1:W ((X.length:Int)+bs) =(X.length:Int)+bs:=W_id (by omega) (by omega);have w2:W ((bs:Int)*2) =((bs*2:Nat):Int):=by rw[W_id (by omega) (by omega)];simp
  have w3:W (2*(bs:Int))=2*(bs:Int):=W_id (by omega) (by omega);have w4:W ((X.length:Int)+2*bs+2*bs) =(X.length:Int)+2*bs+2*bs:=W_id (by omega) (by omega);rw[zon,w1,w3,w4];by_cases h:2*bs<=Y.length
  .rw[if_pos (by simp;omega)];obtain⟨B1,r,rfl,h1,s1,hr,hne⟩:=hR.big (by omega);simp only[w0d] at hl hn h;obtain⟨B2,Z,rfl,h2,s2,hZ⟩:∃B2 Z,r=B2++Z/\B2.length=bs/\Srt lt B2/\Runs lt bs Z:=by
    by_cases q:r.length=bs
    .exact⟨r,[],by simp,q,hr.small (by omega),.last (by simp) List.Pairwise.nil⟩
    .obtain⟨b,r',e,q1,q2,q3,_⟩:=hr.big (by omega);exact⟨b,r',e,q1,q2,q3⟩
   simp only[w0d] at hl hn h;obtain⟨R,r1,r2,r3⟩:=y1y hs hy φ φ X B1 B2 Z (λz hz=>hD z (by simp[hz])) (λz hz=>hD z (by simp[hz])) s1 s2 (by intro e;subst e;simp at h1;omega) (by intro e;subst e;simp at h2;omega) (by omega) (by omega) (by omega);have hRl:R.length=2*bs:=by rw[r2.len];simp;omega
   have e1:X++(B1++(B2++Z))=X++B1++B2++Z:=by simp
   have e2 :(X.length:Int)+bs =(X.length:Int)+B1.length:=by omega
   have e3 :(X.length:Int)+2*bs =(X.length:Int)+B1.length+B2.length:=by omega
   have e4 :(X.length:Int)+2*bs =((X++R).length:Nat):=by simp;omega
   obtain⟨Y',p1,p2,p3⟩:=ih (X++R) Z (λz hz=>hD z (by simp[hz])) hZ (by simp;omega) (by omega);refine⟨R++Y',.cons (by omega) r1 p1,?_,?_⟩
   .have:=r2.app p2
    simpa using this
   .rw[e1]
    conv=>lhs;arg 1;rw[e2,e3]
    rw[r3];simp only[w00];rw[e4,p3];simp
  .rw[if_neg (by simp;omega)];rw[w2];by_cases q:bs<Y.length
   .rw[if_pos (by simp;omega)];obtain⟨B1,B2,rfl,h1,s1,hr,hne⟩:=hR.big q;simp only[w0d] at hl hn h;obtain⟨R,r1,r2,r3⟩:=y1y hs hy φ φ X B1 B2 [] (λz hz=>hD z (by simp[hz])) (λz hz=>hD z (by simp[hz])) s1 (hr.small (by omega)) (by intro e;subst e;simp at h1;omega) hne (by simp;omega) (by omega) (by omega);have e1:X++(B1++B2)=X++B1++B2++[]:=by simp
    have e2 :(X.length:Int)+bs =(X.length:Int)+B1.length:=by omega
    have e3 :(N:Int) =(X.length:Int)+B1.length+B2.length:=by omega
    refine⟨R,.last (by rw[r2.len];simp;omega) r1,r2,?_⟩;rw[e1,e2,e3,r3];simp
   .rw[if_neg (by simp;omega)];exact⟨Y,.last (by omega) (hR.small (by omega)),Stb.refl _,rfl⟩
theorem yjk(hs:Swo lt)(hy:Cmp D y lt)(φ N:Nat)(hN:N<=400000)(hφ:2*N+3<φ):
  ∀(n bs:Nat)(Y:List α),(∀z∈Y,D z)->Runs lt bs Y->Y.length=N->0<bs->bs<=900000->N-bs<n->
  ∃Y',Srt lt Y'/\Stb lt Y Y'/\zbs φ n (N:Int) y (bs:Int) Y=some Y':=by
 intro n
 induction n with
 |zero=>intro bs Y _ _ _ _ _ h;omega
 |succ n ih=>
  intro bs Y hD hR hl hb0 hb hn;rw[zbs];by_cases h:bs<N
  .rw[if_pos (by simp;omega),W_id (x:=2*(bs:Int)) (by omega) (by omega)];obtain⟨Y',p1,p2,p3⟩:=ynp hs hy φ N bs (zbs φ n) (by omega) hφ hb0 hb φ [] Y hD hR (by simpa using hl) (by omega);obtain⟨Y'',q1,q2,q3⟩:=ih (bs*2) Y' (λz hz=>hD z (p2.mem.1 hz)) p1 (by rw[p2.len,hl]) (by omega) (by omega) (by omega);refine⟨Y'',q1,p2.trans q2,?_⟩;rw[<- q3];simpa using p3
  .rw[if_neg (by simp;omega)];exact⟨Y,hR.small (by omega),Stb.refl _,rfl⟩
theorem zt0(hs:Swo lt)(hy:Cmp D y lt)(φ:Nat)(v:List α)(hD:∀z∈v,D z)(hN:v.length<=400000)(hφ:2*v.length+3<φ):
  ∃r,Srt lt r/\Stb lt v r/\y4w φ v y=some r:=by
 unfold y4w ym2;obtain⟨Y1,Y2,Y1',q1,q2,q3,q4,q5,q6⟩:=y8k hs hy φ v.length (by omega) (by omega) φ [] v hD (by simp) (by omega);have q6':zks φ φ (v.length:Int) y 20 0 20 v =((gins φ (Y1'++Y2) (Y1.length:Int) (v.length:Int) y).bind λy12=>zbs φ φ (v.length:Int) y 20 y12):=by simpa using q6
 rw[q6'];have hl:v.length=Y1.length+Y2.length:=by rw[q1];simp
 have hl1:Y1'.length=Y1.length:=q4.len;obtain⟨Y2',p1,p2,p3⟩:=yb6 hs hy φ Y1' Y2 [] (λz hz=>hD z (by rw[q1];simp[hz])) (by simp;omega) (by omega);simp only[w09] at p3;have e1 :(Y1.length:Int)=Y1'.length:=by omega
 have e2 :(v.length:Int) =(Y1'.length:Int)+Y2.length:=by omega
 have p3':gins φ (Y1'++Y2) (Y1.length:Int) (v.length:Int) y=some (Y1'++Y2'):=by rw[e1,e2];exact p3
 have hst:Stb lt v (Y1'++Y2'):=by rw[q1];exact q4.app p2
 obtain⟨r,r1,r2,r3⟩:=yjk hs hy φ v.length hN hφ φ 20 (Y1'++Y2') (λz hz=>hD z (hst.mem.1 hz)) (q5 _ (.last (by rw[p2.len];omega) p1)) hst.len (by omega) (by omega) (by omega);refine⟨r,r1,hst.trans r2,?_⟩;rw[p3'];simp only[w00];have r3':zbs φ φ (v.length:Int) y 20 (Y1'++Y2')=some r:=r3;rw[r3'];rfl
end
end Px
end
section
namespace Px
open Go
set_option maxRecDepth 100000
theorem ze0{a b:Int}: cmpI a b<0↔a<b:=by unfold cmpI;(repeat' split)<;>omega
theorem znc{a b:Int}: cmpI a b=0↔a=b:=by unfold cmpI;(repeat' split)<;>omega
theorem zus{a b:Int}: or2 a b<0↔a<0\/(a=0/\b<0):=by unfold or2;split<;>omega
theorem zlx(φ:Nat)(a b:Int):z6n φ a b=some (cmpI a b,()):=by
 unfold z6n zo6 cmpI;simp only[bne_self_eq_false,w0a,if_false,decide_eq_true_eq,w00];split
 .rfl
 .split<;>rfl
theorem ykn(φ:Nat)(h:3<=φ)(a b:Int):zo5 φ [a,b]=some (or2 a b,()):=by
 obtain⟨n,rfl⟩:∃n,φ=n+3:=⟨φ-3,by omega⟩;unfold zo5 or2;simp only[zbr,w0m,w1l];have w:∀x:Int,0<=x->x<100->W (x+1)=x+1:=λx h1 h2=>W_id (by omega) (by omega)
 have g0:gt [a,b] 0=a:=rfl;have g1:gt [a,b] 1=b:=rfl;rw[w 0 (by omega) (by omega),show (0:Int)+1=1 by rfl,w 1 (by omega) (by omega),show (1:Int)+1=2 by rfl,g0,g1];simp[ck,rg,rg]
 repeat' (split;try rfl)
 all_goals simp_all
theorem z78{n b:Nat}(h:n<=100000)(hb:b<=1000):fits n b:=by unfold fits;exact w2a (Nat.mul_le_mul h hb) (by omega)
def zg6(a b:Ref):Bool:=decide (a.railway<b.railway)||(decide (a.railway=b.railway)&&decide (a.no<b.no))
theorem zl3{a b:Ref}: zg6 a b=true↔a.railway<b.railway\/(a.railway=b.railway/\a.no<b.no):=by simp[zg6]
theorem yli{α:Type}{lt:α->α->Bool}(h:Swo lt):Sort.SWO lt where
 irrefl:=λa=>h.irr a
 trans:=λa b c h1 h2=>by
  cases h3:lt a c with
  |true=>rfl
  |false=>have h4:=h.asym _ _ h2;rw[h.ntr a c b h3 h4] at h1;cases h1
 ntrans:=λa b c h1 h2=>h.ntr a b c h1 h2
section
variable{α:Type}{lt:α->α->Bool}
theorem yjc(hs:Swo lt){a x y:α}(h1:eqv2 lt a x=true)(h2:eqv2 lt a y=true):lt y x=false:=by simp only[eqv2,w04,w0z] at h1 h2;exact hs.ntr y a x h2.2 h1.1
theorem y7b(hs:Swo lt)(a x:α):∀r:List α,(insL lt x r).filter (eqv2 lt a) =(x::r).filter (eqv2 lt a)
 | []=>rfl
 |y::r=>by
  simp only[insL];cases h:lt y x with
  |false=>rfl
  |true=>simp only[cond_true];rw[w2g,y7b hs a x r];cases h1:eqv2 lt a x<;>cases h2:eqv2 lt a y<;>simp[w2g,h1,h2];rw[yjc hs h1 h2] at h;cases h
theorem y2d(hs:Swo lt):∀l:List α,Stb lt l (zsi lt l)
 | []=>Stb.refl _
 |x::l=>by refine⟨zaz _ _,λa=>?_⟩;show (insL lt x (zsi lt l)).filter _=_;rw[y7b hs,w2g,w2g,(y2d hs l).2 a]
theorem ybj(hs:Swo lt)(l:List α):Srt lt (zsi lt l):=zrm (yli hs) l
theorem zh7(hs:Swo lt){l r:List α}(h1:Srt lt r)(h2:Stb lt l r):r=zsi lt l:=by refine Srt.unique hs h1 (ybj hs l) ⟨(zaz _ _).trans h2.1.symm,λa=>?_⟩;rw[(y2d hs l).2 a,h2.2 a]
end
def yds(s:List Int)(w:Int):List Int:=s.filter (λx=>decide (x<w))++w::s.filter (λx=>decide (w<x))
abbrev Inc(s:List Int):Prop:=s.Pairwise λa b=>a<b
theorem yjs{a b:List Int}(ha:Inc a)(hb:Inc b)(h:∀x,x∈a↔x∈b):a=b:=by
 have na:a.Nodup:=ha.imp λh=>by omega
 have nb:b.Nodup:=hb.imp λh=>by omega
 refine List.Perm.eq_of_pairwise (le:=λa b:Int=>a<=b) (λa b _ _ h1 h2=>by omega) (ha.imp λh=>by omega) (hb.imp λh=>by omega) ?_;exact(w50 na nb).2 h
theorem zvf{s:List Int}{w x:Int}: x∈yds s w↔x=w\/x∈s:=by
 unfold yds;simp only[w0j,w0o,w08,decide_eq_true_eq];constructor
 .rintro(h|h|h)
  .exact .inr h.1
  .exact .inl h
  .exact .inr h.1
 .rintro(h|h)
  .exact .inr (.inl h)
  .rcases Int.lt_trichotomy x w with q|q|q
   .exact .inl ⟨h,q⟩
   .exact .inr (.inl q)
   .exact .inr (.inr ⟨h,q⟩)
theorem ydt{s:List Int}(h:Inc s)(w:Int):Inc (yds s w):=by
 unfold yds Inc;rw[w4k];refine⟨h.filter _,w0w.2 ⟨λx hx=>?_,h.filter _⟩,λa ha b hb=>?_⟩
 .simpa using(w0o.1 hx).2
 .have h1:a<w:=by simpa using(w0o.1 ha).2
  rcases w08.1 hb with rfl|hb
  .exact h1
  .have h2:w<b:=by simpa using(w0o.1 hb).2
   omega
theorem ym7{a b:Int}: ltI (kl_0 a) (kl_0 b)=true↔a<b:=by
 show ltI [a] [b]=true↔_;simp only[ltI];by_cases h:a<b
 .simp[h]
 .by_cases h2:a=b
  .simp[h2]
  .simp[h,h2]
theorem y7f{s:List (Int×Bool)}(h:Srt' kl_0 s):Inc (s.map (·.1)):=w47.2 (List.Pairwise.imp (λ{a b}q=>ym7.1 q) h)
theorem y57{a b:Int}(h:kl_0 a=kl_0 b):a=b:=by have h : [a] = [b]:=h;cases h;rfl
theorem y7g{s:List (Int×Bool)}(h:Srt' kl_0 s)(w:Int)(v:Bool):(cset kl_0 s w v).map (·.1)=yds (s.map (·.1)) w:=by
 refine yjs (y7f (h.set w v)) (ydt (y7f h) w) λx=>?_
 rw[zvf];simp only[w0f];constructor
 .rintro⟨p,hp,rfl⟩;rcases(z62 h).1 hp with rfl|⟨hp,_⟩
  .exact .inl rfl
  .exact .inr ⟨p,hp,rfl⟩
 .rintro(rfl|⟨p,hp,rfl⟩)
  .exact⟨_,(z62 h).2 (.inl rfl),rfl⟩
  .by_cases e:p.1=w
   .exact⟨(w,v),(z62 h).2 (.inl rfl),e.symm⟩
   .exact⟨p,(z62 h).2 (.inr ⟨hp,λq=>e (y57 q).symm⟩),rfl⟩
def OkS(s:List (Int×Bool)):Prop:=Srt' kl_0 s/\∀q∈s,q.2=true
theorem OkS.nil:OkS []:=⟨List.Pairwise.nil,λq hq=>by cases hq⟩
theorem OkS.set{s:List (Int×Bool)}(h:OkS s)(w:Int):OkS (cset kl_0 s w true):=
 ⟨h.1.set w true,λq hq=>by
  rcases(z62 h.1).1 hq with rfl|⟨hq,_⟩
  .rfl
  .exact h.2 q hq⟩
theorem OkS.get{s:List (Int×Bool)}(h:OkS s)(w:Int):(cget kl_0 s w).getD (default:Bool) =(s.map (·.1)).contains w:=by
 cases hc:cget kl_0 s w with
 |none=>
  have hn:=ztf.1 hc;have :(s.map (·.1)).contains w=false:=by rw[List.contains_eq_mem,decide_eq_false_iff_not];intro hm;obtain⟨p,hp,e⟩:=w0f.1 hm;exact hn p hp (by rw[e])
  rw[this];rfl
 |some b=>
  obtain⟨a,hm,e⟩:=zhe hc;have hb:b=true:=h.2 _ hm;have :(s.map (·.1)).contains w=true:=by rw[List.contains_eq_mem,decide_eq_true_eq];exact w0f.2 ⟨_,hm,(y57 e).symm⟩
  rw[this,hb];rfl
def zro(a b:z5):Bool:=decide (or2 (cmpI a.ref.railway b.ref.railway) (cmpI a.ref.no b.ref.no)<0)
theorem zqb{a b:z5}: zro a b=true↔a.ref.railway<b.ref.railway\/(a.ref.railway=b.ref.railway/\a.ref.no<b.ref.no):=by unfold zro;rw[decide_eq_true_eq,zus,ze0,ze0,znc]
theorem ybv{a b:z5}: zro a b=false↔¬(a.ref.railway<b.ref.railway\/(a.ref.railway=b.ref.railway/\a.ref.no<b.ref.no)):=by rw[<- zqb];simp
end Px
end
section
namespace Px
open Go
theorem z4l(φ:Nat)(a b c:Int):zh φ a b c=some (bet a b c,()):=rfl
def zmz(t:z3h):Bool:=bet t.load 0 1000000&&bet t.tare 0 1000000&&bet t.length 0 1000000&&bet t.brake 0 1000000&&bet t.gauge 0 7&&bet t.life 1 1073741824&&bet t.floor 0 100
def zg8(n:Int)(w:zt7):Bool:=bet w.type_ 0 (n-1)&&bet w.owner 0 63&&bet w.home 0 511&&bet w.built 0 1073741824&&bet w.worth 0 1099511627776
def zp1(n:Int)(s:Swap):Bool:=bet s.wanted 0 (n-1)&&bet s.given 0 (n-1)&&(s.wanted !=s.given)&&bet s.cost 0 1000000000
def y2p(w:Wash):Bool:=bet w.from_ 0 63&&bet w.to 0 63&&(w.from_ !=w.to)&&bet w.minutes 0 100000
def keyW(w:Wash):Int:=64*w.from_+w.to
def z51(l:List Wash)(i:Nat):Bool:=y2p (gt l (i:Int))&&!(l.take i).any λv=>keyW v==keyW (gt l (i:Int))
def z7d(l:List Wash):Bool:=(List.range l.length).all (z51 l)
def z6m(x:zc4):Int:=
 bif decide (32<x.types.length)||decide (4096<x.wagons.length)||decide (1024<x.swaps.length)||decide (4096<x.washes.length) then 2 else
 bif x.types.all zmz&&x.wagons.all (zg8 x.types.length)&&x.swaps.all (zp1 x.types.length)&&z7d x.washes then 0 else 1
theorem zbe(p:Nat->Bool)(i:Nat):(List.range (i+1)).all p =((List.range i).all p&&p i):=by rw[w2t,w3y];simp
theorem zq2(φ:Nat)(x:zc4)(hl:x.swaps.length<=1024)(ht:x.types.length<=32):
  ∀n s,x.swaps.length<n->z0g φ n x.swaps (x.swaps.length:Int) 0 x s=zm φ φ x.washes (x.washes.length:Int) 0 (bif x.swaps.all (zp1 (x.types.length:Int)) then s else 1) (λ_=>default):=by
 have hp:W ((x.types.length:Int)-1) =(x.types.length:Int)-1:=W_id (by omega) (by omega);refine zt2 (λn i s=>z0g φ n x.swaps (x.swaps.length:Int) i x s) (λs=>zm φ φ x.washes (x.washes.length:Int) 0 s (λ_=>default)) _ _ ?_ ?_
 .intro n i s hi;have hW:W ((i:Int)+1) =(i:Int)+1:=W_id (by omega) (by omega);rw[z0g,if_pos (by simp;omega),z4 ⟨by omega,by omega⟩];simp only[z4l,w00,zp1,z9,hW,hp];cases bet (gt x.swaps i).wanted 0 ((x.types.length:Int)-1)<;>cases bet (gt x.swaps i).given 0 ((x.types.length:Int)-1)<;>cases ((gt x.swaps i).wanted !=(gt x.swaps i).given)<;>
   cases bet (gt x.swaps i).cost 0 1000000000<;>rfl
 .intro n s;rw[z0g,if_neg (by simp)]
theorem zof(φ:Nat)(x:zc4)(hl:x.wagons.length<=4096)(ht:x.types.length<=32):
  ∀n s,x.wagons.length<n->z01 φ n x.wagons (x.wagons.length:Int) 0 x s=z0g φ φ x.swaps (x.swaps.length:Int) 0 x (bif x.wagons.all (zg8 (x.types.length:Int)) then s else 1):=by
 have hp:W ((x.types.length:Int)-1) =(x.types.length:Int)-1:=W_id (by omega) (by omega);refine zt2 (λn i s=>z01 φ n x.wagons (x.wagons.length:Int) i x s) (λs=>z0g φ φ x.swaps (x.swaps.length:Int) 0 x s) _ _ ?_ ?_
 .intro n i s hi;have hW:W ((i:Int)+1) =(i:Int)+1:=W_id (by omega) (by omega);rw[z01,if_pos (by simp;omega),z4 ⟨by omega,by omega⟩];simp only[z4l,w00,zg8,z9,hW,hp];cases bet (gt x.wagons i).type_ 0 ((x.types.length:Int)-1)<;>cases bet (gt x.wagons i).owner 0 63<;>cases bet (gt x.wagons i).home 0 511<;>
   cases bet (gt x.wagons i).built 0 1073741824<;>cases bet (gt x.wagons i).worth 0 1099511627776<;>rfl
 .intro n s;rw[z01,if_neg (by simp)]
theorem zs5(φ:Nat)(k:List z3h->Int->Int->zc4->Int->Option (Int×Unit))(ts:List z3h)(len i:Int)(x:zc4)(t:z3h)(n:Nat)(s:Int)(hn:4<n):
  z2l φ k n ts len i 4 0 x s t [t.load,t.tare,t.length,t.brake]=k ts len (W (i+1)) x (bif zmz t then s else 1):=by
 have h:=zt2 (λn j s=>z2l φ k n ts len i 4 j x s t [t.load,t.tare,t.length,t.brake]) (λs=>k ts len (W (i+1)) x (bif (bet t.gauge 0 7&&bet t.life 1 1073741824&&bet t.floor 0 100) then s else 1))
  [t.load,t.tare,t.length,t.brake] (λa=>bet a 0 1000000) (λn j s hi=>by
   rw[z2l,if_pos (by simp at hi⊢;omega),z4 ⟨by omega,by omega⟩];simp at hi;have hW:W ((j:Int)+1) =(j:Int)+1:=W_id (by omega) (by omega);simp only[z4l,w00,hW];cases bet (gt [t.load,t.tare,t.length,t.brake] (j:Int)) 0 1000000<;>rfl) (λn s=>by
   rw[z2l,if_neg (by simp)];simp only[z4l,w00,z9];cases bet t.gauge 0 7<;>cases bet t.life 1 1073741824<;>cases bet t.floor 0 100<;>rfl) n s hn
 rw[h];simp only[zmz,w1a,List.all_nil];cases bet t.load 0 1000000<;>cases bet t.tare 0 1000000<;>cases bet t.length 0 1000000<;>cases bet t.brake 0 1000000<;>
   cases bet t.gauge 0 7<;>cases bet t.life 1 1073741824<;>cases bet t.floor 0 100<;>rfl
theorem zq3(φ:Nat)(hφ:4<φ)(x:zc4)(hl:x.types.length<=32):
  ∀n s,x.types.length<n->z5f φ n x.types (x.types.length:Int) 0 x s=z01 φ φ x.wagons (x.wagons.length:Int) 0 x (bif x.types.all zmz then s else 1):=by
 refine zt2 (λn i s=>z5f φ n x.types (x.types.length:Int) i x s) (λs=>z01 φ φ x.wagons (x.wagons.length:Int) 0 x s) _ _ ?_ ?_
 .intro n i s hi;rw[z5f,if_pos (by simp;omega),z4 ⟨by omega,by omega⟩];have hW:W ((i:Int)+1) =(i:Int)+1:=W_id (by omega) (by omega);refine(zs5 φ _ x.types (x.types.length:Int) (i:Int) x (gt x.types i) φ s hφ).trans ?_;rw[hW]
 .intro n s;rw[z5f,if_neg (by simp)]
theorem zog(φ:Nat)(x:zc4)(hl:x.washes.length<=4096)(n:Nat)(s:Int)(hn:x.washes.length<n):
  zm φ n x.washes (x.washes.length:Int) 0 s (λ_=>default)=some (bif z7d x.washes then s else 1,()):=by
 refine z0a (λn i(t:Int×(Nat->Bool))=>zm φ n x.washes (x.washes.length:Int) i t.1 t.2) x.washes.length
  (λi t=>t.1 =(bif (List.range i).all (z51 x.washes) then s else 1)/\((List.range i).all (z51 x.washes)=true->∀j:Nat,t.2 j =(x.washes.take i).any λv=>keyW v==(j:Int)))
  (λo=>o=some (bif z7d x.washes then s else 1,())) ?_ ?_ n (s,λ_=>false) ⟨by simp,by simp⟩ hn
 .intro n i t hi ⟨h1,h2⟩ hs;have hW:W ((i:Int)+1) =(i:Int)+1:=W_id (by omega) (by omega);rw[zm,if_pos (by simp;omega),z4 ⟨by omega,by omega⟩];simp only[z4l,w00,z9,hW];have hok:y2p (gt x.washes i) =(bet (gt x.washes i).from_ 0 63&&bet (gt x.washes i).to 0 63&&((gt x.washes i).from_ !=(gt x.washes i).to)&&bet (gt x.washes i).minutes 0 100000):=rfl;have hsucc:=zbe (z51 x.washes) i;cases hw:y2p (gt x.washes i) with
  |false=>
   have hf :(List.range (i+1)).all (z51 x.washes)=false:=by rw[hsucc];simp[z51,hw]
   have h3:zm φ n x.washes (x.washes.length:Int) ((i:Int)+1) 1 t.2=some (bif z7d x.washes then s else 1,()):=hs (1,t.2) ⟨by rw[hf];rfl,by rw[hf];intro h;cases h⟩;rw[hw] at hok;rw[<- h3];generalize bet (gt x.washes i).from_ 0 63=a at *;generalize bet (gt x.washes i).to 0 63=b at *;generalize ((gt x.washes i).from_ !=(gt x.washes i).to)=c at *;generalize bet (gt x.washes i).minutes 0 100000=d at *;cases a<;>cases b<;>cases c<;>cases d<;>first |(exact absurd hok (by decide))|rfl
  |true=>
   rw[hw] at hok;have hb:=hok.symm;simp only[w04] at hb;obtain⟨⟨⟨b1,b2⟩,b3⟩,b4⟩:=hb;have c1:=zta b1;have c2:=zta b2;simp only[b1,b2,b3,b4,w49,if_true,w00,w25,w0a,if_false];rw[z4 ⟨by omega,by omega⟩,z4 ⟨by omega,by omega⟩];have hkey :((gt x.washes i).from_.toNat*64+(gt x.washes i).to.toNat:Nat) =(keyW (gt x.washes i)).toNat:=by unfold keyW;omega
   have hk0 :((keyW (gt x.washes i)).toNat:Int)=keyW (gt x.washes i):=by unfold keyW;omega
   have key:∀e,(e=bif (List.range (i+1)).all (z51 x.washes) then s else 1)->
     zm φ n x.washes (x.washes.length:Int) ((i:Int)+1) e (upd t.2 (keyW (gt x.washes i)).toNat true)=some (bif z7d x.washes then s else 1,()):=by
    intro e he;refine hs (e,_) ⟨he,λhall j=>?_⟩;rw[hsucc,w04] at hall;rw[zhb _ _ _ hi,<- h2 hall.1 j];show (if j =(keyW (gt x.washes i)).toNat then true else t.2 j)=_;by_cases hj:j =(keyW (gt x.washes i)).toNat
    .simp[hj,hk0]
    .have :(keyW (gt x.washes i)==(j:Int))=false:=by simp;intro h;exact hj (by omega)
     simp[hj,this]
   have e64:∀(p:Prop)[Decidable p](y:Option (Int×Unit)),p->ck p y=y:=λp _ y hp=>z4 hp
   rw[hkey];simp only[e64 _ _ (show (0:Int)<=(gt x.washes i).from_/\(gt x.washes i).from_<64 by omega),e64 _ _ (show (0:Int)<=(gt x.washes i).to/\(gt x.washes i).to<64 by omega)];cases hall :(List.range i).all (z51 x.washes) with
   |true=>
    have hat:z51 x.washes i = !(t.2 (keyW (gt x.washes i)).toNat):=by rw[h2 hall];simp only[z51,hw,w1o,hk0]
    cases ht2:t.2 (keyW (gt x.washes i)).toNat with
    |true=>simp only[w25,w2z,if_true];refine key 1 ?_;rw[hsucc,hat,ht2];simp
    |false=>simp only[w25,w2z,w0a,if_false];refine key t.1 ?_;rw[hsucc,hat,ht2,h1,hall];simp
   |false=>
    have hf :(List.range (i+1)).all (z51 x.washes)=false:=by rw[hsucc,hall];rfl
    have ht1:t.1=1:=by rw[h1,hall];rfl
    rw[ht1];split<;>exact key 1 (by rw[hf];rfl)
 .intro n t ⟨h1,_⟩;rw[zm,if_neg (by simp),h1];rfl
theorem zvi(φ:Nat)(hφ:5000<φ)(x:zc4):zhn φ x=some (z6m x,()):=by
 have e :(((decide (32<(x.types.length:Int))||decide (4096<(x.wagons.length:Int)))||decide (1024<(x.swaps.length:Int)))||decide (4096<(x.washes.length:Int))) =
   (decide (32<x.types.length)||decide (4096<x.wagons.length)||decide (1024<x.swaps.length)||decide (4096<x.washes.length)):=by
  congr 1
  .congr 1
   .congr 1<;>(apply decide_eq_decide.2;omega)
   .apply decide_eq_decide.2;omega
  .apply decide_eq_decide.2;omega
 unfold zhn z6m;rw[e];cases h :(decide (32<x.types.length)||decide (4096<x.wagons.length)||decide (1024<x.swaps.length)||decide (4096<x.washes.length)) with
 |true=>rfl
 |false=>simp only[w1i,decide_eq_false_iff_not,w4l] at h;obtain⟨⟨⟨h1,h2⟩,h3⟩,h4⟩:=h;rw[if_neg (by simp),zq3 φ (by omega) x h1 _ _ (by omega),zof _ _ h2 h1 _ _ (by omega),zq2 _ _ h3 h1 _ _ (by omega),zog _ _ h4 _ _ (by omega)];cases x.types.all zmz<;>cases x.wagons.all (zg8 x.types.length)<;>cases x.swaps.all (zp1 x.types.length)<;>cases z7d x.washes<;>rfl
theorem zdy{x:zc4}(h:z6m x=0):x.types.length<=32/\x.wagons.length<=4096/\x.swaps.length<=1024/\x.washes.length<=4096/\
  (∀t∈x.types,zmz t=true)/\(∀t∈x.wagons,zg8 x.types.length t=true)/\(∀t∈x.swaps,zp1 x.types.length t=true)/\z7d x.washes=true:=by
 unfold z6m at h;cases h1 :(decide (32<x.types.length)||decide (4096<x.wagons.length)||decide (1024<x.swaps.length)||decide (4096<x.washes.length)) with
 |true=>rw[h1] at h;cases h
 |false=>
  rw[h1] at h;simp only[w1i,decide_eq_false_iff_not,w4l] at h1;obtain⟨⟨⟨a1,a2⟩,a3⟩,a4⟩:=h1;cases h2 :(x.types.all zmz&&x.wagons.all (zg8 x.types.length)&&x.swaps.all (zp1 x.types.length)&&z7d x.washes) with
  |false=>rw[h2] at h;cases h
  |true=>simp only[w04,w0l] at h2;exact⟨a1,a2,a3,a4,h2.1.1.1,h2.1.1.2,h2.1.2,h2.2⟩
end Px
end
section
namespace Px
open Go
theorem zb0{c:Int}(h:0<=c)(h':c<18446744073709551616):(BitVec.ofInt 64 c).toNat=c.toNat:=by rw[BitVec.toNat_ofInt];omega
theorem yii{n:Nat}(h:n<18446744073709551616):U (n:Int)=n:=U_id (by omega) (by omega)
theorem yhc{a b:Nat}(h:a<18446744073709551616):a&&& b<18446744073709551616:=w4w Nat.and_le_left h
theorem ygm{k:Nat}(h:k<=63):(2 ^ k:Nat)<18446744073709551616:=w2q (Nat.pow_lt_pow_right (by decide) (by omega:k<64)) (by decide)
theorem yn9{c k:Int}(h:0<=c)(hk:0<=k)(hk':k<=63):c.fdiv (2 ^ (min (k:Int).toNat (IntKind.bits .u64))) =((c.toNat / 2 ^ k.toNat:Nat):Int):=by
 have e:min (k:Int).toNat (IntKind.bits .u64)=k.toNat:=by simp[IntKind.bits];omega
 rw[e];have e2 :((2:Int) ^ k.toNat) =((2 ^ k.toNat:Nat):Int):=by simp
 rw[e2,w1j _ (Int.natCast_nonneg _)];have:c =(c.toNat:Int):=by omega
 rw[this];simp
end Px
end
section
namespace Px
open Go
set_option maxRecDepth 100000
theorem y8t :((List.range 256).all λi=>decide (0<=z76 zn i/\z76 zn i<=8/\i<2 ^ (z76 zn i).toNat/\(0<i->0<z76 zn i/\2 ^ ((z76 zn i).toNat-1)<=i)))=true:=by decide+kernel
theorem zua{i:Int}(h:0<=i)(h':i<256):∃n:Nat,z76 zn i=n/\n<=8/\i.toNat<2 ^ n/\(0<i->0<n/\2 ^ (n-1)<=i.toNat):=by have:=w0l.1 y8t i.toNat (by simp;omega);rw[decide_eq_true_eq,show ((i.toNat:Nat):Int)=i by omega] at this;obtain⟨a,b,c,d⟩:=this;exact⟨(z76 zn i).toNat,by omega,by omega,c,λhi=>⟨by have:=(d (by omega)).1;omega,(d (by omega)).2⟩⟩
def zaj(v:Nat)(n:Nat):Prop:=v<2 ^ n/\(0<v->0<n/\2 ^ (n-1)<=v)
theorem zaj.up{v:Nat}(k:Nat){n:Nat}(h:zaj (v / 2 ^ k) n)(hv:2 ^ k<=v):zaj v (n+k):=by
 have hp:=Nat.two_pow_pos k;have hpos:0<v / 2 ^ k:=Nat.div_pos hv hp;obtain⟨h1,h2⟩:=h;obtain⟨h3,h4⟩:=h2 hpos;refine⟨?_,λ_=>⟨by omega,?_⟩⟩
 .rw[w4t];exact(Nat.div_lt_iff_lt_mul hp).1 h1
 .have:n+k-1 =(n-1)+k:=by omega
  rw[this,w4t];exact(Nat.le_div_iff_mul_le hp).1 h4
theorem ybn(φ:Nat)(v w:Int)(h:0<=v)(h':v<256)(hw:0<=w)(hw':w<=64):∃n:Nat,z1a φ v w=some (64-(w+n),())/\n<=8/\zaj v.toNat n:=by
 obtain⟨n,e,hn,a,b⟩:=zua h h';have e8:IntKind.wrap .u8 v=v:=by simp[IntKind.wrap,IntKind.bits,IntKind.signed];omega
 refine⟨n,?_,hn,a,λhv=>b (by omega)⟩;unfold z1a;rw[e8,z4 ⟨h,h'⟩,e,W_id (x:=(n:Int)) (by omega) (by omega),W_id (x:=w+n) (by omega) (by omega),W_id (by omega) (by omega)]
theorem sh8(v:Int):v.fdiv (2 ^ (min (8:Int).toNat 64))=v / 256:=by rw[show ((2:Int) ^ (min (8:Int).toNat 64))=256 by decide];exact w1j _ (by omega)
theorem sh16(v:Int):v.fdiv (2 ^ (min (16:Int).toNat 64))=v / 65536:=by rw[show ((2:Int) ^ (min (16:Int).toNat 64))=65536 by decide];exact w1j _ (by omega)
theorem sh32(v:Int):v.fdiv (2 ^ (min (32:Int).toNat 64))=v / 4294967296:=by rw[show ((2:Int) ^ (min (32:Int).toNat 64))=4294967296 by decide];exact w1j _ (by omega)
theorem yhr(φ:Nat)(v w:Int)(h:0<=v)(h':v<65536)(hw:0<=w)(hw':w<=48):∃n:Nat,z1z φ v w=some (64-(w+n),())/\n<=16/\zaj v.toNat n:=by
 unfold z1z;by_cases c:256<=v
 .rw[if_pos (by simpa using c),if_pos (by decide),sh8,W_id (by omega) (by omega)];obtain⟨n,e,hn,hl⟩:=ybn φ (v / 256) (w+8) (by omega) (by omega) (by omega) (by omega);refine⟨n+8,by rw[e];congr 2;omega,by omega,?_⟩;refine zaj.up 8 ?_ (by omega)
  rwa [show v.toNat / 2 ^ 8 =(v / 256).toNat by omega]
 .rw[if_neg (by simpa using c)];obtain⟨n,e,hn,hl⟩:=ybn φ v w h (by omega) (by omega) (by omega);exact⟨n,e,by omega,hl⟩
theorem yhq(φ:Nat)(v w:Int)(h:0<=v)(h':v<4294967296)(hw:0<=w)(hw':w<=32):∃n:Nat,z1y φ v w=some (64-(w+n),())/\n<=32/\zaj v.toNat n:=by
 unfold z1y;by_cases c:65536<=v
 .rw[if_pos (by simpa using c),if_pos (by decide),sh16,W_id (by omega) (by omega)];obtain⟨n,e,hn,hl⟩:=yhr φ (v / 65536) (w+16) (by omega) (by omega) (by omega) (by omega);refine⟨n+16,by rw[e];congr 2;omega,by omega,?_⟩;refine zaj.up 16 ?_ (by omega)
  rwa [show v.toNat / 2 ^ 16 =(v / 65536).toNat by omega]
 .rw[if_neg (by simpa using c)];obtain⟨n,e,hn,hl⟩:=yhr φ v w h (by omega) (by omega) (by omega);exact⟨n,e,by omega,hl⟩
theorem ynl(φ:Nat)(v:Int)(h:0<=v)(h':v<18446744073709551616):∃n:Nat,z3s φ v=some (64-(n:Int),())/\n<=64/\zaj v.toNat n:=by
 unfold z3s;by_cases c:4294967296<=v
 .rw[if_pos (by simpa using c),if_pos (by decide),sh32];obtain⟨n,e,hn,hl⟩:=yhq φ (v / 4294967296) 32 (by omega) (by omega) (by omega) (by omega);refine⟨n+32,by rw[e];congr 2;omega,by omega,?_⟩;refine zaj.up 32 ?_ (by omega)
  rwa [show v.toNat / 2 ^ 32 =(v / 4294967296).toNat by omega]
 .rw[if_neg (by simpa using c)];obtain⟨n,e,hn,hl⟩:=yhq φ v 0 h (by omega) (by omega) (by omega);exact⟨n,by rw[e];simp,by omega,hl⟩
theorem zuf{v:Int}(h:0<=v)(h':v<18446744073709551616):U ((BitVec.ofInt 64 v&&& BitVec.ofInt 64 4294967295).toNat)=v % 4294967296:=by
 show U ((BitVec.ofInt 64 v&&& BitVec.ofInt 64 4294967295).toNat:Int)=_;rw[BitVec.toNat_and,zb0 h h',zb0 (by omega) (by omega),yii (yhc (by omega))];have :(4294967295:Int).toNat=2 ^ 32-1:=by decide
 rw[this,Nat.and_two_pow_sub_one_eq_mod];omega
theorem zui{a b m n:Int}(ha:0<=a)(hb:0<=b)(h:a<=m)(h':b<=n):0<=a*b/\a*b<=m*n:=⟨w38 ha hb,Int.mul_le_mul h h' hb (by omega)⟩
theorem ydx(φ:Nat)(x y:Int)(hx:0<=x)(hx':x<18446744073709551616)(hy:0<=y)(hy':y<18446744073709551616):
  zas φ x y=some (x*y / 18446744073709551616,x*y % 18446744073709551616,()):=by
 unfold zas;simp only[show (0:Int)<=32 by decide,if_true];rw[zuf hx hx',zuf hy hy'];simp only[sh32];have ex:x=x / 4294967296*4294967296+x % 4294967296:=by omega
 have ey:y=y / 4294967296*4294967296+y % 4294967296:=by omega
 have a1:0<=x / 4294967296/\x / 4294967296<=4294967295:=by omega
 have a0:0<=x % 4294967296/\x % 4294967296<=4294967295:=by omega
 have b1:0<=y / 4294967296/\y / 4294967296<=4294967295:=by omega
 have b0:0<=y % 4294967296/\y % 4294967296<=4294967295:=by omega
 have hxy:x*y =(x / 4294967296)*(y / 4294967296)*18446744073709551616+((x / 4294967296)*(y % 4294967296)+(x % 4294967296)*(y / 4294967296))*4294967296+(x % 4294967296)*(y % 4294967296):=by
  conv=>lhs;rw[ex,ey]
  generalize x / 4294967296=a;generalize x % 4294967296=b;generalize y / 4294967296=c;generalize y % 4294967296=d;rw[w3w,w4u,w4u,w3w];have e1:a*4294967296*(c*4294967296)=a*c*18446744073709551616:=by rw[w2v,Int.mul_left_comm 4294967296 c,<- w2v];rfl
  have e2:a*4294967296*d=a*d*4294967296:=by rw[w4x]
  have e3:b*(c*4294967296)=b*c*4294967296:=by rw[w2v]
  rw[e1,e2,e3];omega
 have p11:=zui a1.1 b1.1 a1.2 b1.2;have p10:=zui a1.1 b0.1 a1.2 b0.2;have p01:=zui a0.1 b1.1 a0.2 b1.2;have p00:=zui a0.1 b0.1 a0.2 b0.2;rw[y9v (x*y),hxy];generalize (x / 4294967296)*(y / 4294967296)=p at *;generalize (x / 4294967296)*(y % 4294967296)=q at *;generalize (x % 4294967296)*(y / 4294967296)=r at *;generalize (x % 4294967296)*(y % 4294967296)=s at *;clear hxy ex ey a1 a0 b1 b0;rw[U_id (x:=p) (by omega) (by omega),U_id (x:=q) (by omega) (by omega),U_id (x:=r) (by omega) (by omega),U_id (x:=s) (by omega) (by omega)];rw[U_id (x:=q+s / 4294967296) (by omega) (by omega),zuf (by omega) (by omega),
  U_id (x:=(q+s / 4294967296) % 4294967296+r) (by omega) (by omega),U_id (x:=p+(q+s / 4294967296) / 4294967296) (by omega) (by omega),U_id (by omega) (by omega)]
 refine congrArg some (Prod.ext ?_ rfl);show _=_;omega
theorem ylt{yn1 yn0 u d q r:Int}(h1:2147483648<=yn1)(h1':yn1<4294967296)(h0:0<=yn0)(h0':yn0<4294967296)(hd:0<=d)(hd':d<4294967296)(hu:0<=u)
  (hu':u<yn1*4294967296+yn0) (hqr:q*yn1+r=u) (hr:0<=r) (hr':r<4294967296) (hq :(u*4294967296+d) /(yn1*4294967296+yn0)<=q) :
  0<=q/\q<=4294967297/\0<=(u*4294967296+d) /(yn1*4294967296+yn0)/\(u*4294967296+d) /(yn1*4294967296+yn0)<4294967296/\
  (4294967296<=q\/4294967296*r+d<q*yn0->(u*4294967296+d) /(yn1*4294967296+yn0)<=q-1)/\
  (¬(4294967296<=q\/4294967296*r+d<q*yn0)->q =(u*4294967296+d) /(yn1*4294967296+yn0))/\
  (4294967296<=q\/4294967296*r+d<q*yn0->4294967296<=r+yn1->q-1 =(u*4294967296+d) /(yn1*4294967296+yn0)):=by
 have hY:0<yn1*4294967296+yn0:=by omega
 have hQ0:0<=(u*4294967296+d) /(yn1*4294967296+yn0):=w33 (by omega) (by omega);have hQ1 :(u*4294967296+d) /(yn1*4294967296+yn0)<4294967296:=w3l hY (by omega);have hq0:0<=q:=by omega
 have key:q*(yn1*4294967296+yn0) =(u-r)*4294967296+q*yn0:=by rw[w4u,<- w2v,<- hqr];omega
 have hq2:q<=4294967297:=by
  rcases Int.lt_or_le 4294967297 q with h|h
  .have:4294967298*yn1<=q*yn1:=w4m (by omega) (by omega);omega
  .exact h
 have lt_of:∀{z:Int},(u*4294967296+d) /(yn1*4294967296+yn0)<z↔u*4294967296+d<z*(yn1*4294967296+yn0):=λ{z}=>Int.ediv_lt_iff_lt_mul hY
 refine⟨hq0,hq2,hQ0,hQ1,λh=>?_,λh=>?_,λh hr2=>?_⟩
 .have :(u*4294967296+d) /(yn1*4294967296+yn0)<q:=by
   rcases h with h|h
   .omega
   .rw[lt_of,key];omega
  omega
 .have:¬(u*4294967296+d) /(yn1*4294967296+yn0)<q:=by rw[lt_of,key];omega
  omega
 .have hq1 :(u*4294967296+d) /(yn1*4294967296+yn0)<q:=by
   rcases h with h|h
   .omega
   .rw[lt_of,key];omega
  have h2:¬(u*4294967296+d) /(yn1*4294967296+yn0)<q-1:=by
   rw[lt_of];have e :(q-1)*(yn1*4294967296+yn0) =(u-(r+yn1))*4294967296+(q-1)*yn0:=by
    have :(q-1)*yn1+(r+yn1)=u:=by rw[Int.sub_mul];omega
    rw[w4u,<- w2v,<- this];omega
   have b:=(zui (by omega:0<=q-1) h0 (by omega:q-1<=4294967296) (by omega:yn0<=4294967295)).2;rw[e];omega
  omega
theorem mulB{a b:Int}(h:0<=a)(h':a<4294967296)(g:0<=b)(g':b<4294967296):0<=a*b/\a*b<=18446744065119617025:=zui h g (by omega:a<=4294967295) (by omega:b<=4294967295)
theorem zwm{ρ:Type}(L:Nat->Int->Int->Option ρ)(k:Int->Option ρ){yn1 yn0 u d:Int}(h1:2147483648<=yn1)(h1':yn1<4294967296)(h0:0<=yn0)(h0':yn0<4294967296)(hd:0<=d)(hd':d<4294967296)(hu:0<=u)
  (hu':u<yn1*4294967296+yn0)
  (step:∀n q r,L (n+1) q r=if(decide (4294967296<=q)||decide (U (U (4294967296*r)+d)<U (q*yn0)))=true then(if decide (4294967296<=U (r+yn1))=true then k (U (q-1)) else L n (U (q-1)) (U (r+yn1))) else k q) :
  ∀(n:Nat)q r,q*yn1+r=u->0<=r->r<4294967296->(u*4294967296+d) /(yn1*4294967296+yn0)<=q->4294967296-r<=2147483648*n->L (n+1) q r=k ((u*4294967296+d) /(yn1*4294967296+yn0)):=by
 intro n
 induction n with
 |zero=>intro q r _ _ _ _ h;omega
 |succ n ih=>
  intro q r hqr hr hr' hq hn;obtain⟨g0,g1,g2,g3,g4,g5,g6⟩:=ylt h1 h1' h0 h0' hd hd' hu hu' hqr hr hr' hq;have hc :(decide (4294967296<=q)||decide (U (U (4294967296*r)+d)<U (q*yn0)))=true↔(4294967296<=q\/4294967296*r+d<q*yn0):=by
   rw[w14,decide_eq_true_eq,decide_eq_true_eq];by_cases hqB:4294967296<=q
   .simp[hqB]
   .have:=mulB g0 (by omega:q<4294967296) h0 h0'
    rw[U_id (x:=4294967296*r) (by omega) (by omega),U_id (by omega) (by omega),U_id (by omega) (by omega)]
  rw[step];by_cases c:4294967296<=q\/4294967296*r+d<q*yn0
  .have a4:=g4 c;rw[if_pos (hc.2 c),U_id (x:=r+yn1) (by omega) (by omega),U_id (x:=q-1) (by omega) (by omega)];by_cases e:4294967296<=r+yn1
   .rw[if_pos (by simpa using e),g6 c e]
   .rw[if_neg (by simpa using e)];exact ih _ _ (by rw[Int.sub_mul];omega) (by omega) (by omega) a4 (by omega)
  .rw[if_neg (λh=>c (hc.1 h)),<- g5 c]
theorem ztk{yn1 yn0 u d:Int}(h1:2147483648<=yn1)(h1':yn1<4294967296)(h0:0<=yn0)(h0':yn0<4294967296)(hd:0<=d)(hd':d<4294967296)(hu:0<=u)
  (hu':u<yn1*4294967296+yn0):U (u.tdiv yn1)=u / yn1/\U (u-U (U (u.tdiv yn1)*yn1))=u % yn1/\u / yn1*yn1+u % yn1=u/\0<=u % yn1/\u % yn1<4294967296/\
  (u*4294967296+d) /(yn1*4294967296+yn0)<=u / yn1:=by
 have e1:u.tdiv yn1=u / yn1:=w35 hu;have hdm:u / yn1*yn1+u % yn1=u:=by have:=w34 u yn1;exact this
 have hm0:=w3z u (by omega:yn1≠0);have hm1:=w42 u (by omega:0<yn1);have hq0:0<=u / yn1:=w33 hu (by omega);have hq1:u / yn1<=u:=Int.ediv_le_self _ hu;have hqm:0<=u / yn1*yn1:=w38 hq0 (by omega);rw[e1,U_id hq0 (by omega),U_id (x:=u / yn1*yn1) (by omega) (by omega),U_id (by omega) (by omega)];refine⟨rfl,by omega,hdm,hm0,by omega,?_⟩;have hY:0<yn1*4294967296+yn0:=by omega
 have hQ0:0<=(u*4294967296+d) /(yn1*4294967296+yn0):=w33 (by omega) (by omega);have hQ:=Int.ediv_mul_le (u*4294967296+d) (b:=yn1*4294967296+yn0) (by omega);generalize (u*4294967296+d) /(yn1*4294967296+yn0)=z at *;rw[w4u,<- w2v] at hQ;have:=w38 hQ0 h0;exact(Int.le_ediv_iff_mul_le (by omega)).2 (by omega)
theorem yib(a b c:Int):U (U (U a+b)-U c)=U (a+b-c):=by simp only[y9v];omega
theorem ymy{a b:Int}{s:Nat}(hs:s<=63)(ha:0<=a)(h:a*2 ^ s<18446744073709551616)(hb:0<=b)(hb':b<2 ^ s):
  U ((BitVec.ofInt 64 (U (a*2 ^ s))||| BitVec.ofInt 64 b).toNat)=a*2 ^ s+b:=by
 have hp :(0:Int)<2 ^ s:=Int.pow_pos (by decide);have hn:=w38 ha (Int.le_of_lt hp);have hp2 :(2:Int) ^ s =((2 ^ s:Nat):Int):=by simp
 have hlt :(2 ^ s:Nat)<18446744073709551616:=ygm hs;rw[U_id hn (by omega)];show U ((BitVec.ofInt 64 (a*2 ^ s)||| BitVec.ofInt 64 b).toNat:Int)=_;have hlt2:=(BitVec.ofInt 64 (a*2 ^ s)||| BitVec.ofInt 64 b).isLt;rw[yii (by omega),BitVec.toNat_or,zb0 hn h,zb0 hb (by omega)];obtain⟨n,rfl⟩:=Int.eq_ofNat_of_zero_le ha;obtain⟨m,rfl⟩:=Int.eq_ofNat_of_zero_le hb;have e :((n:Int)*2 ^ s).toNat=2 ^ s*n:=by rw[hp2,<- w4n,w1v,w54]
 rw[e,w1v,<- Nat.two_pow_add_eq_or_of_lt (by rw[hp2] at hb';omega)];simp[w4o]
theorem zpr(φ:Nat)(v:Int)(h:0<v)(h':v<18446744073709551616):∃s:Nat,z3s φ v=some ((s:Int),())/\s<=63/\
  9223372036854775808<=v*2 ^ s/\v*2 ^ s<18446744073709551616/\v<=2 ^ (64-s):=by
 obtain⟨n,e,hn,h1,h2⟩:=ynl φ v (by omega) h';obtain⟨h3,h4⟩:=h2 (by omega);refine⟨64-n,?_,by omega,?_,?_,?_⟩
 .rw[e];congr 2;omega
 .have:2 ^ (n-1)*2 ^ (64-n)<=v.toNat*2 ^ (64-n):=w12 _ h4;rw[<- w4t,show n-1+(64-n)=63 by omega] at this;have e2 :((v.toNat*2 ^ (64-n):Nat):Int)=v*2 ^ (64-n):=by rw[w4n,Int.natCast_pow];congr 1;omega
  omega
 .have:v.toNat*2 ^ (64-n)<2 ^ n*2 ^ (64-n):=Nat.mul_lt_mul_of_pos_right h1 (Nat.two_pow_pos _);rw[<- w4t,show n+(64-n)=64 by omega] at this;have e2 :((v.toNat*2 ^ (64-n):Nat):Int)=v*2 ^ (64-n):=by rw[w4n,Int.natCast_pow];congr 1;omega
  omega
 .rw[show 64-(64-n)=n by omega];have e2 :((2 ^ n:Nat):Int) =(2:Int) ^ n:=by simp
  omega
theorem ydv(φ:Nat)(hφ:5<φ)(hi lo y:Int)(h0:0<=hi)(hy:hi<y)(hy':y<18446744073709551616)(hl:0<=lo)(hl':lo<18446744073709551616):
  z9b φ hi lo y=some ((hi*18446744073709551616+lo) / y,(hi*18446744073709551616+lo) % y,()):=by
 unfold z9b;rw[if_neg (by simp;omega),if_neg (by simp;omega)];by_cases hz:hi=0
 .subst hz;rw[if_pos (by simp),z4 (by omega),z4 (by omega),w35 hl,w1u hl,U_id (w33 hl (by omega)) (by have:=Int.ediv_le_self y hl;omega)];simp
 rw[if_neg (by simpa using hz)];obtain⟨s,es,hs,hY1,hY2,hyP⟩:=zpr φ y (by omega) hy';have em1:min (s:Int).toNat 64=s:=by omega
 have em2:min (64-(s:Int)).toNat 64=64-s:=by omega
 have hp :(0:Int)<2 ^ s:=Int.pow_pos (by decide);have hP :(0:Int)<2 ^ (64-s):=Int.pow_pos (by decide);have hpP :(2:Int) ^ s*2 ^ (64-s)=18446744073709551616:=by rw[<- Int.pow_add,show s+(64-s)=64 by omega];rfl
 have hhp:hi*2 ^ s<y*2 ^ s:=w4y hy hp;have hlP0:0<=lo / 2 ^ (64-s):=w33 hl (by omega);have hlP1:lo / 2 ^ (64-s)<2 ^ s:=w3l hP (by omega);have hh0:0<=hi*2 ^ s:=w38 h0 (by omega)
 -- the low word
 have hlo10:U (lo*2 ^ s)=lo % 2 ^ (64-s)*2 ^ s:=by
  have e:lo=lo / 2 ^ (64-s)*2 ^ (64-s)+lo % 2 ^ (64-s):=(w34 lo _).symm;have e2:lo*2 ^ s=lo / 2 ^ (64-s)*18446744073709551616+lo % 2 ^ (64-s)*2 ^ s:=by
   conv=>lhs;rw[e]
   rw[w3w,w2v,w4o (2 ^ (64-s)),hpP]
  have m0:=w3z lo (by omega :(2:Int) ^ (64-s)≠0);have m1:=w42 lo hP;have m2:lo % 2 ^ (64-s)*2 ^ s<2 ^ (64-s)*2 ^ s:=w4y m1 hp;have m3:=w38 m0 (Int.le_of_lt hp);rw[w4o (2 ^ (64-s))] at m2;rw[e2,y9v];omega
 have hN :(hi*2 ^ s+lo / 2 ^ (64-s))*18446744073709551616+lo % 2 ^ (64-s)*2 ^ s =(hi*18446744073709551616+lo)*2 ^ s:=by
  have e:lo=lo / 2 ^ (64-s)*2 ^ (64-s)+lo % 2 ^ (64-s):=(w34 lo _).symm;have e2:lo*2 ^ s=lo / 2 ^ (64-s)*18446744073709551616+lo % 2 ^ (64-s)*2 ^ s:=by
   conv=>lhs;rw[e]
   rw[w3w,w2v,w4o (2 ^ (64-s)),hpP]
  have e3 :(hi*18446744073709551616+lo)*2 ^ s=hi*2 ^ s*18446744073709551616+lo*2 ^ s:=by rw[w3w,w4x]
  rw[e3,e2];omega
 have hun0:0<=lo % 2 ^ (64-s)*2 ^ s:=w38 (w3z lo (by omega)) (by omega);have hun1:lo % 2 ^ (64-s)*2 ^ s<18446744073709551616:=by rw[<- hlo10,y9v];omega
 have hu':hi*2 ^ s+lo / 2 ^ (64-s)<y*2 ^ s:=by have :(hi+1)*2 ^ s<=y*2 ^ s:=w4m (by omega) (by omega);rw[w3w] at this;omega
 have hs1:U (s:Int)=s:=U_id (by omega) (by omega);have hs2:U (64-(s:Int))=64-(s:Int):=U_id (by omega) (by omega);have ef:lo.fdiv (2 ^ (64-s))=lo / 2 ^ (64-s):=w1j _ (by omega);have eor:=ymy hs h0 (by omega:hi*2 ^ s<18446744073709551616) hlP0 hlP1;obtain⟨Y,hYd⟩:∃Y,Y=y*2 ^ s:=⟨_,rfl⟩;have eY:U (y*2 ^ s)=Y:=by rw[hYd];exact U_id (by omega) (by omega)
 obtain⟨u,hud⟩:∃u,u=hi*2 ^ s+lo / 2 ^ (64-s):=⟨_,rfl⟩;obtain⟨w,hwd⟩:∃w,w=lo % 2 ^ (64-s)*2 ^ s:=⟨_,rfl⟩;rw[<- hwd] at hlo10 hN hun0 hun1;rw[<- hud] at hN hu' eor;rw[<- hYd] at hu' hY1 hY2 hhp;have hu0:0<=u:=by omega
 have fY:Y.fdiv 4294967296=Y / 4294967296:=w1j _ (by omega);have fw:w.fdiv 4294967296=w / 4294967296:=w1j _ (by omega);have mY:=zuf (v:=Y) (by omega) (by omega);have mw:=zuf (v:=w) (by omega) (by omega);have b1:2147483648<=Y / 4294967296/\Y / 4294967296<4294967296/\0<=Y % 4294967296/\Y % 4294967296<4294967296:=by omega
 have b2:0<=w / 4294967296/\w / 4294967296<4294967296/\0<=w % 4294967296/\w % 4294967296<4294967296:=by omega
 have eYs:Y / 4294967296*4294967296+Y % 4294967296=Y:=by omega
 obtain⟨m,rfl⟩:∃m,φ=m+3:=⟨φ-3,by omega⟩;rw[es];simp only[w00,hs1,hs2,em1,em2,sh32,eY,hlo10,mY,mw,ef,eor,show (0:Int)<=32 by decide,if_true];rw[z4 (by omega),z4 (by omega),z4 (by omega),z4 (by omega),z4 (by omega)];obtain⟨i1,i2,i3,i4,i5,i6⟩:=ztk (u:=u) (d:=w / 4294967296) b1.1 b1.2.1 b1.2.2.1 b1.2.2.2 b2.1 b2.2.1 hu0 (by omega);rw[i1] at i2⊢;rw[i2];refine(zwm (λn q r=>z8f (m+3) n Y s (Y / 4294967296) (Y % 4294967296) u (w / 4294967296) (w % 4294967296) q r) (λq=>z8g (m+3) Y s (Y / 4294967296) (Y % 4294967296) u (w / 4294967296) (w % 4294967296) q)
  b1.1 b1.2.1 b1.2.2.1 b1.2.2.2 b2.1 b2.2.1 hu0 (by omega) (λn q r=>by rw[z8f]) (m+2) _ _ i3 i4 i5 i6 (by omega)).trans ?_
 rw[eYs];unfold z8g;rw[z4 (by omega)];have hQ1:0<=(u*4294967296+w / 4294967296) / Y/\(u*4294967296+w / 4294967296) / Y<4294967296:=⟨w33 (by omega) (by omega),w3l (by omega) (by omega)⟩;have hR1:=w34 (u*4294967296+w / 4294967296) Y;have hR1a:=w3z (u*4294967296+w / 4294967296) (by omega:Y≠0);have hR1b:=w42 (u*4294967296+w / 4294967296) (by omega:0<Y);generalize (u*4294967296+w / 4294967296) / Y=q1 at *;generalize (u*4294967296+w / 4294967296) % Y=r1 at *;have eu21:U (U (U (u*4294967296)+w / 4294967296)-U (q1*Y))=r1:=by rw[yib,show u*4294967296+w / 4294967296-q1*Y=r1 by omega];exact U_id hR1a (by omega)
 rw[eu21];obtain⟨j1,j2,j3,j4,j5,j6⟩:=ztk (u:=r1) (d:=w % 4294967296) b1.1 b1.2.1 b1.2.2.1 b1.2.2.2 b2.2.2.1 b2.2.2.2 hR1a (by omega);rw[j1] at j2⊢;rw[j2];refine(zwm (λn q r=>z8e (m+3) n Y s (Y / 4294967296) (Y % 4294967296) (w % 4294967296) q1 r r1 q) (λq=>z8h (m+3) Y s (w % 4294967296) q1 r1 q)
  b1.1 b1.2.1 b1.2.2.1 b1.2.2.2 b2.2.2.1 b2.2.2.2 hR1a (by omega) (λn q r=>by rw[z8e]) (m+2) _ _ j3 j4 j5 j6 (by omega)).trans ?_
 rw[eYs];unfold z8h;rw[em1,z4 (by omega)];have hQ0:0<=(r1*4294967296+w % 4294967296) / Y/\(r1*4294967296+w % 4294967296) / Y<4294967296:=⟨w33 (by omega) (by omega),w3l (by omega) (by omega)⟩;have hR0:=w34 (r1*4294967296+w % 4294967296) Y;have hR0a:=w3z (r1*4294967296+w % 4294967296) (by omega:Y≠0);have hR0b:=w42 (r1*4294967296+w % 4294967296) (by omega:0<Y);generalize (r1*4294967296+w % 4294967296) / Y=q0 at *;generalize (r1*4294967296+w % 4294967296) % Y=r0 at *;rw[yib,show r1*4294967296+w % 4294967296-q0*Y=r0 by omega,U_id (x:=r0) hR0a (by omega),U_id (x:=q1*4294967296) (by omega) (by omega),U_id (by omega) (by omega),w1j _ (by omega)];have hall :(hi*18446744073709551616+lo-(q1*4294967296+q0)*y)*2 ^ s=r0:=by rw[Int.sub_mul,<- hN,w2v,<- hYd,w3w,w4x];omega
 have hz0:0<=hi*18446744073709551616+lo-(q1*4294967296+q0)*y:=by
  rcases Int.lt_or_le (hi*18446744073709551616+lo-(q1*4294967296+q0)*y) 0 with h|h
  .have:=Int.mul_neg_of_neg_of_pos h hp;omega
  .exact h
 have hz1:hi*18446744073709551616+lo-(q1*4294967296+q0)*y<y:=by refine Int.lt_of_mul_lt_mul_right (a:=2 ^ s) ?_ (by omega);rw[hall,<- hYd];exact hR0b
 have hr0:r0 / 2 ^ s=hi*18446744073709551616+lo-(q1*4294967296+q0)*y:=by rw[<- hall];exact Int.mul_ediv_cancel _ (by omega)
 have hdm :(hi*18446744073709551616+lo) / y=q1*4294967296+q0/\(hi*18446744073709551616+lo) % y=hi*18446744073709551616+lo-(q1*4294967296+q0)*y:=(Int.ediv_emod_unique (by omega)).2 ⟨by rw[w4o y];omega,hz0,hz1⟩;rw[hr0,hdm.1,hdm.2]
end Px
end
