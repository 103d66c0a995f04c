/- A part of the proof of repairPayerMatchesReference_holds. Conditions: none. -/
import Derived.Test.YtakhlidbhepogaaGreatPmaf
import Derived.Test.YtakhlidbhepogaaGreatProg
import Derived.Ground.SlsfProg
import Derived.Ground.NamesProg
import Derived.Shelf.SlIterI.Nil
import Derived.Ground.GgzProg
import Derived.KernelRfl
set_option linter.unusedVariables false
set_option linter.unusedSimpArgs false
section
namespace Go.Proofs
open Go.Shelf
def Tryz.sortEv_ren:Go.Shelf.Ren:=⟨fun | 6=>37 | 15=>65 | 14=>64 | 28=>107 | 29=>108 | 20=>99 | 21=>100 | 22=>101 | 23=>102 | 24=>103 | 25=>104 | 26=>105 | 27=>106 | 46=>140 | 47=>141 | 48=>142 | 49=>143 | 50=>144 | 57=>166 | n=>n,fun | 22=>28 | 24=>24 | 25=>94 | 3=>3 | 39=>134 | 0=>0 | 53=>175 | 55=>110 | 4=>4 | 46=>168 | 45=>167 | 50=>172 | 5=>5 | 9=>9 | 66=>204 | 70=>158 | 76=>223 | 77=>224 | n=>n,fun | n=>n⟩
theorem Tryz.sortEv:Go.Proofs.SlLaysF0.n6 Tryz.prog Tryz.sortEv_ren:={
 mixed:=by kernel_rfl
 f6:=⟨Tryz.f37.name,by decide,Tryz.func37.trans (congrArg some (by kernel_rfl))⟩
 f14:=⟨Tryz.f64.name,by decide,Tryz.func64.trans (congrArg some (by kernel_rfl))⟩
 f15:=Tryz.func65.trans (congrArg some (by kernel_rfl))
 f20:=⟨Tryz.f99.name,by decide,Tryz.func99.trans (congrArg some (by kernel_rfl))⟩
 f21:=⟨Tryz.f100.name,by decide,Tryz.func100.trans (congrArg some (by kernel_rfl))⟩
 f22:=⟨Tryz.f101.name,by decide,Tryz.func101.trans (congrArg some (by kernel_rfl))⟩
 f23:=⟨Tryz.f102.name,by decide,Tryz.func102.trans (congrArg some (by kernel_rfl))⟩
 f24:=⟨Tryz.f103.name,by decide,Tryz.func103.trans (congrArg some (by kernel_rfl))⟩
 f25:=⟨Tryz.f104.name,by decide,Tryz.func104.trans (congrArg some (by kernel_rfl))⟩
 f26:=⟨Tryz.f105.name,by decide,Tryz.func105.trans (congrArg some (by kernel_rfl))⟩
 f27:=⟨Tryz.f106.name,by decide,Tryz.func106.trans (congrArg some (by kernel_rfl))⟩
 f28:=Tryz.func107.trans (congrArg some (by kernel_rfl))
 f29:=Tryz.func108.trans (congrArg some (by kernel_rfl))
 f46:=⟨Tryz.f140.name,by decide,Tryz.func140.trans (congrArg some (by kernel_rfl))⟩
 f47:=Tryz.func141.trans (congrArg some (by kernel_rfl))
 f48:=Tryz.func142.trans (congrArg some (by kernel_rfl))
 f49:=⟨Tryz.f143.name,by decide,Tryz.func143.trans (congrArg some (by kernel_rfl))⟩
 f50:=⟨Tryz.f144.name,by decide,Tryz.func144.trans (congrArg some (by kernel_rfl))⟩
 f57:=⟨Tryz.f166.name,by decide,Tryz.func166.trans (congrArg some (by kernel_rfl))⟩
 t0:=Tryz.underlying0
 a0:=Tryz.isAgg0
 z0:=Tryz.sizeOf0
 v0:=Tryz.zeroValue0
 t3:=Tryz.underlying3
 a3:=Tryz.isAgg3
 z3:=Tryz.sizeOf3
 v3:=Tryz.zeroValue3
 t4:=Tryz.underlying4
 a4:=Tryz.isAgg4
 z4:=Tryz.sizeOf4
 v4:=Tryz.zeroValue4
 t5:=Tryz.underlying5
 a5:=Tryz.isAgg5
 z5:=Tryz.sizeOf5
 v5:=Tryz.zeroValue5
 t9:=Tryz.underlying9
 a9:=Tryz.isAgg9
 z9:=Tryz.sizeOf9
 v9:=Tryz.zeroValue9
 t22:=Tryz.underlying28
 a22:=Tryz.isAgg28
 z22:=Tryz.sizeOf28
 v22:=Tryz.zeroValue28
 t25:=Tryz.underlying94
 a25:=Tryz.isAgg94
 z25:=Tryz.sizeOf94
 v25:=Tryz.zeroValue94
 t39:=Tryz.underlying134
 a39:=Tryz.isAgg134
 z39:=Tryz.sizeOf134
 v39:=Tryz.zeroValue134
 t45:=Tryz.underlying167
 a45:=Tryz.isAgg167
 z45:=Tryz.sizeOf167
 v45:=Tryz.zeroValue167
 t46:=Tryz.underlying168
 a46:=Tryz.isAgg168
 z46:=Tryz.sizeOf168
 v46:=Tryz.zeroValue168
 t50:=Tryz.underlying172
 a50:=Tryz.isAgg172
 z50:=Tryz.sizeOf172
 v50:=Tryz.zeroValue172
 t53:=Tryz.underlying175
 a53:=Tryz.isAgg175
 z53:=Tryz.sizeOf175
 v53:=Tryz.zeroValue175
 t55:=Tryz.underlying110
 a55:=Tryz.isAgg110
 z55:=Tryz.sizeOf110
 v55:=Tryz.zeroValue110
 t66:=Tryz.underlying204
 a66:=Tryz.isAgg204
 z66:=Tryz.sizeOf204
 v66:=Tryz.zeroValue204
 t70:=Tryz.underlying158
 a70:=Tryz.isAgg158
 z70:=Tryz.sizeOf158
 v70:=Tryz.zeroValue158
 t76:=Tryz.underlying223
 a76:=Tryz.isAgg223
 z76:=Tryz.sizeOf223
 v76:=Tryz.zeroValue223
 t77:=Tryz.underlying224
 a77:=Tryz.isAgg224
 z77:=Tryz.sizeOf224
 v77:=Tryz.zeroValue224 }
def Tryz.lays189_ren:Go.Shelf.Ren:=⟨fun | 189=>71 | 125=>65 | 257=>110 | 128=>107 | 129=>108 | 294=>145 | 295=>146 | 296=>147 | 297=>148 | 298=>149 | 299=>150 | 216=>151 | 300=>152 | 301=>153 | 328=>167 | 329=>141 | 330=>142 | 331=>168 | 332=>169 | 215=>66 | 343=>182 | n=>n,fun | 28=>34 | 3=>3 | 46=>134 | 0=>0 | 51=>175 | 53=>110 | 4=>4 | 183=>168 | 182=>167 | 131=>172 | 5=>5 | 9=>9 | 218=>204 | 222=>158 | 228=>223 | 229=>224 | n=>n,fun | n=>n⟩
theorem Tryz.lays189:Go.Proofs.Lays.n189 Tryz.prog Tryz.lays189_ren:={
 mixed:=by kernel_rfl
 f125:=Tryz.func65.trans (congrArg some (by kernel_rfl))
 f128:=Tryz.func107.trans (congrArg some (by kernel_rfl))
 f129:=Tryz.func108.trans (congrArg some (by kernel_rfl))
 f189:=Tryz.func71.trans (congrArg some (by kernel_rfl))
 f215:=Tryz.func66.trans (congrArg some (by kernel_rfl))
 f216:=Tryz.func151.trans (congrArg some (by kernel_rfl))
 f257:=Tryz.func110.trans (congrArg some (by kernel_rfl))
 f294:=Tryz.func145.trans (congrArg some (by kernel_rfl))
 f295:=Tryz.func146.trans (congrArg some (by kernel_rfl))
 f296:=Tryz.func147.trans (congrArg some (by kernel_rfl))
 f297:=Tryz.func148.trans (congrArg some (by kernel_rfl))
 f298:=Tryz.func149.trans (congrArg some (by kernel_rfl))
 f299:=Tryz.func150.trans (congrArg some (by kernel_rfl))
 f300:=Tryz.func152.trans (congrArg some (by kernel_rfl))
 f301:=Tryz.func153.trans (congrArg some (by kernel_rfl))
 f328:=Tryz.func167.trans (congrArg some (by kernel_rfl))
 f329:=Tryz.func141.trans (congrArg some (by kernel_rfl))
 f330:=Tryz.func142.trans (congrArg some (by kernel_rfl))
 f331:=Tryz.func168.trans (congrArg some (by kernel_rfl))
 f332:=Tryz.func169.trans (congrArg some (by kernel_rfl))
 f343:=Tryz.func182.trans (congrArg some (by kernel_rfl))
 t0:=Tryz.underlying0
 a0:=Tryz.isAgg0
 z0:=Tryz.sizeOf0
 v0:=Tryz.zeroValue0
 t3:=Tryz.underlying3
 a3:=Tryz.isAgg3
 z3:=Tryz.sizeOf3
 v3:=Tryz.zeroValue3
 t4:=Tryz.underlying4
 a4:=Tryz.isAgg4
 z4:=Tryz.sizeOf4
 v4:=Tryz.zeroValue4
 t5:=Tryz.underlying5
 a5:=Tryz.isAgg5
 z5:=Tryz.sizeOf5
 v5:=Tryz.zeroValue5
 t9:=Tryz.underlying9
 a9:=Tryz.isAgg9
 z9:=Tryz.sizeOf9
 v9:=Tryz.zeroValue9
 t28:=Tryz.underlying34
 a28:=Tryz.isAgg34
 z28:=Tryz.sizeOf34
 v28:=Tryz.zeroValue34
 t46:=Tryz.underlying134
 a46:=Tryz.isAgg134
 z46:=Tryz.sizeOf134
 v46:=Tryz.zeroValue134
 t51:=Tryz.underlying175
 a51:=Tryz.isAgg175
 z51:=Tryz.sizeOf175
 v51:=Tryz.zeroValue175
 t53:=Tryz.underlying110
 a53:=Tryz.isAgg110
 z53:=Tryz.sizeOf110
 v53:=Tryz.zeroValue110
 t131:=Tryz.underlying172
 a131:=Tryz.isAgg172
 z131:=Tryz.sizeOf172
 v131:=Tryz.zeroValue172
 t182:=Tryz.underlying167
 a182:=Tryz.isAgg167
 z182:=Tryz.sizeOf167
 v182:=Tryz.zeroValue167
 t183:=Tryz.underlying168
 a183:=Tryz.isAgg168
 z183:=Tryz.sizeOf168
 v183:=Tryz.zeroValue168
 t218:=Tryz.underlying204
 a218:=Tryz.isAgg204
 z218:=Tryz.sizeOf204
 v218:=Tryz.zeroValue204
 t222:=Tryz.underlying158
 a222:=Tryz.isAgg158
 z222:=Tryz.sizeOf158
 v222:=Tryz.zeroValue158
 t228:=Tryz.underlying223
 a228:=Tryz.isAgg223
 z228:=Tryz.sizeOf223
 v228:=Tryz.zeroValue223
 t229:=Tryz.underlying224
 a229:=Tryz.isAgg224
 z229:=Tryz.sizeOf224
 v229:=Tryz.zeroValue224 }
def Tryz.sortedK_ren:Go.Shelf.Ren:=⟨fun | 6=>44 | 8=>70 | 9=>71 | 11=>109 | 13=>65 | 12=>110 | 23=>107 | 24=>108 | 14=>145 | 15=>146 | 16=>147 | 17=>148 | 18=>149 | 19=>150 | 20=>151 | 21=>152 | 22=>153 | 25=>167 | 26=>141 | 27=>142 | 28=>168 | 29=>169 | 30=>66 | 31=>182 | n=>n,fun | 26=>3 | 28=>100 | 24=>34 | 0=>0 | 3=>3 | 37=>134 | 48=>175 | 50=>110 | 4=>4 | 40=>168 | 39=>167 | 45=>172 | 5=>5 | 9=>9 | 51=>204 | 55=>158 | 57=>223 | 58=>224 | 33=>135 | n=>n,fun | n=>n⟩
theorem Tryz.sortedK:Go.Proofs.SlLaysZI.n6 Tryz.prog Tryz.sortedK_ren:={
 mixed:=by kernel_rfl
 f6:=⟨Tryz.f44.name,by decide,Tryz.func44.trans (congrArg some (by kernel_rfl))⟩
 f8:=⟨Tryz.f70.name,by decide,Tryz.func70.trans (congrArg some (by kernel_rfl))⟩
 f11:=⟨Tryz.f109.name,by decide,Tryz.func109.trans (congrArg some (by kernel_rfl))⟩
 t0:=Tryz.underlying0
 a0:=Tryz.isAgg0
 z0:=Tryz.sizeOf0
 v0:=Tryz.zeroValue0
 t24:=Tryz.underlying34
 a24:=Tryz.isAgg34
 z24:=Tryz.sizeOf34
 v24:=Tryz.zeroValue34
 t26:=Tryz.underlying3
 a26:=Tryz.isAgg3
 z26:=Tryz.sizeOf3
 v26:=Tryz.zeroValue3
 t28:=Tryz.underlying100
 a28:=Tryz.isAgg100
 z28:=Tryz.sizeOf100
 v28:=Tryz.zeroValue100
 i26:=by kernel_rfl }
def Tryz.keysK_ren:Go.Shelf.Ren:=⟨fun | 10=>72 | n=>n,fun | 33=>135 | 23=>89 | 0=>0 | 4=>4 | 26=>3 | 3=>4 | n=>n,fun | n=>n⟩
theorem Tryz.keysK:Go.Proofs.SlLaysZI.n10 Tryz.prog Tryz.keysK_ren:={
 mixed:=by kernel_rfl
 f10:=⟨Tryz.f72.name,by decide,Tryz.func72.trans (congrArg some (by kernel_rfl))⟩
 t0:=Tryz.underlying0
 a0:=Tryz.isAgg0
 z0:=Tryz.sizeOf0
 v0:=Tryz.zeroValue0
 t4:=Tryz.underlying4
 a4:=Tryz.isAgg4
 z4:=Tryz.sizeOf4
 v4:=Tryz.zeroValue4
 t23:=Tryz.underlying89
 a23:=Tryz.isAgg89
 z23:=Tryz.sizeOf89
 v23:=Tryz.zeroValue89
 t26:=Tryz.underlying3
 a26:=Tryz.isAgg3
 z26:=Tryz.sizeOf3
 v26:=Tryz.zeroValue3
 t33:=Tryz.underlying135
 a33:=Tryz.isAgg135
 z33:=Tryz.sizeOf135
 v33:=Tryz.zeroValue135 }
end Go.Proofs
end
section
namespace Px
open Go
theorem ygs {σ ρ:Type} (L:Nat->Int->σ->Option ρ) (len:Nat) (Inv:Nat->σ->Prop) (G:Option ρ->Prop)
  (step:∀ n i s,i<len->Inv i s->(∀ s',Inv (i+1) s'->G (L n ((i:Int)+1) s'))->G (L (n+1) i s))
  (done:∀ n s,Inv len s->G (L (n+1) len s)):∀ n i s,i<=len->Inv i s->len-i<n->G (L n i s):=by
 intro n
 induction n with
 | zero=>intro i s _ _ h; omega
 | succ n ih=>
  intro i s hi hI hn
  by_cases h:i=len
  ·subst h; exact done n s hI
  ·refine step n i s (by omega) hI fun s' hs'=>?_
   have:=ih (i+1) s' (by omega) hs' (by omega)
   simpa using this
theorem z2d {σ ρ:Type} (L:Nat->Int->σ->Option ρ) (len:Nat) (Inv:Nat->σ->Prop) (G:Option ρ->Prop)
  (step:∀ n i s,i<len->Inv i s->(∀ s',Inv (i+1) s'->G (L n ((i:Int)+1) s'))->G (L (n+1) i s))
  (done:∀ n s,Inv len s->G (L (n+1) len s)) (n:Nat) (s:σ) (h:Inv 0 s) (hn:len<n):G (L n 0 s):=by
 simpa using ygs L len Inv G step done n 0 s (Nat.zero_le _) h (by omega)
theorem y2y (x:Int):W x=if x % 18446744073709551616 >= 9223372036854775808 then x % 18446744073709551616-18446744073709551616 else x % 18446744073709551616:=by
 simp [W,IntKind.wrap,IntKind.bits,IntKind.signed]
theorem ydy (x:Int):U x=x % 18446744073709551616:=by
 simp [U,IntKind.wrap,IntKind.bits,IntKind.signed]
theorem W_id {x:Int} (h : -9223372036854775808<=x) (h':x<=9223372036854775807):W x=x:=by
 rw [y2y]; split <;> omega
theorem U_id {x:Int} (h:0<=x) (h':x<=18446744073709551615):U x=x:=by
 rw [ydy]; omega
theorem zky {α:Type} [Inhabited α] (ok:α->Bool) (l:List α) (i:Nat) (h:i<l.length) :(l.take (i+1)).all ok =((l.take i).all ok&&ok (gt l (i:Int))):=by
 rw [List.take_succ_eq_append_getElem h,List.all_append]
 simp [gt,h]
theorem zkj {α:Type} [Inhabited α] (ok:α->Bool) (l:List α) (i:Nat) (h:i<l.length) :(l.take (i+1)).any ok =((l.take i).any ok||ok (gt l (i:Int))):=by
 rw [List.take_succ_eq_append_getElem h,List.any_append]
 simp [gt,h]
theorem z0k {α:Type} [Inhabited α] (l:List α) (i:Nat) (h:i<l.length):l.take (i+1)=l.take i++[gt l (i:Int)]:=by
 rw [List.take_succ_eq_append_getElem h]
 simp [gt,h]
theorem z7c {α:Type} [Inhabited α] {l:List α} {i:Int} (h0:0<=i) (h:i <(l.length:Int)):gt l i∈l:=by
 have hlt:i.toNat<l.length:=by omega
 simp [gt,hlt]
theorem zim {α:Type} [Inhabited α] {l:List α} {i:Nat} (h:i<l.length):gt l (i:Int)=l[i]:=by
 simp [gt,h]
theorem yek {α:Type} [Inhabited α] (l:List α) (i:Nat) (h:i<l.length):l.drop i=gt l (i:Int)::l.drop (i+1):=by
 rw [zim h,List.getElem_cons_drop]
theorem yk3 {α:Type} [Inhabited α] (l:List α) (i j:Int) (x:α) (hi:0<=i) (h:i <(l.length:Int)) (hj:0<=j):gt (z04 l i x) j=if j=i then x else gt l j:=by
 unfold gt z04
 by_cases e:j=i
 ·subst e
  have:j.toNat<l.length:=by omega
  simp [List.getD,List.getElem?_set,this]
 ·have:i.toNat≠j.toNat:=by omega
  simp [List.getD,List.getElem?_set,this,e]
theorem y3y {α:Type} [Inhabited α] (n:Nat) (x:α) (j:Int) (hj:0<=j) (h:j<n):gt (List.replicate n x) j=x:=by
 have:j.toNat<n:=by omega
 simp [gt,List.getD,List.getElem?_replicate,this]
theorem zj9 {α:Type} [Inhabited α] (l m:List α) (j:Int) (h0:0<=j) (h:j <(l.length:Int)):gt (l++m) j=gt l j:=by
 have:j.toNat<l.length:=by omega
 simp [gt,List.getD,List.getElem?_append,this]
theorem zct {α:Type} [Inhabited α] (l m:List α) (j:Int) (h :(l.length:Int)<=j):gt (l++m) j=gt m (j-l.length):=by
 have:¬ j.toNat<l.length:=by omega
 have e :(j-l.length).toNat=j.toNat-l.length:=by omega
 simp [gt,List.getD,List.getElem?_append,this,e]
theorem zuk {α ρ:Type} [Inhabited α] (L:Nat->Int->Int->Option ρ) (k:Int->Option ρ) (l:List α) (ok:α->Bool)
  (step:∀(n i:Nat) (s:Int),i<l.length->L (n+1) i s=L n ((i:Int)+1) (bif ok (gt l i) then s else 1)) (done:∀ n s,L (n+1) l.length s=k s) :
  ∀ n s,l.length<n->L n 0 s=k (bif l.all ok then s else 1):=by
 intro n s hn
 refine ygs L l.length (fun i t=>t=bif (l.take i).all ok then s else 1) (fun o=>o=k (bif l.all ok then s else 1)) ?_ ?_ n 0 s (Nat.zero_le _) (by simp) (by omega)
 ·intro n i t hi ht hs
  rw [step n i t hi]
  refine hs _ ?_
  rw [zky ok l i hi,ht]
  cases (l.take i).all ok <;> cases ok (gt l (i:Int)) <;> simp
 ·intro n t ht
  rw [done,ht,List.take_length]
theorem yh0 {α ρ:Type} [Inhabited α] (L:Nat->Int->Option ρ) (k:Option ρ) (l:List α) (p:α->Bool) (g:α->Option ρ)
  (step:∀ n i:Nat,i<l.length->L (n+1) i=bif p (gt l i) then g (gt l i) else L n ((i:Int)+1)) (done:∀ n,L (n+1) l.length=k) :
  ∀ n,l.length<n->L n 0=match l.find? p with | some x=>g x | none=>k:=by
 intro n hn
 refine z2d (fun n i (_:Unit)=>L n i) l.length (fun i _=>∀ x∈l.take i,p x=false) (fun o=>o=match l.find? p with | some x=>g x | none=>k) ?_ ?_ n () (by simp) hn
 ·intro n i _ hi hI hs
  simp only [step n i hi]
  cases e:p (gt l (i:Int)) with
  | false=>
   refine hs () ?_
   rw [z0k l i hi]
   intro x hx
   rcases List.mem_append.1 hx with h | h
   ·exact hI x h
   ·simp at h; rw [h]; exact e
  | true=>
   have:l.find? p=some (gt l (i:Int)):=by
    have h1:l=l.take i++(gt l (i:Int)::l.drop (i+1)):=by
     rw [zim hi,List.getElem_cons_drop,List.take_append_drop]
    generalize gt l (i:Int)=y at *
    rw [h1,List.find?_append,List.find?_eq_none.2 (fun x hx=>by simp [hI x hx])]
    simp [List.find?_cons,e]
   rw [this]; rfl
 ·intro n _ hI
  simp only [done]
  rw [List.take_length] at hI
  rw [List.find?_eq_none.2 (fun x hx=>by simp [hI x hx])]
theorem yha {α ρ:Type} (l:List α) (p:α->Bool) (r k:ρ) :(match l.find? p with | some _=>r | none=>k)=bif l.any p then r else k:=by
 induction l with
 | nil=>rfl
 | cons x l ih=>
  rw [List.find?_cons,List.any_cons]
  cases p x
  ·simpa using ih
  ·rfl
theorem z7t {α ρ:Type} [Inhabited α] (L:Nat->Int->Option ρ) (k r:Option ρ) (l:List α) (p:α->Bool)
  (step:∀ n i:Nat,i<l.length->L (n+1) i=bif p (gt l i) then r else L n ((i:Int)+1)) (done:∀ n,L (n+1) l.length=k)
  (n:Nat) (hn:l.length<n):L n 0=bif l.any p then r else k:=by
 rw [yh0 L k l p (fun _=>r) step done n hn,yha]
theorem zag {α σ ρ:Type} [Inhabited α] (L:Nat->Int->σ->Option ρ) (k:σ->Option ρ) (l:List α) (f:σ->α->σ) (Inv:Nat->σ->Prop)
  (step:∀(n i:Nat) (s:σ),i<l.length->Inv i s->L (n+1) i s=L n ((i:Int)+1) (f s (gt l i))/\Inv (i+1) (f s (gt l i))) (done:∀ n s,Inv l.length s->L (n+1) l.length s=k s)
  (n:Nat) (s:σ) (h0:Inv 0 s) (hn:l.length<n):L n 0 s=k (l.foldl f s)/\Inv l.length (l.foldl f s):=by
 refine z2d L l.length (fun i t=>t =(l.take i).foldl f s/\Inv i t) (fun o=>o=k (l.foldl f s)/\Inv l.length (l.foldl f s)) ?_ ?_ n s ⟨by simp,h0⟩ hn
 ·intro n i t hi ⟨ht,hI⟩ hs
  rw [(step n i t hi hI).1]
  refine hs _ ⟨?_,(step n i t hi hI).2⟩
  rw [z0k l i hi,List.foldl_append,<- ht]; rfl
 ·intro n t ⟨ht,hI⟩
  rw [List.take_length] at ht
  subst ht
  exact⟨done n _ hI,hI⟩
def bet (a b c:Int):Bool:=decide (b<=a)&&decide (a<=c)
theorem zva {a b c:Int} : bet a b c=true↔b<=a/\a<=c:=by simp [bet]
theorem zw0 {a b c:Int} (h:bet a b c=true):b<=a/\a<=c:=zva.1 h
theorem mk_t (n:Int) (b:Nat) (h0:0<=n) (h:n<=100000) (hb:b<=1000000):zry n b:=by
 refine⟨h0,?_,by omega⟩
 have :(b:Int)*n<=1000000*100000:=Int.mul_le_mul (by omega) h h0 (by omega)
 omega
theorem yns {x y z:Int} : min2 x y<z↔x<z\/y<z:=by unfold min2; split <;> omega
end Px
end
section
namespace Px
open Go
theorem zgc {a b:Int} : cmpI a b<0↔a<b:=by unfold cmpI; (repeat' split) <;> omega
theorem zp0 {a b:Int} : cmpI a b=0↔a=b:=by unfold cmpI; (repeat' split) <;> omega
theorem zw1 {a b:Int} : or2 a b<0↔a<0\/(a=0/\b<0):=by unfold or2; split <;> omega
theorem zij {a b:Part} : zq9 a b<0↔a.kind<b.kind\/(a.kind=b.kind/\a.serial<b.serial):=by
 unfold zq9; rw [zw1,zgc,zgc,zp0]
theorem ybt:Sort.SWO (Proofs.ltOf fun a b : {y:Part //(fun _:Part=>true) y=true}=>zq9 a.1 b.1) where
 irrefl:=fun x=>by simp only [Proofs.ltOf,decide_eq_false_iff_not]; rw [zij]; omega
 trans:=fun x y z h1 h2=>by simp only [Proofs.ltOf,decide_eq_true_eq] at *; rw [zij] at *; omega
 ntrans:=fun x y z h1 h2=>by simp only [Proofs.ltOf,decide_eq_false_iff_not] at *; rw [zij] at *; omega
theorem zf8 (φ:Nat) (a b:Int):z1s φ a b=some (cmpI a b,()):=by
 unfold z1s cmpI
 simp only [bne_self_eq_false,Bool.false_eq_true,if_false,decide_eq_true_eq]
 split
 ·rfl
 ·split <;> rfl
theorem yee (φ:Nat) (h:3<=φ) (a b:Int):zlk φ [a,b]=some (or2 a b,()):=by
 obtain⟨n,rfl⟩:∃ n,φ=n+3:=⟨φ-3,by omega⟩
 unfold zlk or2
 simp only [zcs,List.length_cons,List.length_nil]
 have w:∀ x:Int,0<=x->x<100->W (x+1)=x+1:=fun x h1 h2=>W_id (by omega) (by omega)
 have g0:gt [a,b] 0=a:=rfl
 have g1:gt [a,b] 1=b:=rfl
 rw [w 0 (by omega) (by omega),show (0:Int)+1=1 by rfl,w 1 (by omega) (by omega),show (1:Int)+1=2 by rfl,g0,g1]
 simp [ck]
 repeat' (split; try rfl)
 all_goals simp_all
theorem y7m (a b:Part):zfe 10 a b=some (zq9 a b,()):=by
 unfold zfe zq9
 simp only [zf8,Option.bind_some]
 rw [yee 10 (by omega)]
 rfl
theorem ycq {α:Type} {ok:α->Bool} {cf:α->α->Int} (ho:∀ a b c,cf a b >= 0->cf b c >= 0->cf a c >= 0) (hi:∀ a,cf a a >= 0) (ht:∀ a b c,cf a b<0->cf b c<0->cf a c<0) {l l':List α} (p:l.Perm l'):ztb ok cf l=ztb ok cf l':=by
 have hs:Sort.SWO (fun a b:α=>decide (cf a b<0)):=
  ⟨fun a=>by have:=hi a; simp; omega,fun a b c h1 h2=>by simp at *; exact ht a b c h1 h2,fun a b c h1 h2=>by simp at *; exact ho a b c h1 h2⟩
 have key:∀ l l' r:List α,l.Perm l'->ztb ok cf l=some r->ztb ok cf l'=some r:=by
  intro l l' r p h
  obtain⟨h1,h2,h3,rfl⟩:=y5t h
  have h3':l.Pairwise fun a b=>cf a b<0\/cf b a<0:=h3.imp fun h=>by simpa using h
  rw [yh9 (fun y hy=>h1 y (p.mem_iff.2 hy)) (by rw [<- p.length_eq]; exact h2) ((p.pairwise_iff (fun {a b} h=>h.symm)).1 h3')]
  rw [zyb (l:=l) h3 ((z7g _ _).trans p.symm) (z7g _ _) (zcz hs _) (zcz hs _)]
 cases h:ztb ok cf l with
 | some r=>exact(key l l' r p h).symm
 | none=>
  cases h':ztb ok cf l' with
  | none=>rfl
  | some r=>rw [key l' l r p.symm h'] at h; cases h
theorem y2g {l l':List Part} (p:l.Perm l'):zum l=zum l':=by
 have hlt:∀ a b:Part,zq9 a b >= 0->¬(a.kind<b.kind\/(a.kind=b.kind/\a.serial<b.serial)):=fun a b h q=>by have:=zij.2 q; omega
 have hge:∀ a b:Part,¬(a.kind<b.kind\/(a.kind=b.kind/\a.serial<b.serial))->zq9 a b >= 0:=fun a b h=>Int.not_lt.1 fun q=>h (zij.1 q)
 refine ycq (fun a b c h1 h2=>?_) (fun a=>hge a a (by omega)) (fun a b c h1 h2=>?_) p
 ·have:=hlt _ _ h1
  have:=hlt _ _ h2
  exact hge _ _ (by omega)
 ·rw [zij] at *; omega
theorem zoq (φ:Nat):∀(n:Nat) (w:Int) (p p':List Part) (rem:List (z7×List (Int×Bool))),p.Perm p'->zu φ n w p rem=zu φ n w p' rem
 | 0,w,p,p',rem,h=>rfl
 | n+1,w,p,p',[],h=>by simp only [zu,z0j,y2g h]
 | n+1,w,p,p',e::r,h=>by
  simp only [zu,z0j,z0h,Option.bind_some,h.length_eq]
  rw [zoq φ n w p p' r h,zoq φ n w _ _ r (h.append_right [_])]
theorem zxf (φ:Nat) {rem rem':List (z7×List (Int×Bool))} (h:rem.Perm rem'):∀(n:Nat) (w:Int) (p:List Part),zu φ n w p rem=zu φ n w p rem':=by
 induction h with
 | nil=>intros; rfl
 | cons e h ih=>
  intro n w p
  cases n with
  | zero=>rfl
  | succ n=>simp only [zu,z0j,z0h,Option.bind_some]; rw [ih n w p,ih n w (p++_)]
 | swap a b r=>
  intro n w p
  match n with
  | 0=>rfl
  | 1=>
   simp only [zu,z0j,z0h,Option.bind_some,ck]
   repeat' split
   all_goals rfl
  | n+2=>
   simp only [zu,z0j,z0h,Option.bind_some]
   cases hb :(((b.2.length:Int)==1)&&((cget kl_0 b.2 w).getD default)) <;> cases ha :(((a.2.length:Int)==1)&&((cget kl_0 a.2 w).getD default))
   ·simp
   ·simp
   ·simp
   ·simp only [if_true,List.append_assoc,List.cons_append,List.nil_append]
    have h:=zoq φ n w (p++[⟨b.1.kind,b.1.serial,true⟩,⟨a.1.kind,a.1.serial,true⟩]) (p++[⟨a.1.kind,a.1.serial,true⟩,⟨b.1.kind,b.1.serial,true⟩]) r (List.Perm.append_left p (List.Perm.swap _ _ _))
    simp only [List.length_append,List.length_cons,List.length_nil]
    rw [h]
 | trans h1 h2 ih1 ih2=>intro n w p; rw [ih1,ih2]
theorem ztl (φ:Nat) {rem rem':List (Int×Bool)} (h:rem.Perm rem') (hd:Ndp kl_0 rem) (k20):∀(n:Nat) (a b c d e f g i) (m:List (Int×Bool)),Srt' kl_0 m->z0d φ k20 n a b c d e f g i m rem=z0d φ k20 n a b c d e f g i m rem':=by
 induction h with
 | nil=>intros; rfl
 | cons x h ih=>
  intro n a b c d e f g i m hm
  cases n with
  | zero=>rfl
  | succ n=>simp only [z0d,z3n]; exact ih (List.pairwise_cons.1 hd).2 n _ _ _ _ _ _ _ _ _ (hm.set _ _)
 | swap x y r=>
  intro n a b c d e f g i m hm
  have hne:kl_0 y.1≠kl_0 x.1:=(List.pairwise_cons.1 hd).1 x (by simp)
  match n with
  | 0=>rfl
  | 1=>rfl
  | n+2=>
   simp only [z0d,z3n]
   rw [ygf hm hne]
 | trans h1 h2 ih1 ih2=>intro n a b c d e f g i m hm; rw [ih1 hd n _ _ _ _ _ _ _ _ m hm,ih2 (hd.perm h1) n _ _ _ _ _ _ _ _ m hm]
end Px
end
section
namespace Px
open Go Go.RowKit
section
variable {κ ν:Type} {e:κ->List Int} {num:κ->Int}
theorem yeg (he:∀ k,e k = [num k]) {m:List (κ×ν)} (h:Srt' e m) :(m.map fun p=>num p.1).Pairwise fun a b=>a<b:=by
 rw [List.pairwise_map]
 refine List.Pairwise.imp (fun {a b} hab=>?_) h
 rw [he,he] at hab
 simp only [ltI] at hab
 cases hd:decide (num a.1<num b.1) with
 | true=>exact of_decide_eq_true hd
 | false=>
  rw [hd] at hab
  simp only [cond_false] at hab
  cases hb :(num a.1==num b.1) with
  | true=>rw [hb] at hab; simp at hab
  | false=>rw [hb] at hab; simp at hab
theorem yg5 {ss l:List Int} (hp:ss.Perm l) (hl:l.Pairwise fun a b=>a<b):ss.mergeSort (fun x y=>decide (x<=y))=l:=by
 refine List.Perm.eq_of_pairwise (le:=fun a b:Int=>a<=b) (fun a b _ _ h1 h2=>by omega) ?_ (hl.imp fun h=>by omega) ((List.mergeSort_perm _ _).trans hp)
 have:=List.pairwise_mergeSort (le:=fun x y:Int=>decide (x<=y)) (by intro a b c h1 h2; simp at *; omega) (by intro a b; simp; omega) ss
 exact this.imp fun h=>by simpa using h
theorem yn2 {P:Program} {kt:TypeId} {eK:κ->Value} {eV:ν->Value} {w:World} {b:Nat} {m:List (κ×ν)} (hk:P.underlying kt=some (.int .i64)) (he:∀ k,e k = [num k]) (hK:∀ k,eK k = .int .i64 (num k))
  (hin:∀ p∈m,-9223372036854775808<=num p.1/\num p.1<9223372036854775808) (hl:m.length<=17592186044416) (h:CM w b e eK eV m) :
  ∃ D0:DataW Unit,w.ownsMap P kt (fun _=>some (.lit (.bool false),[])) b m.length D0/\Maps.size D0=m.length/\(intKeys D0).Perm (m.map fun p=>num p.1):=by
 obtain⟨hs,es,clock,m',h1,h2,h3,h4⟩:=h
 have hlen:es.toList.length=m.length:=by
  have:=congrArg List.length h4
  simp only [List.length_map] at this
  rw [this,h3.length_eq]
 have hkeys:es.toList.map (·.key)=m'.map fun p=>Value.int .i64 (num p.1):=by
  have:=congrArg (List.map (·.1)) h4
  simpa [Function.comp_def,hK] using this
 have hmem:∀ x∈es.toList,∃ n,x.key = .int .i64 n/\-9223372036854775808<=n/\n<9223372036854775808:=by
  intro x hx
  have:x.key∈es.toList.map (·.key):=List.mem_map.2 ⟨x,hx,rfl⟩
  rw [hkeys] at this
  obtain⟨p,hp,e1⟩:=List.mem_map.1 this
  exact⟨_,e1.symm,hin p (h3.mem_iff.1 hp)⟩
 have hrd:∀ n:Int,-9223372036854775808<=n->n<9223372036854775808->keyOf P kt (.int .i64 n)=some (.int .i64 n):=by
  intro n ha hb
  have hw :(Lit.int .i64 n).wf=true:=by
   simp only [Lit.wf,Bool.and_eq_true,decide_eq_true_eq]
   have e1:IntKind.i64.min=-9223372036854775808:=rfl
   have e2:IntKind.i64.max=9223372036854775807:=rfl
   rw [e1,e2]; omega
  simp [keyOf,hk,mapKey,hw]
 have hrd2:∀ x∈es.toList,∀ n,x.key = .int .i64 n->WideElems.rd P kt (fun _=>some ((.lit (.bool false):DataW Unit),[])) x=some (.int .i64 n,.lit (.bool false)):=by
  intro x hx n hn
  obtain⟨n',e1,ha,hb⟩:=hmem x hx
  rw [hn] at e1
  cases e1
  simp [WideElems.rd,hn,hrd n ha hb]
 have hints:es.toList.map (fun x=>Go.intOf (WideElems.rg P kt (fun _=>some ((.lit (.bool false):DataW Unit),[])) x).1)=m'.map fun p=>num p.1:=by
  have e1:es.toList.map (fun x=>Go.intOf (WideElems.rg P kt (fun _=>some ((.lit (.bool false):DataW Unit),[])) x).1) =(es.toList.map (·.key)).map fun v=>match v with | .int _ n=>n | _=>0:=by
   rw [List.map_map]
   refine List.map_congr_left fun x hx=>?_
   obtain⟨n,e1,_⟩:=hmem x hx
   simp only [WideElems.rg,hrd2 x hx n e1,Option.getD_some,Function.comp,e1,Go.intOf]
  rw [e1,hkeys,List.map_map]
  rfl
 refine⟨.map ((es.toList.map (WideElems.rg P kt fun _=>some (.lit (.bool false),[]))).foldr DataW.insert []),⟨es,clock,h1,⟨?_,⟨h2.lt,h2.nd,?_⟩,fun x hx=>?_⟩,?_,rfl⟩,?_,?_⟩
 ·have:es.size=m.length:=by simpa using hlen
  unfold maxLen; omega
 ·rw [hkeys]
  have h5:=yeg (num:=num) he hs
  have h6 :(m'.map fun p=>num p.1).Nodup:=(h3.map (fun p:κ×ν=>num p.1)).nodup_iff.2 (List.Pairwise.imp (fun {a b} h=>by omega) h5)
  have h7 :(m'.map fun p=>Value.int .i64 (num p.1)) =(m'.map fun p=>num p.1).map (Value.int .i64):=by rw [List.map_map]; rfl
  rw [h7]
  exact List.pairwise_map.2 (List.Pairwise.imp (fun {a b} h q=>h (by cases q; rfl)) h6)
 ·obtain⟨n,e1,_⟩:=hmem x hx
  exact⟨_,hrd2 x hx n e1⟩
 ·have:es.size=m.length:=by simpa using hlen
  omega
 ·rw [Maps.size_eq,(WideShapes.sorted_perm _).length_eq]
  simpa using hlen
 ·show (List.map (fun p:Lit×DataW Unit=>Go.intOf p.1) _).Perm _
  refine((WideShapes.sorted_perm _).map _).trans ?_
  rw [List.map_map]
  show (es.toList.map (fun x=>Go.intOf (WideElems.rg P kt (fun _=>some ((.lit (.bool false):DataW Unit),[])) x).1)).Perm _
  rw [hints]
  exact h3.map _
end
open Proofs in
theorem yqw {V:TE} {P:Program} {ρ σ τ:Shelf.Ren} (L:SlLaysZI.n6 P ρ) (K:SlLaysZI.n10 P σ) (S:Lays.n189 P τ) {kc vc E:Nat} (num:V.T kc->Int) (hl:∀ k,V.kl kc k = [num k]) (hv:∀ k,V.kv kc k = .int .i64 (num k)) (hev:∀ k,V.ev kc k = [iv .i64 (num k)]) (hsz:V.sz kc=1)
  (h9:ρ.f 9=τ.f 189) (h26:ρ.t 26=E) (e9:∀ args w,(callFunc (ρ.f 9) args).run P w = .ok (.enter (ρ.f 9) args) w) (eg:∀ args w,(callFunc (σ.f 10) args).run P w = .ok (.enter (σ.f 10) args) w):SoOK V P (ρ.f 6) ⟨σ.f 10,kc,vc,E⟩:=by
 intro m hm
 simp only [soK,Bool.and_eq_true,List.all_eq_true] at hm
 obtain⟨hin,hlen⟩:=hm
 have hlen:=Nat.le_of_ble_eq_true hlen
 have hin:∀ p∈m,-9223372036854775808<=num p.1/\num p.1<9223372036854775808:=by
  intro p hp
  have:=hin p hp
  rw [hl] at this
  simpa [inI] using this
 intro r w vs hr hsize hA
 obtain⟨caps,hfn,hc1,hc2⟩:=hA 0 _ rfl
 obtain⟨Bm,hcap,hrB,hcell⟩:=hc2 0 _ rfl
 obtain⟨u,hu,hmap,_⟩:=hcell 0 _ rfl
 have hcaps:caps = #[.pointer (some ⟨Bm,0,none⟩)]:=by
  refine Array.ext (by simpa using hc1) fun i h1 h2=>?_
  have:i=0:=by simp at h2; omega
  subst this
  rw [<- hcap]; simp [Array.getD_eq_getD_getElem?,h1]
 subst hcaps
 have hvs:vs = #[.func (.func (σ.f 10)) #[] #[.pointer (some ⟨Bm,0,none⟩)]]:=by
  refine Array.ext (by simpa using hsize) fun i h1 h2=>?_
  have:i=0:=by simp at h2; omega
  subst this
  rw [<- hfn]; simp [Array.getD_eq_getD_getElem?,h1]
 subst hvs
 have hBm:=hr Bm hrB
 have hsorts:AnyZI.SortsIn P ρ Fence.wide 4:=by
  refine⟨fun blk off cap ss W hH hb hs=>callsIn_wide.2 ?_,fun p cap W=>callsIn_wide.2 ?_⟩
  ·rw [h9]; exact Any.slices_Sort_int S blk off cap ss W hH hb hs
  ·rw [h9]; exact Any.slices_Sort_int_none S p cap W
 have fin:∀(Sq:List Int->Prop),(∀ ss,Sq ss->ss.Perm (m.map fun p=>num p.1))->(m.map fun p=>num p.1).Pairwise (fun a b=>a<b)->SeqGives Fence.wide 2 P (σ.f 10) #[.pointer (some ⟨Bm,0,none⟩)] encZ Sq m.length w->
   Calls P (ρ.f 6) #[.func (.func (σ.f 10)) #[] #[.pointer (some ⟨Bm,0,none⟩)]] w (retR w w.heap.size r w fun x news=>∃ sv,x=eqv sv/\news = [row E (V.ev kc) (V.sz kc) (m.map (·.1)) sv]):=by
  intro Sq hSq hlt hseq
  have cS:=AnyZI.sorted_in L Fence.wide 5 trivial trivial trivial trivial rfl (by omega) hsorts e9 (σ.f 10) #[.pointer (some ⟨Bm,0,none⟩)] trivial eg Sq m.length (by unfold maxLen; omega) (by omega) w hseq
  refine(callsIn_wide.1 cS).mono ?_
  rintro e w' ⟨v,ss,rfl,hS,hrow,hnil,hb⟩
  have hms:=yg5 (hSq ss hS) hlt
  have hsl:ss.length=m.length:=by rw [(hSq ss hS).length_eq,List.length_map]
  rw [hms] at hrow
  refine⟨v,eqv v,[row E (V.ev kc) (V.sz kc) (m.map (·.1)) v],r,fun j b=>j=0/\v.ownBlock=some b,rfl,⟨fun _ h=>h,fun b hb'=>hb.block b (hr b hb'),fun _ h=>.inl h⟩,⟨⟨hb,fun h=>(h:False).elim⟩,hb.size,?_,?_,?_,fun b hb'=>Nat.lt_of_lt_of_le (hr b hb') hb.size⟩,rfl,v,rfl,rfl⟩
  ·intro i H hi
   cases i with
   | succ i=>simp at hi
   | zero=>
    simp only [List.getElem?_cons_zero,Option.some.injEq] at hi
    subst hi
    rcases hrow.2 with⟨h1,h2⟩ |⟨g,cap,cur,h1,h2,h3,h4,h5,h6,h7⟩
    ·exact .inl ⟨h1,by rw [List.map_eq_nil_iff]; exact List.length_eq_zero_iff.1 (by omega)⟩
    ·refine .inr ⟨g,cap,cur,?_,⟨rfl,by rw [h1]; rfl⟩,?_,?_,h5,?_,?_⟩
     ·rw [h1,List.length_map,hsl]
     ·rw [<- h26]; exact h3
     ·rw [List.length_map]; omega
     ·rw [hsz]; exact h6
     ·rw [List.length_map,hsz,<- hsl,h7]
      have e1 :(m.map (·.1)).flatMap (V.ev kc) =((m.map fun p=>num p.1).map encZ).map eqv:=by
       rw [List.map_map,List.map_map,List.flatMap_map]
       have:∀ l:List (V.T kc×V.T vc),l.flatMap (fun a=>V.ev kc a.1)=l.map ((eqv ∘ encZ) ∘ fun p=>num p.1):=by
        intro l
        induction l with
        | nil=>rfl
        | cons a l ih=>rw [List.flatMap_cons,ih,hev]; rfl
       exact this m
      rw [e1]
      exact zr3 fun v hv=>by
       obtain⟨n,_,rfl⟩:=List.mem_map.1 hv
       rfl
  ·rintro i b ⟨rfl,hb'⟩
   rcases hrow.2 with⟨h1,_⟩ |⟨g,cap,cur,h1,h2,h3,_⟩
   ·rw [h1] at hb'; cases hb'
   ·rw [h1] at hb'
    cases hb'
    exact⟨by simp,h2,(Array.getElem?_eq_some_iff.1 h3).1,fun q=>Nat.lt_irrefl _ (Nat.lt_of_lt_of_le (hr _ q) h2)⟩
  ·rintro i j b ⟨rfl,_⟩ ⟨rfl,_⟩; rfl
 rcases hmap with⟨rfl,rfl⟩ |⟨b,t,rfl,hmt,hrb,hCM,_⟩
 ·refine fin (fun ss=>ss = []) (fun ss h=>by subst h; exact List.Perm.refl _) List.Pairwise.nil ?_
  exact AnyZI.keys_gives_nil { K with } Fence.wide _ trivial rfl Bm w hBm hu
 ·have hnum :(t.map fun p=>num p.1)=m.map fun p=>num p.1:=by rw [<- hmt,List.map_map]; rfl
  have htl:t.length=m.length:=by rw [<- hmt,List.length_map]
  obtain⟨D0,h1,h2,h3⟩:=yn2 (num:=num) K.t26 hl hv (fun p hp=>hin (p.1,p.2.1) (by rw [<- hmt]; exact List.mem_map.2 ⟨p,hp,rfl⟩)) (by omega) hCM
  refine fin (fun ss=>ss.Perm (intKeys D0)) (fun ss h=>by rw [<- hnum]; exact h.trans h3) (by rw [<- hnum]; exact yeg hl hCM.1) ?_
  have:=AnyZI.keys_gives { K with } Fence.wide 2 trivial rfl (by omega) Bm b _ D0 w hBm hu h1
  rw [h2,htl] at this
  exact this
end Px
end
section
set_option maxHeartbeats 4000000
set_option maxRecDepth 100000
namespace Px
open Go Go.RowKit Go.Proofs
def zh0 (φ:Nat):H TV (RTup TT [.val 2]):=.x
def zne (P:Program) (φ:Nat):Env TV:=⟨P,lk [],lk [],lk [],lk []⟩
theorem y5q (φ:Nat) (a) :(zhl φ).F a=fnX TV (zne Tryz.prog φ) φ Tryz.f26 [0,1] [.val 2] (zh0 φ) a:=by kernel_rfl
theorem y4k (φ:Nat):fnO TV (zne Tryz.prog φ) φ Tryz.f26 [.val 2] (zh0 φ):=by
 unfold fnO
 show obl _ _ _ _ _ _ _
 unfold zh0
 repeat' (first | exact trivial |(refine⟨?_,?_⟩) |(intro _) | kernel_rfl)
theorem zt2 [Dr] (φ:Nat):zr TV Tryz.prog 26 (zhl φ):=
 zx (N:=zne Tryz.prog φ) (zd trivial trivial trivial trivial) (zh0 φ) Tryz.func26 (by kernel_rfl) (y5q φ) (y4k φ)
def z9g (φ:Nat):H TV (RTup TT [.val 7]):=.x
def zda (P:Program) (φ:Nat):Env TV:=⟨P,lk [],lk [],lk [],lk []⟩
theorem zu2 (φ:Nat) (a) :(zdo φ).F a=fnX TV (zda Tryz.prog φ) φ Tryz.f25 [0,0,0,2] [.val 7] (z9g φ) a:=by kernel_rfl
theorem zth (φ:Nat):fnO TV (zda Tryz.prog φ) φ Tryz.f25 [.val 7] (z9g φ):=by
 unfold fnO
 show obl _ _ _ _ _ _ _
 unfold z9g
 repeat' (first | exact trivial |(refine⟨?_,?_⟩) |(intro _) | kernel_rfl)
theorem zu6 [Dr] (φ:Nat):zr TV Tryz.prog 25 (zdo φ):=
 zx (N:=zda Tryz.prog φ) (zd trivial trivial trivial trivial) (z9g φ) Tryz.func25 (by kernel_rfl) (zu2 φ) (zth φ)
def z0v (φ:Nat):H TV (List (TT 7)):=(.seq .x (.body (.loop ⟨[(53,[(0,.own 0),(1,.val 0),(2,.val 0),(3,.cmp 7),(8,.val 0)]),(1,[(0,.own 0)])],[.row 57 7]⟩ (fun n z=>z2p φ n z.1 z.2.1 z.2.2.1 z.2.2.2.1 z.2.2.2.2.1) (fun zk10=>(.seq .x (.seq (.body (.seq .x (.body (.loop ⟨[(53,[(0,.own 0),(1,.val 0),(2,.val 0),(3,.cmp 7),(8,.val 0),(9,.val 0)]),(1,[(0,.own 0)])],[.row 57 7]⟩ (fun n z=>z2r φ (fun a0 a1 a2 a3 a4=>zk10 (a0,a1,a2,a3,a4,())) n z.1 z.2.1 z.2.2.1 z.2.2.2.1 z.2.2.2.2.1 z.2.2.2.2.2.1) (fun zk17=>.x))))) .x))))))
def z3p (P:Program) (φ:Nat):Env TV:=⟨P,lk [],lk [],lk [],lk []⟩
theorem zdn (φ:Nat) (l a) :(z3r φ).F l a=fnM TV (z3p Tryz.prog φ) φ Tryz.f114 57 7 [.val 0,.val 0,.cmp 7] (z0v φ) l a:=by kernel_rfl
theorem zd8 (φ:Nat):fnMO TV (z3p Tryz.prog φ) φ Tryz.f114 57 7 (z0v φ):=by
 unfold fnMO
 show obl _ _ _ _ _ _ _
 unfold z0v
 repeat' (first | exact trivial |(refine⟨?_,?_⟩) |(intro _) | kernel_rfl)
theorem zd3 [Dr] (φ:Nat):zft TV Tryz.prog 114 (z3r φ):=zb9 (N:=z3p Tryz.prog φ) (zd trivial trivial trivial trivial) (z0v φ) Tryz.func114 (by kernel_rfl) (zdn φ) (zd8 φ)
def z2v (φ:Nat):H TV (List (TT 7)):=(.seq .x (.body (.loop ⟨[(38,[(0,.own 0),(1,.val 0),(2,.val 0),(3,.val 0),(10,.val 0)]),(1,[(0,.own 0)])],[.row 57 7]⟩ (fun n z=>z4l φ n z.1 z.2.1 z.2.2.1 z.2.2.2.1 z.2.2.2.2.1) (fun zk11=>.x))))
def z60 (P:Program) (φ:Nat):Env TV:=⟨P,lk [],lk [],lk [],lk []⟩
theorem zhm (φ:Nat) (l a) :(z6e φ).F l a=fnM TV (z60 Tryz.prog φ) φ Tryz.f173 57 7 [.val 0,.val 0,.val 0,.cmp 7] (z2v φ) l a:=by kernel_rfl
theorem zi4 (φ:Nat):fnMO TV (z60 Tryz.prog φ) φ Tryz.f173 57 7 (z2v φ):=by
 unfold fnMO
 show obl _ _ _ _ _ _ _
 unfold z2v
 repeat' (first | exact trivial |(refine⟨?_,?_⟩) |(intro _) | kernel_rfl)
theorem zhw [Dr] (φ:Nat):zft TV Tryz.prog 173 (z6e φ):=zb9 (N:=z60 Tryz.prog φ) (zd trivial trivial trivial trivial) (z2v φ) Tryz.func173 (by kernel_rfl) (zhm φ) (zi4 φ)
def z4y (φ:Nat):H TV (List (TT 7)):=(.seq .x (.seq .x (.seq (.body (.loop ⟨[(58,[(0,.own 0),(2,.val 0),(4,.cmp 7),(10,.val 0),(11,.val 0)]),(1,[(0,.own 0)])],[.row 57 7]⟩ (fun n z=>z3m φ n z.1 z.2.1 z.2.2.1 z.2.2.2.1 z.2.2.2.2.1) (fun zk11=>.x))) .x)))
def z7n (P:Program) (φ:Nat):Env TV:=⟨P,lk [],lk [(173,z6e φ)],lk [],lk []⟩
theorem zlw (φ:Nat) (l a) :(z7q φ).F l a=fnM TV (z7n Tryz.prog φ) φ Tryz.f155 57 7 [.val 0,.val 0,.val 0,.cmp 7] (z4y φ) l a:=by kernel_rfl
theorem zls (φ:Nat):fnMO TV (z7n Tryz.prog φ) φ Tryz.f155 57 7 (z4y φ):=by
 unfold fnMO
 show obl _ _ _ _ _ _ _
 unfold z4y
 repeat' (first | exact trivial |(refine⟨?_,?_⟩) |(intro _) | kernel_rfl)
theorem zlq [Dr] (φ:Nat):zft TV Tryz.prog 155 (z7q φ):=zb9 (N:=z7n Tryz.prog φ) (zd trivial ⟨(zhw φ),trivial⟩ trivial trivial) (z4y φ) Tryz.func155 (by kernel_rfl) (zlw φ) (zls φ)
def z3k (φ d:Nat):H TV (List (TT 7)):=(.seq (.seq .x (.cond (.seq .x (.seq .x (.seq (.body (.loop ⟨[(220,[(0,.own 0),(1,.val 0),(4,.cmp 7),(10,.val 0),(11,.val 0)]),(1,[(0,.own 0)])],[.row 57 7]⟩ (fun n z=>z2h φ n z.1 z.2.1 z.2.2.1 z.2.2.2.1 z.2.2.2.2.1) (fun zk11=>.x))) (.seq (.seq .x (.body (.loop ⟨[(220,[(0,.own 0),(10,.val 0),(13,.val 0)]),(1,[(0,.own 0)])],[.row 57 7]⟩ (fun n z=>z59 φ n z.1 z.2.1 z.2.2.1) (fun zk16=>.x)))) .x)))) .x)) (.seq (.seq .x (.cond (.seq .x (.seq .x (.seq (.body (.loop ⟨[(220,[(0,.own 0),(2,.val 0),(4,.cmp 7),(14,.val 0),(15,.val 0)]),(1,[(0,.own 0)])],[.row 57 7]⟩ (fun n z=>z2c φ n z.1 z.2.1 z.2.2.1 z.2.2.2.1 z.2.2.2.2.1) (fun zk22=>.x))) (.seq (.seq .x (.body (.loop ⟨[(220,[(0,.own 0),(14,.val 0),(17,.val 0)]),(1,[(0,.own 0)])],[.row 57 7]⟩ (fun n z=>z52 φ n z.1 z.2.1 z.2.2.1) (fun zk27=>.x)))) .x)))) .x)) (.seq .x (.seq .x (.seq .x (.seq (.join ⟨[(220,[(0,.own 0),(1,.val 0),(2,.val 0),(3,.val 0),(4,.cmp 7),(18,.val 0),(19,.val 0),(20,.val 0),(21,.val 0)]),(1,[(0,.own 0)])],[.row 57 7]⟩ (fun z=>z5a φ (zw φ d) z.1 z.2.1 z.2.2.1 z.2.2.2.1 z.2.2.2.2.1 z.2.2.2.2.2.1 z.2.2.2.2.2.2.1 z.2.2.2.2.2.2.2.1 z.2.2.2.2.2.2.2.2.1) (.seq .x .x)) (.seq .x (.seq (.body (.loop ⟨[(220,[(0,.own 0),(1,.val 0),(2,.val 0),(3,.val 0),(4,.cmp 7),(18,.val 0),(19,.val 0),(20,.val 0),(21,.val 0),(22,.val 0)]),(1,[(0,.own 0)])],[.row 57 7]⟩ (fun n z=>z2f φ (zw φ d) n z.1 z.2.1 z.2.2.1 z.2.2.2.1 z.2.2.2.2.1 z.2.2.2.2.2.1 z.2.2.2.2.2.2.1 z.2.2.2.2.2.2.2.1 z.2.2.2.2.2.2.2.2.1 z.2.2.2.2.2.2.2.2.2.1) (fun zk48=>.x))) (.seq .x (.seq (.join ⟨[(220,[(0,.own 0),(1,.val 0),(3,.val 0),(4,.cmp 7),(18,.val 0),(20,.val 0),(24,.val 0)]),(1,[(0,.own 0)])],[.row 57 7]⟩ (fun z=>z54 φ (zw φ d) z.1 z.2.1 z.2.2.1 z.2.2.2.1 z.2.2.2.2.1 z.2.2.2.2.2.1 z.2.2.2.2.2.2.1) (.seq .x .x)) (.seq (.join ⟨[(220,[(0,.own 0),(3,.val 0),(4,.cmp 7),(18,.val 0),(24,.val 0)]),(1,[(0,.own 0)])],[.row 57 7]⟩ (fun z=>z58 φ (zw φ d) z.1 z.2.1 z.2.2.1 z.2.2.2.1 z.2.2.2.2.1) (.seq .x .x)) .x)))))))))))
def z6w (P:Program) (φ d:Nat):Env TV:=⟨P,lk [],lk [(155,z7q φ),(115,z3l φ d)],lk [],lk []⟩
theorem zii (φ d:Nat) (l a) :(z3l φ (d+1)).F l a=fnM TV (z6w Tryz.prog φ d) φ Tryz.f115 57 7 [.val 0,.val 0,.val 0,.cmp 7] (z3k φ d) l a:=by kernel_rfl
theorem zir (φ d:Nat):fnMO TV (z6w Tryz.prog φ d) φ Tryz.f115 57 7 (z3k φ d):=by
 unfold fnMO
 show obl _ _ _ _ _ _ _
 unfold z3k
 repeat' (first | exact trivial |(refine⟨?_,?_⟩) |(intro _) | kernel_rfl)
theorem z9w [Dr] (φ:Nat):∀ d,zft TV Tryz.prog 115 (z3l φ d)
 | 0=>fun l a l2 sv h=>absurd (show (none:Option (List (TT 7)))=some l2 from h) (fun q=>by cases q)
 | d+1=>zb9 (N:=z6w Tryz.prog φ d) (zd trivial ⟨(zlq φ),(z9w φ d),trivial⟩ trivial trivial) (z3k φ d) Tryz.func115 (by kernel_rfl) (zii φ d) (zir φ d)
def z4x (φ:Nat):H TV (List (TT 7)):=(.seq .x (.seq .x (.seq (.body (.loop ⟨[(63,[(0,.own 0),(1,.val 0),(2,.cmp 7),(6,.val 0),(7,.val 0),(8,.val 0)]),(1,[(0,.own 0)])],[.row 57 7]⟩ (fun n z=>z6t φ n z.1 z.2.1 z.2.2.1 z.2.2.2.1 z.2.2.2.2.1 z.2.2.2.2.2.1) (fun zk10=>.x))) (.seq .x (.body (.loop ⟨[(63,[(0,.own 0),(1,.val 0),(2,.cmp 7),(6,.val 0)]),(1,[(0,.own 0)])],[.row 57 7]⟩ (fun n z=>z6m φ n z.1 z.2.1 z.2.2.1 z.2.2.2.1) (fun zk17=>(.seq .x (.body (.seq .x (.seq (.body (.loop ⟨[(63,[(0,.own 0),(1,.val 0),(2,.cmp 7),(6,.val 0),(7,.val 0),(8,.val 0)]),(1,[(0,.own 0)])],[.row 57 7]⟩ (fun n z=>z6q φ (fun a0 a1 a2 a3=>zk17 (a0,a1,a2,a3,())) n z.1 z.2.1 z.2.2.1 z.2.2.2.1 z.2.2.2.2.1 z.2.2.2.2.2.1) (fun zk24=>.x))) .x)))))))))))
def z7r (P:Program) (φ:Nat):Env TV:=⟨P,lk [],lk [(114,z3r φ),(115,z3l φ φ)],lk [],lk []⟩
theorem zlv (φ:Nat) (l a) :(z7o φ).F l a=fnM TV (z7r Tryz.prog φ) φ Tryz.f79 57 7 [.val 0,.cmp 7] (z4x φ) l a:=by kernel_rfl
theorem zlu (φ:Nat):fnMO TV (z7r Tryz.prog φ) φ Tryz.f79 57 7 (z4x φ):=by
 unfold fnMO
 show obl _ _ _ _ _ _ _
 unfold z4x
 repeat' (first | exact trivial |(refine⟨?_,?_⟩) |(intro _) | kernel_rfl)
theorem zly [Dr] (φ:Nat):zft TV Tryz.prog 79 (z7o φ):=zb9 (N:=z7r Tryz.prog φ) (zd trivial ⟨(zd3 φ),(z9w φ φ),trivial⟩ trivial trivial) (z4x φ) Tryz.func79 (by kernel_rfl) (zlv φ) (zlu φ)
def z43 (φ:Nat):H TV (List (TT 7)):=.x
def z78 (P:Program) (φ:Nat):Env TV:=⟨P,lk [],lk [(79,z7o φ)],lk [],lk []⟩
theorem zl6 (φ:Nat) (l a) :(z41 φ).F l a=fnM TV (z78 Tryz.prog φ) φ Tryz.f52 57 7 [.cmp 7] (z43 φ) l a:=by kernel_rfl
theorem zld (φ:Nat):fnMO TV (z78 Tryz.prog φ) φ Tryz.f52 57 7 (z43 φ):=by
 unfold fnMO
 show obl _ _ _ _ _ _ _
 unfold z43
 repeat' (first | exact trivial |(refine⟨?_,?_⟩) |(intro _) | kernel_rfl)
theorem zar [Dr] (φ:Nat):zft TV Tryz.prog 52 (z41 φ):=zb9 (N:=z78 Tryz.prog φ) (zd trivial ⟨(zly φ),trivial⟩ trivial trivial) (z43 φ) Tryz.func52 (by kernel_rfl) (zl6 φ) (zld φ)
def zf2 (φ:Nat):H TV (RTup TT [.val 0]):=.x
def zlf (P:Program) (φ:Nat):Env TV:=⟨P,lk [],lk [],lk [],lk []⟩
theorem y1y (φ:Nat) (a) :(z4c φ).F a=fnX TV (zlf Tryz.prog φ) φ Tryz.f40 [0,0] [.val 0] (zf2 φ) a:=by kernel_rfl
theorem y0f (φ:Nat):fnO TV (zlf Tryz.prog φ) φ Tryz.f40 [.val 0] (zf2 φ):=by
 unfold fnO
 show obl _ _ _ _ _ _ _
 unfold zf2
 repeat' (first | exact trivial |(refine⟨?_,?_⟩) |(intro _) | kernel_rfl)
theorem z74 [Dr] (φ:Nat):zr TV Tryz.prog 40 (z4c φ):=
 zx (N:=zlf Tryz.prog φ) (zd trivial trivial trivial trivial) (zf2 φ) Tryz.func40 (by kernel_rfl) (y1y φ) (y0f φ)
def zui (φ:Nat):H TV (RTup TT [.val 0]):=(.seq .x (.seq .x (.seq (.seq .x (.body (.loop ⟨[(18,[(3,.val 0),(6,.val 8),(7,.val 0),(8,.val 0)])],[]⟩ (fun n z=>zcs φ n z.1 z.2.1 z.2.2.1 z.2.2.2.1) (fun zk6=>.x)))) .x)))
def y0e (P:Program) (φ:Nat):Env TV:=⟨P,lk [],lk [],lk [],lk []⟩
theorem yj3 (φ:Nat) (a) :(ze5 φ).F a=fnX TV (y0e Tryz.prog φ) φ Tryz.f39 [8] [.val 0] (zui φ) a:=by kernel_rfl
theorem yk6 (φ:Nat):fnO TV (y0e Tryz.prog φ) φ Tryz.f39 [.val 0] (zui φ):=by
 unfold fnO
 show obl _ _ _ _ _ _ _
 unfold zui
 repeat' (first | exact trivial |(refine⟨?_,?_⟩) |(intro _) | kernel_rfl)
theorem ziz [Dr] (φ:Nat):zr TV Tryz.prog 39 (ze5 φ):=
 zx (N:=y0e Tryz.prog φ) (zd trivial trivial trivial trivial) (zui φ) Tryz.func39 (by kernel_rfl) (yj3 φ) (yk6 φ)
def zch (φ:Nat):H TV (RTup TT [.val 0]):=.x
def zid (P:Program) (φ:Nat):Env TV:=⟨P,lk [(40,z4c φ),(39,ze5 φ)],lk [],lk [],lk []⟩
theorem zy0 (φ:Nat) (a) :(zci φ).F a=fnX TV (zid Tryz.prog φ) φ Tryz.f53 [7,7] [.val 0] (zch φ) a:=by kernel_rfl
theorem zwy (φ:Nat):fnO TV (zid Tryz.prog φ) φ Tryz.f53 [.val 0] (zch φ):=by
 unfold fnO
 show obl _ _ _ _ _ _ _
 unfold zch
 repeat' (first | exact trivial |(refine⟨?_,?_⟩) |(intro _) | kernel_rfl)
theorem zof [Dr] (φ:Nat):zr TV Tryz.prog 53 (zci φ):=
 zx (N:=zid Tryz.prog φ) (zd ⟨z74 φ,ziz φ,trivial⟩ trivial trivial trivial) (zch φ) Tryz.func53 (by kernel_rfl) (zy0 φ) (zwy φ)
def z73 (φ:Nat):H TV (RTup TT [.val 0]):=.x
def z9n (P:Program) (φ:Nat):Env TV:=⟨P,lk [(40,z4c φ),(53,zci φ),(39,ze5 φ)],lk [],lk [],lk []⟩
theorem zpd (φ:Nat) (a) :(z9u φ).F a=fnX TV (z9n Tryz.prog φ) φ Tryz.f63 [7,7] [.val 0] (z73 φ) a:=by kernel_rfl
theorem zov (φ:Nat):fnO TV (z9n Tryz.prog φ) φ Tryz.f63 [.val 0] (z73 φ):=by
 unfold fnO
 show obl _ _ _ _ _ _ _
 unfold z73
 repeat' (first | exact trivial |(refine⟨?_,?_⟩) |(intro _) | kernel_rfl)
theorem zp1 [Dr] (φ:Nat):zr TV Tryz.prog 63 (z9u φ):=
 zx (N:=z9n Tryz.prog φ) (zd ⟨z74 φ,zof φ,ziz φ,trivial⟩ trivial trivial trivial) (z73 φ) Tryz.func63 (by kernel_rfl) (zpd φ) (zov φ)
def zk2 (φ:Nat):H TV (RTup TT [.val 9]):=.x
def zp4 (P:Program) (φ:Nat):Env TV:=⟨P,lk [],lk [],lk [],lk []⟩
theorem y8n (φ:Nat) (a) :(zbr φ).F a=fnX TV (zp4 Tryz.prog φ) φ Tryz.f47 [2] [.val 9] (zk2 φ) a:=by kernel_rfl
theorem y9d (φ:Nat):fnO TV (zp4 Tryz.prog φ) φ Tryz.f47 [.val 9] (zk2 φ):=by
 unfold fnO
 show obl _ _ _ _ _ _ _
 unfold zk2
 repeat' (first | exact trivial |(refine⟨?_,?_⟩) |(intro _) | kernel_rfl)
theorem zkx [Dr] (φ:Nat):zr TV Tryz.prog 47 (zbr φ):=
 zx (N:=zp4 Tryz.prog φ) (zd trivial trivial trivial trivial) (zk2 φ) Tryz.func47 (by kernel_rfl) (y8n φ) (y9d φ)
def z8t (φ:Nat):H TV (RTup TT [.val 12]):=(.seq .x (.seq .x (.seq (.seq .x (.body (.loop ⟨[(80,[(1,.val 0),(5,.own 0),(14,.val 10),(15,.val 0),(16,.val 0)])],[.row 57 7]⟩ (fun n z=>z7u φ n z.1 z.2.1 z.2.2.1 z.2.2.2.1 z.2.2.2.2.1) (fun zk8=>.x)))) (.seq .x (.seq .x (.seq (.seq .x (.body (.loop ⟨[(80,[(8,.own 0),(39,.own 1),(40,.val 0),(41,.val 0)])],[.map 9 11 0,.row 57 7]⟩ (fun n z=>z9r φ n z.1 z.2.1 z.2.2.1 z.2.2.2.1) (fun zk14=>(.seq .x (.seq .x (.seq (.body (.seq .x (.seq .x (.body (.loop ⟨[(80,[(8,.own 0),(10,.ptr 1 0),(39,.own 2),(40,.val 0),(41,.val 0),(47,.val 5),(48,.val 0),(49,.val 0)])],[.map 9 11 0,.box 57 [.val 7],.row 57 7]⟩ (fun n z=>z2k φ (fun a0 a1 a2 a3=>zk14 (a0,a1,a2,a3,())) n z.1 z.2.1 z.2.2.1 z.2.2.2.1 z.2.2.2.2.1 z.2.2.2.2.2.1 z.2.2.2.2.2.2.1 z.2.2.2.2.2.2.2.1) (fun zk23=>(.seq .x (.seq .x (.seq (.body (.seq .x (.seq .x (.seq (.seq .x (.cond (.seq (.foc (8,none) (54,none) .x) .x) .x)) (.seq (.seq (.foc (8,none) (54,none) .x) .x) .x))))) .x))))))))) .x))))))) .x))))))
def zbx (P:Program) (φ:Nat):Env TV:=⟨P,lk [(63,z9u φ),(47,zbr φ)],lk [(52,z41 φ)],lk [],lk []⟩
theorem zs7 (φ:Nat) (a) :(z6v φ).F a=fnX TV (zbx Tryz.prog φ) φ Tryz.f35 [10,0] [.val 12] (z8t φ) a:=by kernel_rfl
theorem zqx (φ:Nat):fnO TV (zbx Tryz.prog φ) φ Tryz.f35 [.val 12] (z8t φ):=by
 unfold fnO
 show obl _ _ _ _ _ _ _
 unfold z8t
 repeat' (first | exact trivial |(refine⟨?_,?_⟩) |(intro _) | kernel_rfl)
theorem zbe [Dr] (φ:Nat):zr TV Tryz.prog 35 (z6v φ):=
 zx (N:=zbx Tryz.prog φ) (zd ⟨zp1 φ,zkx φ,trivial⟩ ⟨(zar φ),trivial⟩ trivial trivial) (z8t φ) Tryz.func35 (by kernel_rfl) (zs7 φ) (zqx φ)
def z4d (φ:Nat):H TV (RTup TT [.val 2]):=.x
def z79 (P:Program) (φ:Nat):Env TV:=⟨P,lk [],lk [],lk [],lk []⟩
theorem zit (φ:Nat) (a) :(z4b φ).F a=fnX TV (z79 Tryz.prog φ) φ Tryz.f36 [9] [.val 2] (z4d φ) a:=by kernel_rfl
theorem zkw (φ:Nat):fnO TV (z79 Tryz.prog φ) φ Tryz.f36 [.val 2] (z4d φ):=by
 unfold fnO
 show obl _ _ _ _ _ _ _
 unfold z4d
 repeat' (first | exact trivial |(refine⟨?_,?_⟩) |(intro _) | kernel_rfl)
theorem zay [Dr] (φ:Nat):zr TV Tryz.prog 36 (z4b φ):=
 zx (N:=z79 Tryz.prog φ) (zd trivial trivial trivial trivial) (z4d φ) Tryz.func36 (by kernel_rfl) (zit φ) (zkw φ)
theorem ykl:SoOK TV Tryz.prog 44 ⟨72,0,1,3⟩:=
 yqw (V:=TV) (ρ:=Tryz.sortedK_ren) (σ:=Tryz.keysK_ren) (τ:=Tryz.lays189_ren) Tryz.sortedK Tryz.keysK Tryz.lays189 (kc:=0) (vc:=1) (E:=3) (fun n:Int=>n) (fun _=>rfl) (fun _=>rfl) (fun _=>rfl) (by kernel_rfl) rfl rfl (enters_of Tryz.func71 (by kernel_rfl) rfl) (enters_of Tryz.func72 (by kernel_rfl) rfl)
def z8p (φ:Nat):H TV (RTup TT [.val 14]):=(.seq .x (.seq .x (.seq .x (.seq (.seq .x (.body (.loop ⟨[(41,[(8,.own 0),(9,.ptr 1 0),(10,.val 11),(23,.own 2),(24,.val 0),(25,.val 0)])],[.row 73 13,.box 88 [.val 9],.row 3 0]⟩ (fun n z=>z9o φ n z.1 z.2.1 z.2.2.1 z.2.2.2.1 z.2.2.2.2.1 z.2.2.2.2.2.1) (fun zk12=>.x)))) .x))))
def zbb (P:Program) (φ:Nat):Env TV:=⟨P,lk [(35,z6v φ),(36,z4b φ)],lk [],lk [],lk [(44,⟨72,0,1,3⟩)]⟩
theorem zr9 (φ:Nat) (a) :(zbw φ).F a=fnX TV (zbb Tryz.prog φ) φ Tryz.f16 [10,0,0,0] [.val 14] (z8p φ) a:=by kernel_rfl
theorem zr1 (φ:Nat):fnO TV (zbb Tryz.prog φ) φ Tryz.f16 [.val 14] (z8p φ):=by
 unfold fnO
 show obl _ _ _ _ _ _ _
 unfold z8p
 repeat' (first | exact trivial |(refine⟨?_,?_⟩) |(intro _) | kernel_rfl)
theorem zr2 (φ:Nat):zr TV Tryz.prog 16 (zbw φ):=
 zx (N:=zbb Tryz.prog φ) (zd ⟨zbe φ,zay φ,trivial⟩ trivial trivial ⟨ykl,trivial⟩) (z8p φ) Tryz.func16 (by kernel_rfl) (zr9 φ) (zr1 φ)
def zae (φ:Nat):H TV (RTup TT [.val 13]):=.x
def zge (P:Program) (φ:Nat):Env TV:=⟨P,lk [(26,zhl φ)],lk [],lk [],lk []⟩
theorem zvl (φ:Nat) (a) :(zgg φ).F a=fnX TV (zge Tryz.prog φ) φ Tryz.f33 [0,1] [.val 13] (zae φ) a:=by kernel_rfl
theorem zuo (φ:Nat):fnO TV (zge Tryz.prog φ) φ Tryz.f33 [.val 13] (zae φ):=by
 unfold fnO
 show obl _ _ _ _ _ _ _
 unfold zae
 repeat' (first | exact trivial |(refine⟨?_,?_⟩) |(intro _) | kernel_rfl)
theorem zw9 [Dr] (φ:Nat):zr TV Tryz.prog 33 (zgg φ):=
 zx (N:=zge Tryz.prog φ) (zd ⟨zt2 φ,trivial⟩ trivial trivial trivial) (zae φ) Tryz.func33 (by kernel_rfl) (zvl φ) (zuo φ)
def z6l (φ:Nat):H TV (RTup TT [.val 1]):=(.seq .x (.seq .x (.seq (.seq .x (.body (.loop ⟨[(26,[(0,.val 14),(1,.val 14),(5,.val 0)])],[]⟩ (fun n z=>z8b φ n z.1 z.2.1 z.2.2.1) (fun zk6=>.x)))) .x)))
def z90 (P:Program) (φ:Nat):Env TV:=⟨P,lk [],lk [],lk [],lk []⟩
theorem zo7 (φ:Nat) (a) :(z8z φ).F a=fnX TV (z90 Tryz.prog φ) φ Tryz.f15 [14,14] [.val 1] (z6l φ) a:=by kernel_rfl
theorem zob (φ:Nat):fnO TV (z90 Tryz.prog φ) φ Tryz.f15 [.val 1] (z6l φ):=by
 unfold fnO
 show obl _ _ _ _ _ _ _
 unfold z6l
 repeat' (first | exact trivial |(refine⟨?_,?_⟩) |(intro _) | kernel_rfl)
theorem zo6 [Dr] (φ:Nat):zr TV Tryz.prog 15 (z8z φ):=
 zx (N:=z90 Tryz.prog φ) (zd trivial trivial trivial trivial) (z6l φ) Tryz.func15 (by kernel_rfl) (zo7 φ) (zob φ)
def z8m (φ:Nat):H TV (RTup TT [.val 0]):=.x
def zbh (P:Program) (φ:Nat):Env TV:=⟨P,lk [(40,z4c φ),(39,ze5 φ)],lk [],lk [],lk []⟩
theorem zrp (φ:Nat) (a) :(zbs φ).F a=fnX TV (zbh Tryz.prog φ) φ Tryz.f38 [2,2] [.val 0] (z8m φ) a:=by kernel_rfl
theorem zs8 (φ:Nat):fnO TV (zbh Tryz.prog φ) φ Tryz.f38 [.val 0] (z8m φ):=by
 unfold fnO
 show obl _ _ _ _ _ _ _
 unfold z8m
 repeat' (first | exact trivial |(refine⟨?_,?_⟩) |(intro _) | kernel_rfl)
theorem zin [Dr] (φ:Nat):zr TV Tryz.prog 38 (zbs φ):=
 zx (N:=zbh Tryz.prog φ) (zd ⟨z74 φ,ziz φ,trivial⟩ trivial trivial trivial) (z8m φ) Tryz.func38 (by kernel_rfl) (zrp φ) (zs8 φ)
def zyq:Msp TV:=⟨24,2,[.fn 38],fun l _=>zum l⟩
theorem yc0 [Dr]:zft TV Tryz.prog 37 zyq:=
 yew (V:=TV) (c:=2) (ρ:=Tryz.sortEv_ren) Tryz.sortEv Tryz.isAgg24 (by rw [show TV.sz 2=3 by kernel_rfl]; exact Tryz.sizeOf24) (by kernel_rfl) (by kernel_rfl) ⟨Tryz.f38,Tryz.func38,by kernel_rfl,by kernel_rfl⟩ ybt fun a b ha hb=>
  @zla.mono ⟨True⟩ _ _ _ _ _ (@zin ⟨True⟩ 10 (a,b,()) (zq9 a b,()) (y7m a b)) fun x news ⟨B,hB,h1,h2⟩=>by
   cases B with
   | nil=>exact⟨h1,h2⟩
   | cons y B=>cases hB
theorem zvv (φ:Nat) (z z':Sh.Z TT (⟨[(34,[(1,.val 0),(6,.own 0),(12,.own 1)])],[.row 24 2,.it 9 11]⟩:Sh)) (h:Sh.eqZ TT (⟨[(34,[(1,.val 0),(6,.own 0),(12,.own 1)])],[.row 24 2,.it 9 11]⟩:Sh) z z') (hok:∀ o∈(Sh.enc TV (⟨[(34,[(1,.val 0),(6,.own 0),(12,.own 1)])],[.row 24 2,.it 9 11]⟩:Sh) z).ob,okO TV o):∀ n,z0j φ (zu φ n) z'.1 z'.2.1 z'.2.2.1=z0j φ (zu φ n) z.1 z.2.1 z.2.2.1:=by
 obtain⟨a,b,c,u⟩:=z
 obtain⟨a',b',c',u'⟩:=z'
 have h:a=a'/\b=b'/\c.Perm c'/\True:=h
 obtain⟨rfl,rfl,hp,_⟩:=h
 exact fun n=>(zxf φ hp (n+1) a b).symm
def zaq (φ:Nat):H TV (RTup TT [.val 5]):=(.seq .x (.seq (.seq .x (.body (.loop ⟨[(34,[(1,.val 0),(6,.own 0),(12,.own 1)])],[.row 24 2,.it 9 11]⟩ (fun n z=>zu φ n z.1 z.2.1 z.2.2.1) (fun zk8=>(.seq (.pk ⟨[(34,[(1,.val 0),(6,.own 0),(12,.own 1)])],[.row 24 2,.it 9 11]⟩ (fun z=>z0j φ (fun a0 a1 a2=>zk8 (a0,a1,a2,())) z.1 z.2.1 z.2.2.1)) .x))))) .x))
def zfg (P:Program) (φ:Nat):Env TV:=⟨P,lk [(35,z6v φ),(36,z4b φ),(38,zbs φ)],lk [(37,zyq)],lk [],lk []⟩
theorem zvs (φ:Nat) (a) :(zff φ).F a=fnX TV (zfg Tryz.prog φ) φ Tryz.f13 [10,0,0] [.val 5] (zaq φ) a:=by kernel_rfl
theorem zuv (φ:Nat):fnO TV (zfg Tryz.prog φ) φ Tryz.f13 [.val 5] (zaq φ):=by
 unfold fnO
 show obl _ _ _ _ _ _ _
 unfold zaq
 repeat' (first | exact trivial |(refine⟨?_,?_⟩) |(intro _) |(rename_i h1 h2; have q:=zvv φ _ _ h1 h2; exact q _) | kernel_rfl)
theorem zv9 [Dr] (φ:Nat):zr TV Tryz.prog 13 (zff φ):=
 zx (N:=zfg Tryz.prog φ) (zd ⟨zbe φ,zay φ,zin φ,trivial⟩ ⟨(yc0),trivial⟩ trivial trivial) (zaq φ) Tryz.func13 (by kernel_rfl) (zvs φ) (zuv φ)
def z8e (φ:Nat):H TV (RTup TT [.val 1]):=(.seq .x (.seq .x (.seq (.seq .x (.body (.loop ⟨[(26,[(0,.val 5),(1,.val 5),(5,.val 0)])],[]⟩ (fun n z=>zb3 φ n z.1 z.2.1 z.2.2.1) (fun zk6=>.x)))) .x)))
def zbo (P:Program) (φ:Nat):Env TV:=⟨P,lk [],lk [],lk [],lk []⟩
theorem zqt (φ:Nat) (a) :(zbc φ).F a=fnX TV (zbo Tryz.prog φ) φ Tryz.f12 [5,5] [.val 1] (z8e φ) a:=by kernel_rfl
theorem zrx (φ:Nat):fnO TV (zbo Tryz.prog φ) φ Tryz.f12 [.val 1] (z8e φ):=by
 unfold fnO
 show obl _ _ _ _ _ _ _
 unfold z8e
 repeat' (first | exact trivial |(refine⟨?_,?_⟩) |(intro _) | kernel_rfl)
theorem zqq [Dr] (φ:Nat):zr TV Tryz.prog 12 (zbc φ):=
 zx (N:=zbo Tryz.prog φ) (zd trivial trivial trivial trivial) (z8e φ) Tryz.func12 (by kernel_rfl) (zqt φ) (zrx φ)
def zc8 (φ:Nat):H TV (RTup TT [.val 7]):=.x
def zie (P:Program) (φ:Nat):Env TV:=⟨P,lk [],lk [],lk [],lk []⟩
theorem zy1 (φ:Nat) (a) :(zif φ).F a=fnX TV (zie Tryz.prog φ) φ Tryz.f24 [0,0,0] [.val 7] (zc8 φ) a:=by kernel_rfl
theorem zxb (φ:Nat):fnO TV (zie Tryz.prog φ) φ Tryz.f24 [.val 7] (zc8 φ):=by
 unfold fnO
 show obl _ _ _ _ _ _ _
 unfold zc8
 repeat' (first | exact trivial |(refine⟨?_,?_⟩) |(intro _) | kernel_rfl)
theorem zxq [Dr] (φ:Nat):zr TV Tryz.prog 24 (zif φ):=
 zx (N:=zie Tryz.prog φ) (zd trivial trivial trivial trivial) (zc8 φ) Tryz.func24 (by kernel_rfl) (zy1 φ) (zxb φ)
theorem ztp (φ:Nat) (z z':Sh.Z TT (⟨[(16,[(0,.own 0),(7,.own 1)]),(50,[(1,.val 0),(5,.val 12),(6,.own 0),(15,.val 10),(16,.val 0),(17,.val 0),(33,.val 5),(34,.val 0),(35,.val 0)])],[.map 0 1 0,.it 0 1]⟩:Sh)) (h:Sh.eqZ TT (⟨[(16,[(0,.own 0),(7,.own 1)]),(50,[(1,.val 0),(5,.val 12),(6,.own 0),(15,.val 10),(16,.val 0),(17,.val 0),(33,.val 5),(34,.val 0),(35,.val 0)])],[.map 0 1 0,.it 0 1]⟩:Sh) z z') (hok:∀ o∈(Sh.enc TV (⟨[(16,[(0,.own 0),(7,.own 1)]),(50,[(1,.val 0),(5,.val 12),(6,.own 0),(15,.val 10),(16,.val 0),(17,.val 0),(33,.val 5),(34,.val 0),(35,.val 0)])],[.map 0 1 0,.it 0 1]⟩:Sh) z).ob,okO TV o):∀ k n,z3n φ k (z0d φ k n) z'.1 z'.2.1 z'.2.2.1 z'.2.2.2.1 z'.2.2.2.2.1 z'.2.2.2.2.2.1 z'.2.2.2.2.2.2.1 z'.2.2.2.2.2.2.2.1 z'.2.2.2.2.2.2.2.2.1 z'.2.2.2.2.2.2.2.2.2.1=z3n φ k (z0d φ k n) z.1 z.2.1 z.2.2.1 z.2.2.2.1 z.2.2.2.2.1 z.2.2.2.2.2.1 z.2.2.2.2.2.2.1 z.2.2.2.2.2.2.2.1 z.2.2.2.2.2.2.2.2.1 z.2.2.2.2.2.2.2.2.2.1:=by
 obtain⟨a,b,c,d,e,f,g,i,m,x,u⟩:=z
 obtain⟨a',b',c',d',e',f',g',i',m',x',u'⟩:=z'
 have h:a=a'/\b=b'/\c=c'/\d=d'/\e=e'/\f=f'/\g=g'/\i=i'/\m=m'/\x.Perm x'/\True:=h
 obtain⟨rfl,rfl,rfl,rfl,rfl,rfl,rfl,rfl,rfl,hp,_⟩:=h
 have hok:∀ o∈[(SO.x (.map 0 1 0 m none):SO TT),.x (.it 0 1 x none)],okO TV o:=hok
 have hm:Srt' kl_0 m:=hok (.x (.map 0 1 0 m none)) (by simp)
 have hd:Ndp kl_0 x:=hok (.x (.it 0 1 x none)) (by simp)
 exact fun k n=>(ztl φ hp hd k (n+1) a b c d e f g i m hm).symm
def z9j (φ:Nat):H TV (RTup TT [.val 8]):=(.seq .x (.seq .x (.seq .x (.seq (.seq .x (.body (.loop ⟨[(50,[(1,.val 0),(5,.val 12),(6,.own 0),(15,.val 10),(16,.val 0),(17,.val 0)])],[.map 0 1 0]⟩ (fun n z=>z7x φ n z.1 z.2.1 z.2.2.1 z.2.2.2.1 z.2.2.2.2.1 z.2.2.2.2.2.1) (fun zk10=>(.seq .x (.seq .x (.seq (.body (.seq .x (.seq .x (.seq .x (.body (.loop ⟨[(50,[(1,.val 0),(5,.val 12),(6,.own 0),(15,.val 10),(16,.val 0),(17,.val 0),(33,.val 5),(34,.val 0),(35,.val 0)])],[.map 0 1 0]⟩ (fun n z=>zaz φ (fun a0 a1 a2 a3 a4 a5=>zk10 (a0,a1,a2,a3,a4,a5,())) n z.1 z.2.1 z.2.2.1 z.2.2.2.1 z.2.2.2.2.1 z.2.2.2.2.2.1 z.2.2.2.2.2.2.1 z.2.2.2.2.2.2.2.1 z.2.2.2.2.2.2.2.2.1) (fun zk20=>(.seq .x (.seq .x (.seq (.body (.seq .x (.ins 5 46 (.seq .x (.body (.loop ⟨[(16,[(0,.own 0),(7,.own 1)]),(50,[(1,.val 0),(5,.val 12),(6,.own 0),(15,.val 10),(16,.val 0),(17,.val 0),(33,.val 5),(34,.val 0),(35,.val 0)])],[.map 0 1 0,.it 0 1]⟩ (fun n z=>z0d φ (fun a0 a1 a2 a3 a4 a5 a6 a7 a8=>zk20 (a0,a1,a2,a3,a4,a5,a6,a7,a8,())) n z.1 z.2.1 z.2.2.1 z.2.2.2.1 z.2.2.2.2.1 z.2.2.2.2.2.1 z.2.2.2.2.2.2.1 z.2.2.2.2.2.2.2.1 z.2.2.2.2.2.2.2.2.1 z.2.2.2.2.2.2.2.2.2.1) (fun zk32=>(.seq (.pk ⟨[(16,[(0,.own 0),(7,.own 1)]),(50,[(1,.val 0),(5,.val 12),(6,.own 0),(15,.val 10),(16,.val 0),(17,.val 0),(33,.val 5),(34,.val 0),(35,.val 0)])],[.map 0 1 0,.it 0 1]⟩ (fun z=>z3n φ (fun a0 a1 a2 a3 a4 a5 a6 a7 a8=>zk20 (a0,a1,a2,a3,a4,a5,a6,a7,a8,())) (fun a0 a1 a2 a3 a4 a5 a6 a7 a8 a9=>zk32 (a0,a1,a2,a3,a4,a5,a6,a7,a8,a9,())) z.1 z.2.1 z.2.2.1 z.2.2.2.1 z.2.2.2.2.1 z.2.2.2.2.2.1 z.2.2.2.2.2.2.1 z.2.2.2.2.2.2.2.1 z.2.2.2.2.2.2.2.2.1 z.2.2.2.2.2.2.2.2.2.1)) .x))))) .x))) .x)))))))))) .x))))))) .x))))
def zdw (P:Program) (φ:Nat):Env TV:=⟨P,lk [(35,z6v φ),(47,zbr φ)],lk [],lk [],lk [(44,⟨72,0,1,3⟩)]⟩
theorem zte (φ:Nat) (a) :(zdr φ).F a=fnX TV (zdw Tryz.prog φ) φ Tryz.f19 [10,0] [.val 8] (z9j φ) a:=by kernel_rfl
theorem ztd (φ:Nat):fnO TV (zdw Tryz.prog φ) φ Tryz.f19 [.val 8] (z9j φ):=by
 unfold fnO
 show obl _ _ _ _ _ _ _
 unfold z9j
 repeat' (first | exact trivial |(refine⟨?_,?_⟩) |(intro _) |(rename_i h1 h2; have q:=ztp φ _ _ h1 h2; exact q _ _) | kernel_rfl)
theorem ztf (φ:Nat):zr TV Tryz.prog 19 (zdr φ):=
 zx (N:=zdw Tryz.prog φ) (zd ⟨zbe φ,zkx φ,trivial⟩ trivial trivial ⟨ykl,trivial⟩) (z9j φ) Tryz.func19 (by kernel_rfl) (zte φ) (ztd φ)
def z9e (φ:Nat):H TV (RTup TT [.val 1]):=(.seq .x (.seq .x (.seq (.seq .x (.body (.loop ⟨[(26,[(0,.val 8),(1,.val 8),(5,.val 0)])],[]⟩ (fun n z=>zbf φ n z.1 z.2.1 z.2.2.1) (fun zk6=>.x)))) .x)))
def zdu (P:Program) (φ:Nat):Env TV:=⟨P,lk [],lk [],lk [],lk []⟩
theorem zu7 (φ:Nat) (a) :(zdb φ).F a=fnX TV (zdu Tryz.prog φ) φ Tryz.f18 [8,8] [.val 1] (z9e φ) a:=by kernel_rfl
theorem ztt (φ:Nat):fnO TV (zdu Tryz.prog φ) φ Tryz.f18 [.val 1] (z9e φ):=by
 unfold fnO
 show obl _ _ _ _ _ _ _
 unfold z9e
 repeat' (first | exact trivial |(refine⟨?_,?_⟩) |(intro _) | kernel_rfl)
theorem zts [Dr] (φ:Nat):zr TV Tryz.prog 18 (zdb φ):=
 zx (N:=zdu Tryz.prog φ) (zd trivial trivial trivial trivial) (z9e φ) Tryz.func18 (by kernel_rfl) (zu7 φ) (ztt φ)
def zh6 (φ:Nat):H TV (RTup TT [.val 39]):=(.seq .x (.seq .x (.seq .x (.seq (.seq .x (.body (.loop ⟨[(30,[(0,.ptr 0 0),(1,.ptr 1 0),(2,.val 0)])],[.box 51 [.own 2,.own 3,.own 4,.own 5,.own 6,.own 7,.own 8,.own 9,.own 10],.box 51 [.own 11,.own 12,.own 13,.own 14,.own 15,.own 16,.own 17,.own 18,.own 19],.row 129 15,.row 147 17,.row 131 21,.row 80 23,.row 182 25,.row 186 27,.row 142 30,.row 145 32,.row 112 37,.row 129 15,.row 147 17,.row 131 21,.row 80 23,.row 182 25,.row 186 27,.row 142 30,.row 145 32,.row 112 37]⟩ (fun n z=>zic φ n z.1 z.2.1 z.2.2.1 z.2.2.2.1 z.2.2.2.2.1 z.2.2.2.2.2.1 z.2.2.2.2.2.2.1 z.2.2.2.2.2.2.2.1 z.2.2.2.2.2.2.2.2.1 z.2.2.2.2.2.2.2.2.2.1 z.2.2.2.2.2.2.2.2.2.2.1 z.2.2.2.2.2.2.2.2.2.2.2.1 z.2.2.2.2.2.2.2.2.2.2.2.2.1 z.2.2.2.2.2.2.2.2.2.2.2.2.2.1 z.2.2.2.2.2.2.2.2.2.2.2.2.2.2.1 z.2.2.2.2.2.2.2.2.2.2.2.2.2.2.2.1 z.2.2.2.2.2.2.2.2.2.2.2.2.2.2.2.2.1 z.2.2.2.2.2.2.2.2.2.2.2.2.2.2.2.2.2.1 z.2.2.2.2.2.2.2.2.2.2.2.2.2.2.2.2.2.2.1) (fun zk20=>.x)))) .x))))
def zmb (P:Program) (φ:Nat):Env TV:=⟨P,lk [],lk [],lk [],lk []⟩
theorem y4b (φ:Nat) (a) :(zm2 φ).F a=fnX TV (zmb Tryz.prog φ) φ Tryz.f34 [] [.val 39] (zh6 φ) a:=by kernel_rfl
theorem y5v (φ:Nat):fnO TV (zmb Tryz.prog φ) φ Tryz.f34 [.val 39] (zh6 φ):=by
 unfold fnO
 show obl _ _ _ _ _ _ _
 unfold zh6
 repeat' (first | exact trivial |(refine⟨?_,?_⟩) |(intro _) | kernel_rfl)
theorem y6s [Dr] (φ:Nat):zr TV Tryz.prog 34 (zm2 φ):=
 zx (N:=zmb Tryz.prog φ) (zd trivial trivial trivial trivial) (zh6 φ) Tryz.func34 (by kernel_rfl) (y4b φ) (y5v φ)
def zat (φ:Nat):H TV (RTup TT [.val 1]):=.x
def zfk (P:Program) (φ:Nat):Env TV:=⟨P,lk [],lk [],lk [],lk []⟩
theorem zuu (φ:Nat) (a) :(zgf φ).F a=fnX TV (zfk Tryz.prog φ) φ Tryz.f111 [15] [.val 1] (zat φ) a:=by kernel_rfl
theorem zuy (φ:Nat):fnO TV (zfk Tryz.prog φ) φ Tryz.f111 [.val 1] (zat φ):=by
 unfold fnO
 show obl _ _ _ _ _ _ _
 unfold zat
 repeat' (first | exact trivial |(refine⟨?_,?_⟩) |(intro _) | kernel_rfl)
theorem zw6 [Dr] (φ:Nat):zr TV Tryz.prog 111 (zgf φ):=
 zx (N:=zfk Tryz.prog φ) (zd trivial trivial trivial trivial) (zat φ) Tryz.func111 (by kernel_rfl) (zuu φ) (zuy φ)
def za9 (φ:Nat):H TV (RTup TT [.val 0]):=(.seq .x (.seq .x (.seq .x (.seq (.seq .x (.body (.loop ⟨[(84,[(1,.ptr 0 0),(3,.val 0),(20,.val 16),(21,.val 0),(22,.val 0)])],[.box 40 [.val 19]]⟩ (fun n z=>z5k φ n z.1 z.2.1 z.2.2.1 z.2.2.2.1 z.2.2.2.2.1) (fun zk7=>.x)))) (.seq (.seq .x (.body (.loop ⟨[(84,[(3,.val 0),(31,.val 18),(32,.val 0),(33,.val 0)])],[]⟩ (fun n z=>z2n φ n z.1 z.2.1 z.2.2.1 z.2.2.2.1) (fun zk13=>.x)))) .x)))))
def zgj (P:Program) (φ:Nat):Env TV:=⟨P,lk [(111,zgf φ)],lk [],lk [],lk []⟩
theorem zvr (φ:Nat) (a) :(zg1 φ).F a=fnX TV (zgj Tryz.prog φ) φ Tryz.f73 [19] [.val 0] (za9 φ) a:=by kernel_rfl
theorem zww (φ:Nat):fnO TV (zgj Tryz.prog φ) φ Tryz.f73 [.val 0] (za9 φ):=by
 unfold fnO
 show obl _ _ _ _ _ _ _
 unfold za9
 repeat' (first | exact trivial |(refine⟨?_,?_⟩) |(intro _) | kernel_rfl)
theorem zwi [Dr] (φ:Nat):zr TV Tryz.prog 73 (zg1 φ):=
 zx (N:=zgj Tryz.prog φ) (zd ⟨zw6 φ,trivial⟩ trivial trivial trivial) (za9 φ) Tryz.func73 (by kernel_rfl) (zvr φ) (zww φ)
def za7 (φ:Nat):H TV (RTup TT [.val 1]):=.x
def zfp (P:Program) (φ:Nat):Env TV:=⟨P,lk [],lk [],lk [],lk []⟩
theorem zwe (φ:Nat) (a) :(zad φ).F a=fnX TV (zfp Tryz.prog φ) φ Tryz.f75 [0,0,0] [.val 1] (za7 φ) a:=by kernel_rfl
theorem zwg (φ:Nat):fnO TV (zfp Tryz.prog φ) φ Tryz.f75 [.val 1] (za7 φ):=by
 unfold fnO
 show obl _ _ _ _ _ _ _
 unfold za7
 repeat' (first | exact trivial |(refine⟨?_,?_⟩) |(intro _) | kernel_rfl)
theorem zmm [Dr] (φ:Nat):zr TV Tryz.prog 75 (zad φ):=
 zx (N:=zfp Tryz.prog φ) (zd trivial trivial trivial trivial) (za7 φ) Tryz.func75 (by kernel_rfl) (zwe φ) (zwg φ)
def ze6 (φ:Nat):H TV (RTup TT [.val 0]):=(.seq .x (.seq .x (.seq .x (.seq .x (.seq (.seq .x (.body (.loop ⟨[(206,[(1,.ptr 0 0),(3,.ptr 1 0),(4,.func 112 [.ptr 1 0]),(41,.val 22),(42,.val 0),(43,.val 0)])],[.box 46 [.val 29],.box 59 [.val 0]]⟩ (fun n z=>z6c φ n z.1 z.2.1 z.2.2.1 z.2.2.2.1 z.2.2.2.2.1) (fun zk7=>(.seq .x (.seq .x (.seq (.body (.seq .x (.seq (.seq .x (.body (.loop ⟨[(206,[(1,.ptr 0 0),(3,.ptr 1 0),(4,.func 112 [.ptr 1 0]),(6,.ptr 2 0),(41,.val 22),(42,.val 0),(43,.val 0),(55,.own 3),(56,.val 0),(57,.val 0)])],[.box 46 [.val 29],.box 59 [.val 0],.box 131 [.val 21],.row 3 0]⟩ (fun n z=>z3h φ (fun a0 a1 a2 a3 a4=>zk7 (a0,a1,a2,a3,a4,())) n z.1 z.2.1 z.2.2.1 z.2.2.2.1 z.2.2.2.2.1 z.2.2.2.2.2.1 z.2.2.2.2.2.2.1 z.2.2.2.2.2.2.2.1 z.2.2.2.2.2.2.2.2.1) (fun zk17=>.x)))) .x))) .x))))))) (.seq (.seq .x (.body (.loop ⟨[(206,[(1,.ptr 0 0),(3,.ptr 1 0),(4,.func 112 [.ptr 1 0]),(83,.val 24),(84,.val 0),(85,.val 0)])],[.box 46 [.val 29],.box 59 [.val 0]]⟩ (fun n z=>z0a φ n z.1 z.2.1 z.2.2.1 z.2.2.2.1 z.2.2.2.2.1) (fun zk27=>.x)))) (.seq (.seq .x (.body (.loop ⟨[(206,[(1,.ptr 0 0),(3,.ptr 1 0),(4,.func 112 [.ptr 1 0]),(120,.val 26),(121,.val 0),(122,.val 0)])],[.box 46 [.val 29],.box 59 [.val 0]]⟩ (fun n z=>z0u φ n z.1 z.2.1 z.2.2.1 z.2.2.2.1 z.2.2.2.2.1) (fun zk40=>.x)))) (.seq .x (.seq (.seq .x (.body (.loop ⟨[(206,[(3,.ptr 0 0),(4,.func 112 [.ptr 0 0]),(13,.ptr 1 0),(158,.val 28),(159,.val 0),(160,.val 0)])],[.box 59 [.val 0],.box 184 [.val 40]]⟩ (fun n z=>zp φ n z.1 z.2.1 z.2.2.1 z.2.2.2.1 z.2.2.2.2.1) (fun zk49=>.x)))) .x)))))))))
def zkp (P:Program) (φ:Nat):Env TV:=⟨P,lk [(75,zad φ)],lk [],lk [],lk []⟩
theorem y1p (φ:Nat) (a) :(zkn φ).F a=fnX TV (zkp Tryz.prog φ) φ Tryz.f74 [29] [.val 0] (ze6 φ) a:=by kernel_rfl
theorem y02 (φ:Nat):fnO TV (zkp Tryz.prog φ) φ Tryz.f74 [.val 0] (ze6 φ):=by
 unfold fnO
 show obl _ _ _ _ _ _ _
 unfold ze6
 repeat' (first | exact trivial |(refine⟨?_,?_⟩) |(intro _) | kernel_rfl)
theorem y1m [Dr] (φ:Nat):zr TV Tryz.prog 74 (zkn φ):=
 zx (N:=zkp Tryz.prog φ) (zd ⟨zmm φ,trivial⟩ trivial trivial trivial) (ze6 φ) Tryz.func74 (by kernel_rfl) (y1p φ) (y02 φ)
def z9k (φ:Nat):H TV (RTup TT [.val 0]):=(.seq .x (.seq (.seq .x (.body (.loop ⟨[(45,[(1,.ptr 0 0),(9,.val 35),(10,.val 0)])],[.box 109 [.val 36]]⟩ (fun n z=>z4h φ n z.1 z.2.1 z.2.2.1) (fun zk5=>.x)))) (.seq .x (.seq (.seq .x (.body (.loop ⟨[(45,[(5,.val 0),(30,.val 8),(31,.val 0),(32,.val 0)])],[]⟩ (fun n z=>z3i φ n z.1 z.2.1 z.2.2.1 z.2.2.2.1) (fun zk10=>.x)))) .x))))
def zdz (P:Program) (φ:Nat):Env TV:=⟨P,lk [],lk [],lk [],lk []⟩
theorem zt5 (φ:Nat) (a) :(zds φ).F a=fnX TV (zdz Tryz.prog φ) φ Tryz.f76 [36] [.val 0] (z9k φ) a:=by kernel_rfl
theorem ztn (φ:Nat):fnO TV (zdz Tryz.prog φ) φ Tryz.f76 [.val 0] (z9k φ):=by
 unfold fnO
 show obl _ _ _ _ _ _ _
 unfold z9k
 repeat' (first | exact trivial |(refine⟨?_,?_⟩) |(intro _) | kernel_rfl)
theorem zto [Dr] (φ:Nat):zr TV Tryz.prog 76 (zds φ):=
 zx (N:=zdz Tryz.prog φ) (zd trivial trivial trivial trivial) (z9k φ) Tryz.func76 (by kernel_rfl) (zt5 φ) (ztn φ)
def zh5 (φ:Nat):H TV (RTup TT [.val 20,.val 20]):=.x
def zm3 (P:Program) (φ:Nat):Env TV:=⟨P,lk [],lk [],lk [],lk []⟩
theorem y6p (φ:Nat) (a) :(zmk φ).F a=fnX TV (zm3 Tryz.prog φ) φ Tryz.f171 [20,20] [.val 20,.val 20] (zh5 φ) a:=by kernel_rfl
theorem y6v (φ:Nat):fnO TV (zm3 Tryz.prog φ) φ Tryz.f171 [.val 20,.val 20] (zh5 φ):=by
 unfold fnO
 show obl _ _ _ _ _ _ _
 unfold zh5
 repeat' (first | exact trivial |(refine⟨?_,?_⟩) |(intro _) | kernel_rfl)
theorem y6o [Dr] (φ:Nat):zr TV Tryz.prog 171 (zmk φ):=
 zx (N:=zm3 Tryz.prog φ) (zd trivial trivial trivial trivial) (zh5 φ) Tryz.func171 (by kernel_rfl) (y6p φ) (y6v φ)
def z5v (φ:Nat):H TV (RTup TT [.val 0]):=(.seq .x (.seq (.ins 1 108 (.seq .x (.seq (.join ⟨[(25,[(0,.val 20),(2,.val 0)]),(6,[])],[]⟩ (fun z=>z2j φ z.1 z.2.1) (.seq .x .x)) (.seq (.join ⟨[(25,[(0,.val 20),(2,.val 0)]),(6,[])],[]⟩ (fun z=>z2i φ z.1 z.2.1) (.seq .x .x)) (.seq (.join ⟨[(25,[(0,.val 20),(2,.val 0)]),(6,[])],[]⟩ (fun z=>z20 φ z.1 z.2.1) (.seq .x .x)) .x)))) .x) .x))
def z86 (P:Program) (φ:Nat):Env TV:=⟨P,lk [],lk [],lk [],lk []⟩
theorem znc (φ:Nat) (a) :(z88 φ).F a=fnX TV (z86 Tryz.prog φ) φ Tryz.f183 [20] [.val 0] (z5v φ) a:=by kernel_rfl
theorem zn8 (φ:Nat):fnO TV (z86 Tryz.prog φ) φ Tryz.f183 [.val 0] (z5v φ):=by
 unfold fnO
 show obl _ _ _ _ _ _ _
 unfold z5v
 repeat' (first | exact trivial |(refine⟨?_,?_⟩) |(intro _) | kernel_rfl)
theorem zlz [Dr] (φ:Nat):zr TV Tryz.prog 183 (z88 φ):=
 zx (N:=z86 Tryz.prog φ) (zd trivial trivial trivial trivial) (z5v φ) Tryz.func183 (by kernel_rfl) (znc φ) (zn8 φ)
def zhg (φ:Nat):H TV (RTup TT [.val 20,.val 20]):=(.seq .x (.seq .x (.seq .x (.seq .x (.seq .x (.seq .x (.seq .x (.seq .x (.seq .x (.seq .x (.seq .x (.seq .x (.seq .x (.seq .x (.seq (.join ⟨[(135,[(2,.val 20),(8,.val 20),(9,.val 20),(10,.val 20),(11,.val 20),(13,.val 20),(14,.val 20),(15,.val 20)])],[]⟩ (fun z=>z94 φ z.1 z.2.1 z.2.2.1 z.2.2.2.1 z.2.2.2.2.1 z.2.2.2.2.2.1 z.2.2.2.2.2.2.1 z.2.2.2.2.2.2.2.1) (.body (.loop ⟨[(135,[(2,.val 20),(8,.val 20),(9,.val 20),(10,.val 20),(11,.val 20),(13,.val 20),(14,.val 20),(15,.val 20),(16,.val 20)])],[]⟩ (fun n z=>z9a φ n z.1 z.2.1 z.2.2.1 z.2.2.2.1 z.2.2.2.2.1 z.2.2.2.2.2.1 z.2.2.2.2.2.2.1 z.2.2.2.2.2.2.2.1 z.2.2.2.2.2.2.2.2.1) (fun zk40=>.x)))) (.seq .x (.seq .x (.seq .x (.seq (.join ⟨[(135,[(2,.val 20),(8,.val 20),(14,.val 20),(15,.val 20),(17,.val 20),(18,.val 20)])],[]⟩ (fun z=>z98 φ z.1 z.2.1 z.2.2.1 z.2.2.2.1 z.2.2.2.2.1 z.2.2.2.2.2.1) (.body (.loop ⟨[(135,[(2,.val 20),(8,.val 20),(9,.val 20),(10,.val 20),(14,.val 20),(15,.val 20),(16,.val 20),(17,.val 20),(18,.val 20)])],[]⟩ (fun n z=>z97 φ n z.1 z.2.1 z.2.2.1 z.2.2.2.1 z.2.2.2.2.1 z.2.2.2.2.2.1 z.2.2.2.2.2.2.1 z.2.2.2.2.2.2.2.1 z.2.2.2.2.2.2.2.2.1) (fun zk30=>.x)))) .x)))))))))))))))))))
def zmy (P:Program) (φ:Nat):Env TV:=⟨P,lk [(183,z88 φ)],lk [],lk [],lk []⟩
theorem y3m (φ:Nat) (a) :(zmd φ).F a=fnX TV (zmy Tryz.prog φ) φ Tryz.f172 [20,20,20] [.val 20,.val 20] (zhg φ) a:=by kernel_rfl
theorem y6w (φ:Nat):fnO TV (zmy Tryz.prog φ) φ Tryz.f172 [.val 20,.val 20] (zhg φ):=by
 unfold fnO
 show obl _ _ _ _ _ _ _
 unfold zhg
 repeat' (first | exact trivial |(refine⟨?_,?_⟩) |(intro _) | kernel_rfl)
theorem y6n [Dr] (φ:Nat):zr TV Tryz.prog 172 (zmd φ):=
 zx (N:=zmy Tryz.prog φ) (zd ⟨zlz φ,trivial⟩ trivial trivial trivial) (zhg φ) Tryz.func172 (by kernel_rfl) (y3m φ) (y6w φ)
def znn (φ:Nat):H TV (RTup TT [.val 20]):=(.seq .x (.seq .x (.seq .x (.seq (.seq (.ins 1 108 (.seq .x (.seq (.join ⟨[(25,[(0,.val 20),(2,.val 0)]),(33,[(0,.val 20),(1,.val 20),(5,.func 170 [.ptr 0 0]),(6,.val 20)])],[.box 110 [.val 20]]⟩ (fun z=>zgd φ z.1 z.2.1 z.2.2.1 z.2.2.2.1 z.2.2.2.2.1 z.2.2.2.2.2.1) (.seq .x .x)) (.seq (.join ⟨[(25,[(0,.val 20),(2,.val 0)]),(33,[(0,.val 20),(1,.val 20),(5,.func 170 [.ptr 0 0]),(6,.val 20)])],[.box 110 [.val 20]]⟩ (fun z=>zcx φ z.1 z.2.1 z.2.2.1 z.2.2.2.1 z.2.2.2.2.1 z.2.2.2.2.2.1) (.seq .x .x)) (.seq (.join ⟨[(25,[(0,.val 20),(2,.val 0)]),(33,[(0,.val 20),(1,.val 20),(5,.func 170 [.ptr 0 0]),(6,.val 20)])],[.box 110 [.val 20]]⟩ (fun z=>zcm φ z.1 z.2.1 z.2.2.1 z.2.2.2.1 z.2.2.2.2.1 z.2.2.2.2.2.1) (.seq .x .x)) .x)))) .x) (.body (.loop ⟨[(33,[(0,.val 20),(1,.val 20),(5,.func 170 [.ptr 0 0]),(6,.val 20),(10,.val 0),(11,.val 0)])],[.box 110 [.val 20]]⟩ (fun n z=>z0g φ n z.1 z.2.1 z.2.2.1 z.2.2.2.1 z.2.2.2.2.1 z.2.2.2.2.2.1) (fun zk30=>(.seq .x (.seq .x (.seq (.body (.seq .x (.seq .x (.seq (.ins 2 108 (.seq .x (.seq (.join ⟨[(25,[(0,.val 20),(2,.val 0)]),(33,[(0,.val 20),(1,.val 20),(5,.func 170 [.ptr 0 0]),(6,.val 20),(7,.val 0),(10,.val 0),(11,.val 0),(18,.val 20)])],[.box 110 [.val 20]]⟩ (fun z=>z5u φ (fun a0 a1 a2 a3 a4 a5=>zk30 (a0,a1,a2,a3,a4,a5,())) z.1 z.2.1 z.2.2.1 z.2.2.2.1 z.2.2.2.2.1 z.2.2.2.2.2.1 z.2.2.2.2.2.2.1 z.2.2.2.2.2.2.2.1 z.2.2.2.2.2.2.2.2.1 z.2.2.2.2.2.2.2.2.2.1) (.seq .x .x)) (.seq (.join ⟨[(25,[(0,.val 20),(2,.val 0)]),(33,[(0,.val 20),(1,.val 20),(5,.func 170 [.ptr 0 0]),(6,.val 20),(7,.val 0),(10,.val 0),(11,.val 0),(18,.val 20)])],[.box 110 [.val 20]]⟩ (fun z=>zco φ (fun a0 a1 a2 a3 a4 a5=>zk30 (a0,a1,a2,a3,a4,a5,())) z.1 z.2.1 z.2.2.1 z.2.2.2.1 z.2.2.2.2.1 z.2.2.2.2.2.1 z.2.2.2.2.2.2.1 z.2.2.2.2.2.2.2.1 z.2.2.2.2.2.2.2.2.1 z.2.2.2.2.2.2.2.2.2.1) (.seq .x .x)) (.seq (.join ⟨[(25,[(0,.val 20),(2,.val 0)]),(33,[(0,.val 20),(1,.val 20),(5,.func 170 [.ptr 0 0]),(6,.val 20),(7,.val 0),(10,.val 0),(11,.val 0),(18,.val 20)])],[.box 110 [.val 20]]⟩ (fun z=>zd0 φ (fun a0 a1 a2 a3 a4 a5=>zk30 (a0,a1,a2,a3,a4,a5,())) z.1 z.2.1 z.2.2.1 z.2.2.2.1 z.2.2.2.2.1 z.2.2.2.2.2.1 z.2.2.2.2.2.2.1 z.2.2.2.2.2.2.2.1 z.2.2.2.2.2.2.2.2.1 z.2.2.2.2.2.2.2.2.2.1) (.seq .x .x)) .x)))) .x) .x)))) .x))))))) .x))))
def zru (P:Program) (φ:Nat):Env TV:=⟨P,lk [(171,zmk φ),(172,zmd φ)],lk [],lk [],lk []⟩
theorem yd4 (φ:Nat) (a) :(zrf φ).F a=fnX TV (zru Tryz.prog φ) φ Tryz.f113 [20,20] [.val 20] (znn φ) a:=by kernel_rfl
theorem yc8 (φ:Nat):fnO TV (zru Tryz.prog φ) φ Tryz.f113 [.val 20] (znn φ):=by
 unfold fnO
 show obl _ _ _ _ _ _ _
 unfold znn
 repeat' (first | exact trivial |(refine⟨?_,?_⟩) |(intro _) | kernel_rfl)
theorem yca [Dr] (φ:Nat):zr TV Tryz.prog 113 (zrf φ):=
 zx (N:=zru Tryz.prog φ) (zd ⟨y6o φ,y6n φ,trivial⟩ trivial trivial trivial) (znn φ) Tryz.func113 (by kernel_rfl) (yd4 φ) (yc8 φ)
def zhk (φ:Nat):H TV (RTup TT [.val 1]):=.x
def zmw (P:Program) (φ:Nat):Env TV:=⟨P,lk [(113,zrf φ)],lk [],lk [],lk []⟩
theorem y6j (φ:Nat) (a) :(zmq φ).F a=fnX TV (zmw Tryz.prog φ) φ Tryz.f77 [20] [.val 1] (zhk φ) a:=by kernel_rfl
theorem y4l (φ:Nat):fnO TV (zmw Tryz.prog φ) φ Tryz.f77 [.val 1] (zhk φ):=by
 unfold fnO
 show obl _ _ _ _ _ _ _
 unfold zhk
 repeat' (first | exact trivial |(refine⟨?_,?_⟩) |(intro _) | kernel_rfl)
theorem y6y [Dr] (φ:Nat):zr TV Tryz.prog 77 (zmq φ):=
 zx (N:=zmw Tryz.prog φ) (zd ⟨yca φ,trivial⟩ trivial trivial trivial) (zhk φ) Tryz.func77 (by kernel_rfl) (y6j φ) (y4l φ)
end Px
end
section
set_option maxHeartbeats 4000000
set_option maxRecDepth 100000
namespace Px
open Go Go.RowKit Go.Proofs
def z8g (φ:Nat):H TV (RTup TT [.val 0]):=(.seq .x (.seq .x (.seq .x (.seq .x (.seq .x (.seq .x (.seq (.seq .x (.body (.loop ⟨[(193,[(1,.ptr 0 0),(5,.val 16),(6,.val 0),(7,.val 1),(57,.val 31),(58,.val 0),(59,.val 0)])],[.box 51 [.val 39]]⟩ (fun n z=>z2s φ n z.1 z.2.1 z.2.2.1 z.2.2.2.1 z.2.2.2.2.1 z.2.2.2.2.2.1 z.2.2.2.2.2.2.1) (fun zk11=>.x)))) (.seq (.seq .x (.body (.loop ⟨[(193,[(1,.ptr 0 0),(5,.val 16),(6,.val 0),(7,.val 1),(92,.val 33),(93,.val 0),(94,.val 0)])],[.box 51 [.val 39]]⟩ (fun n z=>z10 φ n z.1 z.2.1 z.2.2.1 z.2.2.2.1 z.2.2.2.2.1 z.2.2.2.2.2.1 z.2.2.2.2.2.2.1) (fun zk20=>.x)))) (.seq (.seq .x (.body (.loop ⟨[(193,[(1,.ptr 0 0),(5,.val 16),(6,.val 0),(7,.val 1),(120,.val 24),(121,.val 0),(122,.val 0)])],[.box 51 [.val 39]]⟩ (fun n z=>z0y φ n z.1 z.2.1 z.2.2.1 z.2.2.2.1 z.2.2.2.2.1 z.2.2.2.2.2.1 z.2.2.2.2.2.2.1) (fun zk29=>.x)))) (.seq (.seq .x (.body (.loop ⟨[(193,[(1,.ptr 0 0),(6,.val 0),(7,.val 1),(135,.val 16),(136,.val 0),(137,.val 0)])],[.box 51 [.val 39]]⟩ (fun n z=>z11 φ n z.1 z.2.1 z.2.2.1 z.2.2.2.1 z.2.2.2.2.1 z.2.2.2.2.2.1) (fun zk36=>.x)))) (.seq (.seq .x (.body (.loop ⟨[(193,[(1,.ptr 0 0),(6,.val 0),(7,.val 1),(157,.val 18),(158,.val 0),(159,.val 0)])],[.box 51 [.val 39]]⟩ (fun n z=>z17 φ n z.1 z.2.1 z.2.2.1 z.2.2.2.1 z.2.2.2.2.1 z.2.2.2.2.2.1) (fun zk43=>.x)))) (.seq (.seq .x (.body (.loop ⟨[(193,[(7,.val 1),(172,.val 38),(173,.val 0),(174,.val 0)])],[]⟩ (fun n z=>z16 φ n z.1 z.2.1 z.2.2.1 z.2.2.2.1) (fun zk48=>.x)))) .x))))))))))))
def zbp (P:Program) (φ:Nat):Env TV:=⟨P,lk [(73,zg1 φ),(74,zkn φ),(75,zad φ),(76,zds φ),(77,zmq φ)],lk [],lk [],lk []⟩
theorem zrj (φ:Nat) (a) :(z4g φ).F a=fnX TV (zbp Tryz.prog φ) φ Tryz.f49 [39] [.val 0] (z8g φ) a:=by kernel_rfl
theorem zse (φ:Nat):fnO TV (zbp Tryz.prog φ) φ Tryz.f49 [.val 0] (z8g φ):=by
 unfold fnO
 show obl _ _ _ _ _ _ _
 unfold z8g
 repeat' (first | exact trivial |(refine⟨?_,?_⟩) |(intro _) | kernel_rfl)
theorem z8q [Dr] (φ:Nat):zr TV Tryz.prog 49 (z4g φ):=
 zx (N:=zbp Tryz.prog φ) (zd ⟨zwi φ,y1m φ,zmm φ,zto φ,y6y φ,trivial⟩ trivial trivial trivial) (z8g φ) Tryz.func49 (by kernel_rfl) (zrj φ) (zse φ)
def zak (φ:Nat):H TV (RTup TT [.val 1]):=.x
def zga (P:Program) (φ:Nat):Env TV:=⟨P,lk [],lk [],lk [],lk []⟩
theorem zwn (φ:Nat) (a) :(zg3 φ).F a=fnX TV (zga Tryz.prog φ) φ Tryz.f59 [6] [.val 1] (zak φ) a:=by kernel_rfl
theorem zv2 (φ:Nat):fnO TV (zga Tryz.prog φ) φ Tryz.f59 [.val 1] (zak φ):=by
 unfold fnO
 show obl _ _ _ _ _ _ _
 unfold zak
 repeat' (first | exact trivial |(refine⟨?_,?_⟩) |(intro _) | kernel_rfl)
theorem zw3 [Dr] (φ:Nat):zr TV Tryz.prog 59 (zg3 φ):=
 zx (N:=zga Tryz.prog φ) (zd trivial trivial trivial trivial) (zak φ) Tryz.func59 (by kernel_rfl) (zwn φ) (zv2 φ)
def zk1 (φ:Nat):H TV (RTup TT [.val 1]):=(.seq .x (.seq (.seq .x (.body (.loop ⟨[(43,[(0,.val 5),(1,.val 1),(7,.val 5),(8,.val 0),(9,.val 0)])],[]⟩ (fun n z=>z9x φ n z.1 z.2.1 z.2.2.1 z.2.2.2.1 z.2.2.2.2.1) (fun zk8=>.x)))) .x))
def zop (P:Program) (φ:Nat):Env TV:=⟨P,lk [],lk [],lk [],lk []⟩
theorem y7d (φ:Nat) (a) :(zon φ).F a=fnX TV (zop Tryz.prog φ) φ Tryz.f135 [5,1] [.val 1] (zk1 φ) a:=by kernel_rfl
theorem y7e (φ:Nat):fnO TV (zop Tryz.prog φ) φ Tryz.f135 [.val 1] (zk1 φ):=by
 unfold fnO
 show obl _ _ _ _ _ _ _
 unfold zk1
 repeat' (first | exact trivial |(refine⟨?_,?_⟩) |(intro _) | kernel_rfl)
theorem y7p [Dr] (φ:Nat):zr TV Tryz.prog 135 (zon φ):=
 zx (N:=zop Tryz.prog φ) (zd trivial trivial trivial trivial) (zk1 φ) Tryz.func135 (by kernel_rfl) (y7d φ) (y7e φ)
def zh1 (φ:Nat):H TV (RTup TT [.val 1]):=(.seq .x (.seq .x (.seq (.join ⟨[(46,[(5,.ptr 0 0)])],[.box 157 [.val 41]]⟩ (fun z=>za φ z.1) (.seq .x (.cond (.ins 0 95 (.seq .x (.seq .x (.seq .x (.seq .x (.body (.seq .x (.cond .x (.seq .x (.cond (.seq (.ins 1 131 (.seq .x (.seq (.join ⟨[(66,[(0,.ptr 0 0),(1,.val 0),(4,.ptr 1 0)]),(135,[(0,.ptr 0 0)]),(46,[(5,.ptr 0 0)])],[.box 157 [.val 41],.box 129 [.val 15]]⟩ (fun z=>z7a φ z.1 z.2.1 z.2.2.1) (.seq .x .x)) .x)) .x) .x) (.seq (.join ⟨[(135,[(0,.ptr 0 0),(2,.ptr 0 9),(20,.val 0),(43,.val 1)]),(46,[(5,.ptr 0 0)])],[.box 157 [.val 41]]⟩ (fun z=>z67 φ z.1 z.2.1 z.2.2.1) (.seq .x .x)) (.cond (.seq (.ins 1 131 (.seq .x (.seq (.join ⟨[(66,[(0,.ptr 0 0),(1,.val 0),(4,.ptr 1 0)]),(135,[(0,.ptr 0 0),(2,.ptr 0 9)]),(46,[(5,.ptr 0 0)])],[.box 157 [.val 41],.box 129 [.val 15]]⟩ (fun z=>z5w φ z.1 z.2.1 z.2.2.1) (.seq .x .x)) .x)) .x) .x) (.seq .x (.cond (.seq .x (.seq .x (.seq (.ins 1 131 (.seq .x (.seq (.join ⟨[(66,[(0,.ptr 0 0),(1,.val 0),(4,.ptr 1 0)]),(135,[(0,.ptr 0 0),(2,.ptr 0 9)]),(46,[(5,.ptr 0 0)])],[.box 157 [.val 41],.box 129 [.val 15]]⟩ (fun z=>z6b φ z.1 z.2.1 z.2.2.1) (.seq .x .x)) .x)) .x) .x))) (.seq (.join ⟨[(135,[(0,.ptr 0 0),(2,.ptr 0 9),(116,.val 1)]),(46,[(5,.ptr 0 0)])],[.box 157 [.val 41]]⟩ (fun z=>z5y φ z.1 z.2.1) (.seq .x .x)) (.cond (.seq (.ins 1 131 (.seq .x (.seq (.join ⟨[(66,[(0,.ptr 0 0),(1,.val 0),(4,.ptr 1 0)]),(135,[(0,.ptr 0 0),(2,.ptr 0 9)]),(46,[(5,.ptr 0 0)])],[.box 157 [.val 41],.box 129 [.val 15]]⟩ (fun z=>z6d φ z.1 z.2.1 z.2.2.1) (.seq .x .x)) .x)) .x) .x) .x))))))))))))))) .x) (.ins 0 96 (.seq .x (.seq .x (.body (.seq .x (.cond .x (.seq .x (.cond (.seq .x (.seq (.ins 1 131 (.seq .x (.seq (.join ⟨[(66,[(0,.ptr 0 0),(1,.val 0),(4,.ptr 1 0)]),(168,[(0,.ptr 0 0),(2,.ptr 0 9)]),(46,[(5,.ptr 0 0)])],[.box 157 [.val 41],.box 129 [.val 15]]⟩ (fun z=>z62 φ z.1 z.2.1 z.2.2.1) (.seq .x .x)) .x)) .x) .x)) (.seq .x (.cond .x (.seq (.join ⟨[(168,[(0,.ptr 0 0),(2,.ptr 0 9),(9,.val 0),(91,.val 1)]),(46,[(5,.ptr 0 0)])],[.box 157 [.val 41]]⟩ (fun z=>z1g φ z.1 z.2.1 z.2.2.1) (.seq .x .x)) (.cond .x (.seq .x (.cond .x (.seq .x (.cond (.seq .x (.seq (.ins 1 131 (.seq .x (.seq (.join ⟨[(66,[(0,.ptr 0 0),(1,.val 0),(4,.ptr 1 0)]),(168,[(0,.ptr 0 0),(2,.ptr 0 9)]),(46,[(5,.ptr 0 0)])],[.box 157 [.val 41],.box 129 [.val 15]]⟩ (fun z=>z69 φ z.1 z.2.1 z.2.2.1) (.seq .x .x)) .x)) .x) .x)) .x))))))))))))))) .x)))) (.seq (.seq .x (.body (.unr 12 .x))) .x))))
def zmx (P:Program) (φ:Nat):Env TV:=⟨P,lk [(135,zon φ)],lk [],lk [],lk []⟩
theorem y3t (φ:Nat) (a) :(zme φ).F a=fnX TV (zmx Tryz.prog φ) φ Tryz.f60 [39,6] [.val 1] (zh1 φ) a:=by kernel_rfl
theorem y5d (φ:Nat):fnO TV (zmx Tryz.prog φ) φ Tryz.f60 [.val 1] (zh1 φ):=by
 unfold fnO
 show obl _ _ _ _ _ _ _
 unfold zh1
 repeat' (first | exact trivial |(refine⟨?_,?_⟩) |(intro _) | kernel_rfl)
theorem y3q [Dr] (φ:Nat):zr TV Tryz.prog 60 (zme φ):=
 zx (N:=zmx Tryz.prog φ) (zd ⟨y7p φ,trivial⟩ trivial trivial trivial) (zh1 φ) Tryz.func60 (by kernel_rfl) (y3t φ) (y5d φ)
def zje (φ:Nat):H TV (RTup TT [.val 0]):=.x
def zoy (P:Program) (φ:Nat):Env TV:=⟨P,lk [(49,z4g φ),(59,zg3 φ),(60,zme φ)],lk [],lk [],lk []⟩
theorem y7z (φ:Nat) (a) :(zj5 φ).F a=fnX TV (zoy Tryz.prog φ) φ Tryz.f30 [39,6] [.val 0] (zje φ) a:=by kernel_rfl
theorem y7w (φ:Nat):fnO TV (zoy Tryz.prog φ) φ Tryz.f30 [.val 0] (zje φ):=by
 unfold fnO
 show obl _ _ _ _ _ _ _
 unfold zje
 repeat' (first | exact trivial |(refine⟨?_,?_⟩) |(intro _) | kernel_rfl)
theorem zvn [Dr] (φ:Nat):zr TV Tryz.prog 30 (zj5 φ):=
 zx (N:=zoy Tryz.prog φ) (zd ⟨z8q φ,zw3 φ,y3q φ,trivial⟩ trivial trivial trivial) (zje φ) Tryz.func30 (by kernel_rfl) (y7z φ) (y7w φ)
def z9f (φ:Nat):H TV (RTup TT [.val 1]):=.x
def zdg (P:Program) (φ:Nat):Env TV:=⟨P,lk [(47,zbr φ)],lk [],lk [],lk []⟩
theorem zu5 (φ:Nat) (a b) :(zdp φ).F a b=fnXc TV (zdg Tryz.prog φ) φ Tryz.f51 [2] [.b (.map 9 1)] [.val 1] (z9f φ) a b:=by kernel_rfl
theorem zt6 (φ:Nat):fnO TV (zdg Tryz.prog φ) φ Tryz.f51 [.val 1] (z9f φ):=by
 unfold fnO
 show obl _ _ _ _ _ _ _
 unfold z9f
 repeat' (first | exact trivial |(refine⟨?_,?_⟩) |(intro _) | kernel_rfl)
theorem zt9 [Dr] (φ:Nat):ycd TV Tryz.prog 51 (zdp φ):=
 ykm (N:=zdg Tryz.prog φ) (zd ⟨zkx φ,trivial⟩ trivial trivial trivial) (z9f φ) Tryz.func51 (by kernel_rfl) (zu5 φ) (zt6 φ)
def z9b (φ:Nat):H TV (RTup TT [.val 0]):=.x
def zdf (P:Program) (φ:Nat):Env TV:=⟨P,lk [(49,z4g φ)],lk [],lk [],lk []⟩
theorem zti (φ:Nat) (a) :(zd6 φ).F a=fnX TV (zdf Tryz.prog φ) φ Tryz.f61 [39,0,0] [.val 0] (z9b φ) a:=by kernel_rfl
theorem ztm (φ:Nat):fnO TV (zdf Tryz.prog φ) φ Tryz.f61 [.val 0] (z9b φ):=by
 unfold fnO
 show obl _ _ _ _ _ _ _
 unfold z9b
 repeat' (first | exact trivial |(refine⟨?_,?_⟩) |(intro _) | kernel_rfl)
theorem zt3 [Dr] (φ:Nat):zr TV Tryz.prog 61 (zd6 φ):=
 zx (N:=zdf Tryz.prog φ) (zd ⟨z8q φ,trivial⟩ trivial trivial trivial) (z9b φ) Tryz.func61 (by kernel_rfl) (zti φ) (ztm φ)
def zeb (φ:Nat):H TV (RTup TT [.row 3 0]):=(.seq .x (.seq .x (.seq (.seq .x (.body (.loop ⟨[(35,[(2,.val 0),(3,.ptr 0 0),(7,.own 1),(10,.val 10),(11,.val 0),(12,.val 0)])],[.box 51 [.val 39],.row 3 0]⟩ (fun n z=>z4o φ n z.1 z.2.1 z.2.2.1 z.2.2.2.1 z.2.2.2.2.1 z.2.2.2.2.2.1) (fun zk10=>.x)))) .x)))
def zjp (P:Program) (φ:Nat):Env TV:=⟨P,lk [(30,zj5 φ)],lk [],lk [],lk []⟩
theorem zz6 (φ:Nat) (a) :(zjs φ).F a=fnX TV (zjp Tryz.prog φ) φ Tryz.f160 [39,10,0] [.row 3 0] (zeb φ) a:=by kernel_rfl
theorem zzt (φ:Nat):fnO TV (zjp Tryz.prog φ) φ Tryz.f160 [.row 3 0] (zeb φ):=by
 unfold fnO
 show obl _ _ _ _ _ _ _
 unfold zeb
 repeat' (first | exact trivial |(refine⟨?_,?_⟩) |(intro _) | kernel_rfl)
theorem zyy [Dr] (φ:Nat):zr TV Tryz.prog 160 (zjs φ):=
 zx (N:=zjp Tryz.prog φ) (zd ⟨zvn φ,trivial⟩ trivial trivial trivial) (zeb φ) Tryz.func160 (by kernel_rfl) (zz6 φ) (zzt φ)
def z9i (φ:Nat):H TV (RTup TT [.val 0]):=.x
def zdi (P:Program) (φ:Nat):Env TV:=⟨P,lk [(40,z4c φ),(39,ze5 φ)],lk [],lk [],lk []⟩
theorem ztg (φ:Nat) (a) :(z7d φ).F a=fnX TV (zdi Tryz.prog φ) φ Tryz.f139 [3,3] [.val 0] (z9i φ) a:=by kernel_rfl
theorem zu3 (φ:Nat):fnO TV (zdi Tryz.prog φ) φ Tryz.f139 [.val 0] (z9i φ):=by
 unfold fnO
 show obl _ _ _ _ _ _ _
 unfold z9i
 repeat' (first | exact trivial |(refine⟨?_,?_⟩) |(intro _) | kernel_rfl)
theorem zdk [Dr] (φ:Nat):zr TV Tryz.prog 139 (z7d φ):=
 zx (N:=zdi Tryz.prog φ) (zd ⟨z74 φ,ziz φ,trivial⟩ trivial trivial trivial) (z9i φ) Tryz.func139 (by kernel_rfl) (ztg φ) (zu3 φ)
def z7w (φ:Nat):H TV (RTup TT [.val 0]):=.x
def zan (P:Program) (φ:Nat):Env TV:=⟨P,lk [(40,z4c φ),(139,z7d φ),(39,ze5 φ)],lk [],lk [],lk []⟩
theorem zpg (φ:Nat) (a b) :(zab φ).F a b=fnXc TV (zan Tryz.prog φ) φ Tryz.f162 [0,0] [.b (.val 10)] [.val 0] (z7w φ) a b:=by kernel_rfl
theorem zqi (φ:Nat):fnO TV (zan Tryz.prog φ) φ Tryz.f162 [.val 0] (z7w φ):=by
 unfold fnO
 show obl _ _ _ _ _ _ _
 unfold z7w
 repeat' (first | exact trivial |(refine⟨?_,?_⟩) |(intro _) | kernel_rfl)
theorem zpe [Dr] (φ:Nat):ycd TV Tryz.prog 162 (zab φ):=
 ykm (N:=zan Tryz.prog φ) (zd ⟨z74 φ,zdk φ,ziz φ,trivial⟩ trivial trivial trivial) (z7w φ) Tryz.func162 (by kernel_rfl) (zpg φ) (zqi φ)
def z0f (φ:Nat):H TV (List (TT 0)):=(.seq .x (.body (.loop ⟨[(53,[(0,.own 0),(1,.val 0),(2,.val 0),(3,.cmp 0),(8,.val 0)]),(1,[(0,.own 0)])],[.row 3 0]⟩ (fun n z=>z0z φ n z.1 z.2.1 z.2.2.1 z.2.2.2.1 z.2.2.2.2.1) (fun zk10=>(.seq .x (.seq (.body (.seq .x (.body (.loop ⟨[(53,[(0,.own 0),(1,.val 0),(2,.val 0),(3,.cmp 0),(8,.val 0),(9,.val 0)]),(1,[(0,.own 0)])],[.row 3 0]⟩ (fun n z=>z12 φ (fun a0 a1 a2 a3 a4=>zk10 (a0,a1,a2,a3,a4,())) n z.1 z.2.1 z.2.2.1 z.2.2.2.1 z.2.2.2.2.1 z.2.2.2.2.2.1) (fun zk17=>.x))))) .x))))))
def z1h (P:Program) (φ:Nat):Env TV:=⟨P,lk [],lk [],lk [],lk []⟩
theorem zaj (φ:Nat) (l a) :(z1l φ).F l a=fnM TV (z1h Tryz.prog φ) φ Tryz.f185 3 0 [.val 0,.val 0,.cmp 0] (z0f φ) l a:=by kernel_rfl
theorem zb2 (φ:Nat):fnMO TV (z1h Tryz.prog φ) φ Tryz.f185 3 0 (z0f φ):=by
 unfold fnMO
 show obl _ _ _ _ _ _ _
 unfold z0f
 repeat' (first | exact trivial |(refine⟨?_,?_⟩) |(intro _) | kernel_rfl)
theorem zb1 [Dr] (φ:Nat):zft TV Tryz.prog 185 (z1l φ):=zb9 (N:=z1h Tryz.prog φ) (zd trivial trivial trivial trivial) (z0f φ) Tryz.func185 (by kernel_rfl) (zaj φ) (zb2 φ)
def z0x (φ:Nat):H TV (List (TT 0)):=(.seq .x (.body (.loop ⟨[(38,[(0,.own 0),(1,.val 0),(2,.val 0),(3,.val 0),(10,.val 0)]),(1,[(0,.own 0)])],[.row 3 0]⟩ (fun n z=>z2l φ n z.1 z.2.1 z.2.2.1 z.2.2.2.1 z.2.2.2.2.1) (fun zk11=>.x))))
def z3u (P:Program) (φ:Nat):Env TV:=⟨P,lk [],lk [],lk [],lk []⟩
theorem zdm (φ:Nat) (l a) :(z3o φ).F l a=fnM TV (z3u Tryz.prog φ) φ Tryz.f190 3 0 [.val 0,.val 0,.val 0,.cmp 0] (z0x φ) l a:=by kernel_rfl
theorem zdh (φ:Nat):fnMO TV (z3u Tryz.prog φ) φ Tryz.f190 3 0 (z0x φ):=by
 unfold fnMO
 show obl _ _ _ _ _ _ _
 unfold z0x
 repeat' (first | exact trivial |(refine⟨?_,?_⟩) |(intro _) | kernel_rfl)
theorem zdd [Dr] (φ:Nat):zft TV Tryz.prog 190 (z3o φ):=zb9 (N:=z3u Tryz.prog φ) (zd trivial trivial trivial trivial) (z0x φ) Tryz.func190 (by kernel_rfl) (zdm φ) (zdh φ)
def z2a (φ:Nat):H TV (List (TT 0)):=(.seq .x (.seq .x (.seq (.body (.loop ⟨[(58,[(0,.own 0),(2,.val 0),(4,.cmp 0),(10,.val 0),(11,.val 0)]),(1,[(0,.own 0)])],[.row 3 0]⟩ (fun n z=>z1b φ n z.1 z.2.1 z.2.2.1 z.2.2.2.1 z.2.2.2.2.1) (fun zk11=>.x))) .x)))
def z5d (P:Program) (φ:Nat):Env TV:=⟨P,lk [],lk [(190,z3o φ)],lk [],lk []⟩
theorem zgn (φ:Nat) (l a) :(z4z φ).F l a=fnM TV (z5d Tryz.prog φ) φ Tryz.f188 3 0 [.val 0,.val 0,.val 0,.cmp 0] (z2a φ) l a:=by kernel_rfl
theorem zgq (φ:Nat):fnMO TV (z5d Tryz.prog φ) φ Tryz.f188 3 0 (z2a φ):=by
 unfold fnMO
 show obl _ _ _ _ _ _ _
 unfold z2a
 repeat' (first | exact trivial |(refine⟨?_,?_⟩) |(intro _) | kernel_rfl)
theorem zgv [Dr] (φ:Nat):zft TV Tryz.prog 188 (z4z φ):=zb9 (N:=z5d Tryz.prog φ) (zd trivial ⟨(zdd φ),trivial⟩ trivial trivial) (z2a φ) Tryz.func188 (by kernel_rfl) (zgn φ) (zgq φ)
def z19 (φ d:Nat):H TV (List (TT 0)):=(.seq (.seq .x (.cond (.seq .x (.seq .x (.seq (.body (.loop ⟨[(220,[(0,.own 0),(1,.val 0),(4,.cmp 0),(10,.val 0),(11,.val 0)]),(1,[(0,.own 0)])],[.row 3 0]⟩ (fun n z=>z0s φ n z.1 z.2.1 z.2.2.1 z.2.2.2.1 z.2.2.2.2.1) (fun zk11=>.x))) (.seq (.seq .x (.body (.loop ⟨[(220,[(0,.own 0),(10,.val 0),(13,.val 0)]),(1,[(0,.own 0)])],[.row 3 0]⟩ (fun n z=>z3f φ n z.1 z.2.1 z.2.2.1) (fun zk16=>.x)))) .x)))) .x)) (.seq (.seq .x (.cond (.seq .x (.seq .x (.seq (.body (.loop ⟨[(220,[(0,.own 0),(2,.val 0),(4,.cmp 0),(14,.val 0),(15,.val 0)]),(1,[(0,.own 0)])],[.row 3 0]⟩ (fun n z=>z0p φ n z.1 z.2.1 z.2.2.1 z.2.2.2.1 z.2.2.2.2.1) (fun zk22=>.x))) (.seq (.seq .x (.body (.loop ⟨[(220,[(0,.own 0),(14,.val 0),(17,.val 0)]),(1,[(0,.own 0)])],[.row 3 0]⟩ (fun n z=>z32 φ n z.1 z.2.1 z.2.2.1) (fun zk27=>.x)))) .x)))) .x)) (.seq .x (.seq .x (.seq .x (.seq (.join ⟨[(220,[(0,.own 0),(1,.val 0),(2,.val 0),(3,.val 0),(4,.cmp 0),(18,.val 0),(19,.val 0),(20,.val 0),(21,.val 0)]),(1,[(0,.own 0)])],[.row 3 0]⟩ (fun z=>z3a φ (zm φ d) z.1 z.2.1 z.2.2.1 z.2.2.2.1 z.2.2.2.2.1 z.2.2.2.2.2.1 z.2.2.2.2.2.2.1 z.2.2.2.2.2.2.2.1 z.2.2.2.2.2.2.2.2.1) (.seq .x .x)) (.seq .x (.seq (.body (.loop ⟨[(220,[(0,.own 0),(1,.val 0),(2,.val 0),(3,.val 0),(4,.cmp 0),(18,.val 0),(19,.val 0),(20,.val 0),(21,.val 0),(22,.val 0)]),(1,[(0,.own 0)])],[.row 3 0]⟩ (fun n z=>z0o φ (zm φ d) n z.1 z.2.1 z.2.2.1 z.2.2.2.1 z.2.2.2.2.1 z.2.2.2.2.2.1 z.2.2.2.2.2.2.1 z.2.2.2.2.2.2.2.1 z.2.2.2.2.2.2.2.2.1 z.2.2.2.2.2.2.2.2.2.1) (fun zk48=>.x))) (.seq .x (.seq (.join ⟨[(220,[(0,.own 0),(1,.val 0),(3,.val 0),(4,.cmp 0),(18,.val 0),(20,.val 0),(24,.val 0)]),(1,[(0,.own 0)])],[.row 3 0]⟩ (fun z=>z3b φ (zm φ d) z.1 z.2.1 z.2.2.1 z.2.2.2.1 z.2.2.2.2.1 z.2.2.2.2.2.1 z.2.2.2.2.2.2.1) (.seq .x .x)) (.seq (.join ⟨[(220,[(0,.own 0),(3,.val 0),(4,.cmp 0),(18,.val 0),(24,.val 0)]),(1,[(0,.own 0)])],[.row 3 0]⟩ (fun z=>z3c φ (zm φ d) z.1 z.2.1 z.2.2.1 z.2.2.2.1 z.2.2.2.2.1) (.seq .x .x)) .x)))))))))))
def z48 (P:Program) (φ d:Nat):Env TV:=⟨P,lk [],lk [(188,z4z φ),(186,z1e φ d)],lk [],lk []⟩
theorem zej (φ d:Nat) (l a) :(z1e φ (d+1)).F l a=fnM TV (z48 Tryz.prog φ d) φ Tryz.f186 3 0 [.val 0,.val 0,.val 0,.cmp 0] (z19 φ d) l a:=by kernel_rfl
theorem zez (φ d:Nat):fnMO TV (z48 Tryz.prog φ d) φ Tryz.f186 3 0 (z19 φ d):=by
 unfold fnMO
 show obl _ _ _ _ _ _ _
 unfold z19
 repeat' (first | exact trivial |(refine⟨?_,?_⟩) |(intro _) | kernel_rfl)
theorem z80 [Dr] (φ:Nat):∀ d,zft TV Tryz.prog 186 (z1e φ d)
 | 0=>fun l a l2 sv h=>absurd (show (none:Option (List (TT 0)))=some l2 from h) (fun q=>by cases q)
 | d+1=>zb9 (N:=z48 Tryz.prog φ d) (zd trivial ⟨(zgv φ),(z80 φ d),trivial⟩ trivial trivial) (z19 φ d) Tryz.func186 (by kernel_rfl) (zej φ d) (zez φ d)
def z2b (φ:Nat):H TV (List (TT 0)):=(.seq .x (.seq .x (.seq (.body (.loop ⟨[(63,[(0,.own 0),(1,.val 0),(2,.cmp 0),(6,.val 0),(7,.val 0),(8,.val 0)]),(1,[(0,.own 0)])],[.row 3 0]⟩ (fun n z=>z4a φ n z.1 z.2.1 z.2.2.1 z.2.2.2.1 z.2.2.2.2.1 z.2.2.2.2.2.1) (fun zk10=>.x))) (.seq .x (.body (.loop ⟨[(63,[(0,.own 0),(1,.val 0),(2,.cmp 0),(6,.val 0)]),(1,[(0,.own 0)])],[.row 3 0]⟩ (fun n z=>z3y φ n z.1 z.2.1 z.2.2.1 z.2.2.2.1) (fun zk17=>(.seq .x (.body (.seq .x (.seq (.body (.loop ⟨[(63,[(0,.own 0),(1,.val 0),(2,.cmp 0),(6,.val 0),(7,.val 0),(8,.val 0)]),(1,[(0,.own 0)])],[.row 3 0]⟩ (fun n z=>z44 φ (fun a0 a1 a2 a3=>zk17 (a0,a1,a2,a3,())) n z.1 z.2.1 z.2.2.1 z.2.2.2.1 z.2.2.2.2.1 z.2.2.2.2.2.1) (fun zk24=>.x))) .x)))))))))))
def z5f (P:Program) (φ:Nat):Env TV:=⟨P,lk [],lk [(185,z1l φ),(186,z1e φ φ)],lk [],lk []⟩
theorem zgo (φ:Nat) (l a) :(z56 φ).F l a=fnM TV (z5f Tryz.prog φ) φ Tryz.f179 3 0 [.val 0,.cmp 0] (z2b φ) l a:=by kernel_rfl
theorem zgw (φ:Nat):fnMO TV (z5f Tryz.prog φ) φ Tryz.f179 3 0 (z2b φ):=by
 unfold fnMO
 show obl _ _ _ _ _ _ _
 unfold z2b
 repeat' (first | exact trivial |(refine⟨?_,?_⟩) |(intro _) | kernel_rfl)
theorem zgs [Dr] (φ:Nat):zft TV Tryz.prog 179 (z56 φ):=zb9 (N:=z5f Tryz.prog φ) (zd trivial ⟨(zb1 φ),(z80 φ φ),trivial⟩ trivial trivial) (z2b φ) Tryz.func179 (by kernel_rfl) (zgo φ) (zgw φ)
def z1x (φ:Nat):H TV (List (TT 0)):=.x
def z4v (P:Program) (φ:Nat):Env TV:=⟨P,lk [],lk [(179,z56 φ)],lk [],lk []⟩
theorem zfo (φ:Nat) (l a) :(z4w φ).F l a=fnM TV (z4v Tryz.prog φ) φ Tryz.f161 3 0 [.cmp 0] (z1x φ) l a:=by kernel_rfl
theorem zg8 (φ:Nat):fnMO TV (z4v Tryz.prog φ) φ Tryz.f161 3 0 (z1x φ):=by
 unfold fnMO
 show obl _ _ _ _ _ _ _
 unfold z1x
 repeat' (first | exact trivial |(refine⟨?_,?_⟩) |(intro _) | kernel_rfl)
theorem zg4 [Dr] (φ:Nat):zft TV Tryz.prog 161 (z4w φ):=zb9 (N:=z4v Tryz.prog φ) (zd trivial ⟨(zgs φ),trivial⟩ trivial trivial) (z1x φ) Tryz.func161 (by kernel_rfl) (zfo φ) (zg8 φ)
def z8k (φ:Nat):H TV (RTup TT [.val 1]):=.x
def zbv (P:Program) (φ:Nat):Env TV:=⟨P,lk [],lk [],lk [],lk []⟩
theorem zrm (φ:Nat) (a) :(zbj φ).F a=fnX TV (zbv Tryz.prog φ) φ Tryz.f163 [39,7] [.val 1] (z8k φ) a:=by kernel_rfl
theorem zqv (φ:Nat):fnO TV (zbv Tryz.prog φ) φ Tryz.f163 [.val 1] (z8k φ):=by
 unfold fnO
 show obl _ _ _ _ _ _ _
 unfold z8k
 repeat' (first | exact trivial |(refine⟨?_,?_⟩) |(intro _) | kernel_rfl)
theorem zsb [Dr] (φ:Nat):zr TV Tryz.prog 163 (zbj φ):=
 zx (N:=zbv Tryz.prog φ) (zd trivial trivial trivial trivial) (z8k φ) Tryz.func163 (by kernel_rfl) (zrm φ) (zqv φ)
def zc7 (φ:Nat):H TV (RTup TT [.val 0]):=.x
def zi2 (P:Program) (φ:Nat):Env TV:=⟨P,lk [],lk [],lk [],lk []⟩
theorem zx4 (φ:Nat) (a) :(zhr φ).F a=fnX TV (zi2 Tryz.prog φ) φ Tryz.f164 [7,7] [.val 0] (zc7 φ) a:=by kernel_rfl
theorem zxw (φ:Nat):fnO TV (zi2 Tryz.prog φ) φ Tryz.f164 [.val 0] (zc7 φ):=by
 unfold fnO
 show obl _ _ _ _ _ _ _
 unfold zc7
 repeat' (first | exact trivial |(refine⟨?_,?_⟩) |(intro _) | kernel_rfl)
theorem zx0 [Dr] (φ:Nat):zr TV Tryz.prog 164 (zhr φ):=
 zx (N:=zi2 Tryz.prog φ) (zd trivial trivial trivial trivial) (zc7 φ) Tryz.func164 (by kernel_rfl) (zx4 φ) (zxw φ)
def z9d (φ:Nat):H TV (RTup TT [.val 43]):=(.seq .x (.seq .x (.seq .x (.seq .x (.seq .x (.seq .x (.seq (.seq .x (.body (.loop ⟨[(137,[(2,.ptr 0 0),(3,.ptr 1 0),(6,.own 2),(7,.own 3),(8,.own 4),(29,.own 5),(30,.val 0),(31,.val 0)])],[.box 51 [.val 39],.box 22 [.val 10],.row 3 0,.map 0 1 0,.row 200 42,.row 3 0]⟩ (fun n z=>z1i φ n z.1 z.2.1 z.2.2.1 z.2.2.2.1 z.2.2.2.2.1 z.2.2.2.2.2.1 z.2.2.2.2.2.2.1 z.2.2.2.2.2.2.2.1) (fun zk15=>(.seq .x (.seq .x (.seq (.body (.seq .x (.body (.seq .x (.seq .x (.seq .x (.seq .x (.seq (.seq .x (.body (.loop ⟨[(137,[(2,.ptr 0 0),(3,.ptr 1 0),(6,.own 2),(7,.own 3),(8,.own 4),(10,.val 0),(11,.ptr 5 0),(12,.val 0),(29,.own 6),(30,.val 0),(31,.val 0),(43,.own 2),(44,.val 0),(45,.val 0)])],[.box 51 [.val 39],.box 22 [.val 10],.row 3 0,.map 0 1 0,.row 200 42,.box 57 [.val 7],.row 3 0]⟩ (fun n z=>z0c φ (fun a0 a1 a2 a3 a4 a5 a6 a7=>zk15 (a0,a1,a2,a3,a4,a5,a6,a7,())) n z.1 z.2.1 z.2.2.1 z.2.2.2.1 z.2.2.2.2.1 z.2.2.2.2.2.1 z.2.2.2.2.2.2.1 z.2.2.2.2.2.2.2.1 z.2.2.2.2.2.2.2.2.1 z.2.2.2.2.2.2.2.2.2.1 z.2.2.2.2.2.2.2.2.2.2.1 z.2.2.2.2.2.2.2.2.2.2.2.1 z.2.2.2.2.2.2.2.2.2.2.2.2.1) (fun zk30=>.x)))) .x)))))))) .x))))))) .x)))))))
def zdl (P:Program) (φ:Nat):Env TV:=⟨P,lk [(49,z4g φ),(160,zjs φ),(163,zbj φ),(164,zhr φ),(40,z4c φ),(139,z7d φ),(39,ze5 φ)],lk [(161,z4w φ)],lk [(162,zab φ)],lk []⟩
theorem ztz (φ:Nat) (a) :(zd5 φ).F a=fnX TV (zdl Tryz.prog φ) φ Tryz.f136 [39,10] [.val 43] (z9d φ) a:=by kernel_rfl
theorem zty (φ:Nat):fnO TV (zdl Tryz.prog φ) φ Tryz.f136 [.val 43] (z9d φ):=by
 unfold fnO
 show obl _ _ _ _ _ _ _
 unfold z9d
 repeat' (first | exact trivial |(refine⟨?_,?_⟩) |(intro _) | kernel_rfl)
theorem ztr [Dr] (φ:Nat):zr TV Tryz.prog 136 (zd5 φ):=
 zx (N:=zdl Tryz.prog φ) (zd ⟨z8q φ,zyy φ,zsb φ,zx0 φ,z74 φ,zdk φ,ziz φ,trivial⟩ ⟨(zg4 φ),trivial⟩ ⟨zpe φ,trivial⟩ trivial) (z9d φ) Tryz.func136 (by kernel_rfl) (ztz φ) (zty φ)
def z0e (φ:Nat):H TV (List (TT 44)):=(.seq .x (.body (.loop ⟨[(53,[(0,.own 0),(1,.val 0),(2,.val 0),(3,.cmp 44),(8,.val 0)]),(1,[(0,.own 0)])],[.row 165 44]⟩ (fun n z=>z13 φ n z.1 z.2.1 z.2.2.1 z.2.2.2.1 z.2.2.2.2.1) (fun zk10=>(.seq .x (.seq (.body (.seq .x (.body (.loop ⟨[(53,[(0,.own 0),(1,.val 0),(2,.val 0),(3,.cmp 44),(8,.val 0),(9,.val 0)]),(1,[(0,.own 0)])],[.row 165 44]⟩ (fun n z=>z14 φ (fun a0 a1 a2 a3 a4=>zk10 (a0,a1,a2,a3,a4,())) n z.1 z.2.1 z.2.2.1 z.2.2.2.1 z.2.2.2.2.1 z.2.2.2.2.2.1) (fun zk17=>.x))))) .x))))))
def z27 (P:Program) (φ:Nat):Env TV:=⟨P,lk [],lk [],lk [],lk []⟩
theorem zam (φ:Nat) (l a) :(z1w φ).F l a=fnM TV (z27 Tryz.prog φ) φ Tryz.f180 165 44 [.val 0,.val 0,.cmp 44] (z0e φ) l a:=by kernel_rfl
theorem zb0 (φ:Nat):fnMO TV (z27 Tryz.prog φ) φ Tryz.f180 165 44 (z0e φ):=by
 unfold fnMO
 show obl _ _ _ _ _ _ _
 unfold z0e
 repeat' (first | exact trivial |(refine⟨?_,?_⟩) |(intro _) | kernel_rfl)
theorem zai [Dr] (φ:Nat):zft TV Tryz.prog 180 (z1w φ):=zb9 (N:=z27 Tryz.prog φ) (zd trivial trivial trivial trivial) (z0e φ) Tryz.func180 (by kernel_rfl) (zam φ) (zb0 φ)
def z0w (φ:Nat):H TV (List (TT 44)):=(.seq .x (.body (.loop ⟨[(38,[(0,.own 0),(1,.val 0),(2,.val 0),(3,.val 0),(10,.val 0)]),(1,[(0,.own 0)])],[.row 165 44]⟩ (fun n z=>z2q φ n z.1 z.2.1 z.2.2.1 z.2.2.2.1 z.2.2.2.2.1) (fun zk11=>.x))))
def z3x (P:Program) (φ:Nat):Env TV:=⟨P,lk [],lk [],lk [],lk []⟩
theorem zd4 (φ:Nat) (l a) :(z3s φ).F l a=fnM TV (z3x Tryz.prog φ) φ Tryz.f189 165 44 [.val 0,.val 0,.val 0,.cmp 44] (z0w φ) l a:=by kernel_rfl
theorem zdq (φ:Nat):fnMO TV (z3x Tryz.prog φ) φ Tryz.f189 165 44 (z0w φ):=by
 unfold fnMO
 show obl _ _ _ _ _ _ _
 unfold z0w
 repeat' (first | exact trivial |(refine⟨?_,?_⟩) |(intro _) | kernel_rfl)
theorem zd7 [Dr] (φ:Nat):zft TV Tryz.prog 189 (z3s φ):=zb9 (N:=z3x Tryz.prog φ) (zd trivial trivial trivial trivial) (z0w φ) Tryz.func189 (by kernel_rfl) (zd4 φ) (zdq φ)
def z2g (φ:Nat):H TV (List (TT 44)):=(.seq .x (.seq .x (.seq (.body (.loop ⟨[(58,[(0,.own 0),(2,.val 0),(4,.cmp 44),(10,.val 0),(11,.val 0)]),(1,[(0,.own 0)])],[.row 165 44]⟩ (fun n z=>z1a φ n z.1 z.2.1 z.2.2.1 z.2.2.2.1 z.2.2.2.2.1) (fun zk11=>.x))) .x)))
def z5c (P:Program) (φ:Nat):Env TV:=⟨P,lk [],lk [(189,z3s φ)],lk [],lk []⟩
theorem zgr (φ:Nat) (l a) :(z57 φ).F l a=fnM TV (z5c Tryz.prog φ) φ Tryz.f187 165 44 [.val 0,.val 0,.val 0,.cmp 44] (z2g φ) l a:=by kernel_rfl
theorem zgm (φ:Nat):fnMO TV (z5c Tryz.prog φ) φ Tryz.f187 165 44 (z2g φ):=by
 unfold fnMO
 show obl _ _ _ _ _ _ _
 unfold z2g
 repeat' (first | exact trivial |(refine⟨?_,?_⟩) |(intro _) | kernel_rfl)
theorem zgl [Dr] (φ:Nat):zft TV Tryz.prog 187 (z57 φ):=zb9 (N:=z5c Tryz.prog φ) (zd trivial ⟨(zd7 φ),trivial⟩ trivial trivial) (z2g φ) Tryz.func187 (by kernel_rfl) (zgr φ) (zgm φ)
def z1d (φ d:Nat):H TV (List (TT 44)):=(.seq (.seq .x (.cond (.seq .x (.seq .x (.seq (.body (.loop ⟨[(220,[(0,.own 0),(1,.val 0),(4,.cmp 44),(10,.val 0),(11,.val 0)]),(1,[(0,.own 0)])],[.row 165 44]⟩ (fun n z=>z0m φ n z.1 z.2.1 z.2.2.1 z.2.2.2.1 z.2.2.2.2.1) (fun zk11=>.x))) (.seq (.seq .x (.body (.loop ⟨[(220,[(0,.own 0),(10,.val 0),(13,.val 0)]),(1,[(0,.own 0)])],[.row 165 44]⟩ (fun n z=>z3e φ n z.1 z.2.1 z.2.2.1) (fun zk16=>.x)))) .x)))) .x)) (.seq (.seq .x (.cond (.seq .x (.seq .x (.seq (.body (.loop ⟨[(220,[(0,.own 0),(2,.val 0),(4,.cmp 44),(14,.val 0),(15,.val 0)]),(1,[(0,.own 0)])],[.row 165 44]⟩ (fun n z=>z0r φ n z.1 z.2.1 z.2.2.1 z.2.2.2.1 z.2.2.2.2.1) (fun zk22=>.x))) (.seq (.seq .x (.body (.loop ⟨[(220,[(0,.own 0),(14,.val 0),(17,.val 0)]),(1,[(0,.own 0)])],[.row 165 44]⟩ (fun n z=>z31 φ n z.1 z.2.1 z.2.2.1) (fun zk27=>.x)))) .x)))) .x)) (.seq .x (.seq .x (.seq .x (.seq (.join ⟨[(220,[(0,.own 0),(1,.val 0),(2,.val 0),(3,.val 0),(4,.cmp 44),(18,.val 0),(19,.val 0),(20,.val 0),(21,.val 0)]),(1,[(0,.own 0)])],[.row 165 44]⟩ (fun z=>z38 φ (zl φ d) z.1 z.2.1 z.2.2.1 z.2.2.2.1 z.2.2.2.2.1 z.2.2.2.2.2.1 z.2.2.2.2.2.2.1 z.2.2.2.2.2.2.2.1 z.2.2.2.2.2.2.2.2.1) (.seq .x .x)) (.seq .x (.seq (.body (.loop ⟨[(220,[(0,.own 0),(1,.val 0),(2,.val 0),(3,.val 0),(4,.cmp 44),(18,.val 0),(19,.val 0),(20,.val 0),(21,.val 0),(22,.val 0)]),(1,[(0,.own 0)])],[.row 165 44]⟩ (fun n z=>z0n φ (zl φ d) n z.1 z.2.1 z.2.2.1 z.2.2.2.1 z.2.2.2.2.1 z.2.2.2.2.2.1 z.2.2.2.2.2.2.1 z.2.2.2.2.2.2.2.1 z.2.2.2.2.2.2.2.2.1 z.2.2.2.2.2.2.2.2.2.1) (fun zk48=>.x))) (.seq .x (.seq (.join ⟨[(220,[(0,.own 0),(1,.val 0),(3,.val 0),(4,.cmp 44),(18,.val 0),(20,.val 0),(24,.val 0)]),(1,[(0,.own 0)])],[.row 165 44]⟩ (fun z=>z3d φ (zl φ d) z.1 z.2.1 z.2.2.1 z.2.2.2.1 z.2.2.2.2.1 z.2.2.2.2.2.1 z.2.2.2.2.2.2.1) (.seq .x .x)) (.seq (.join ⟨[(220,[(0,.own 0),(3,.val 0),(4,.cmp 44),(18,.val 0),(24,.val 0)]),(1,[(0,.own 0)])],[.row 165 44]⟩ (fun z=>z36 φ (zl φ d) z.1 z.2.1 z.2.2.1 z.2.2.2.1 z.2.2.2.2.1) (.seq .x .x)) .x)))))))))))
def z47 (P:Program) (φ d:Nat):Env TV:=⟨P,lk [],lk [(187,z57 φ),(181,z1c φ d)],lk [],lk []⟩
theorem zeo (φ d:Nat) (l a) :(z1c φ (d+1)).F l a=fnM TV (z47 Tryz.prog φ d) φ Tryz.f181 165 44 [.val 0,.val 0,.val 0,.cmp 44] (z1d φ d) l a:=by kernel_rfl
theorem zf6 (φ d:Nat):fnMO TV (z47 Tryz.prog φ d) φ Tryz.f181 165 44 (z1d φ d):=by
 unfold fnMO
 show obl _ _ _ _ _ _ _
 unfold z1d
 repeat' (first | exact trivial |(refine⟨?_,?_⟩) |(intro _) | kernel_rfl)
theorem z7v [Dr] (φ:Nat):∀ d,zft TV Tryz.prog 181 (z1c φ d)
 | 0=>fun l a l2 sv h=>absurd (show (none:Option (List (TT 44)))=some l2 from h) (fun q=>by cases q)
 | d+1=>zb9 (N:=z47 Tryz.prog φ d) (zd trivial ⟨(zgl φ),(z7v φ d),trivial⟩ trivial trivial) (z1d φ d) Tryz.func181 (by kernel_rfl) (zeo φ d) (zf6 φ d)
def z2e (φ:Nat):H TV (List (TT 44)):=(.seq .x (.seq .x (.seq (.body (.loop ⟨[(63,[(0,.own 0),(1,.val 0),(2,.cmp 44),(6,.val 0),(7,.val 0),(8,.val 0)]),(1,[(0,.own 0)])],[.row 165 44]⟩ (fun n z=>z49 φ n z.1 z.2.1 z.2.2.1 z.2.2.2.1 z.2.2.2.2.1 z.2.2.2.2.2.1) (fun zk10=>.x))) (.seq .x (.body (.loop ⟨[(63,[(0,.own 0),(1,.val 0),(2,.cmp 44),(6,.val 0)]),(1,[(0,.own 0)])],[.row 165 44]⟩ (fun n z=>z3z φ n z.1 z.2.1 z.2.2.1 z.2.2.2.1) (fun zk17=>(.seq .x (.body (.seq .x (.seq (.body (.loop ⟨[(63,[(0,.own 0),(1,.val 0),(2,.cmp 44),(6,.val 0),(7,.val 0),(8,.val 0)]),(1,[(0,.own 0)])],[.row 165 44]⟩ (fun n z=>z42 φ (fun a0 a1 a2 a3=>zk17 (a0,a1,a2,a3,())) n z.1 z.2.1 z.2.2.1 z.2.2.2.1 z.2.2.2.2.1 z.2.2.2.2.2.1) (fun zk24=>.x))) .x)))))))))))
def z5b (P:Program) (φ:Nat):Env TV:=⟨P,lk [],lk [(180,z1w φ),(181,z1c φ φ)],lk [],lk []⟩
theorem zgt (φ:Nat) (l a) :(z5e φ).F l a=fnM TV (z5b Tryz.prog φ) φ Tryz.f165 165 44 [.val 0,.cmp 44] (z2e φ) l a:=by kernel_rfl
theorem zgp (φ:Nat):fnMO TV (z5b Tryz.prog φ) φ Tryz.f165 165 44 (z2e φ):=by
 unfold fnMO
 show obl _ _ _ _ _ _ _
 unfold z2e
 repeat' (first | exact trivial |(refine⟨?_,?_⟩) |(intro _) | kernel_rfl)
theorem zgu [Dr] (φ:Nat):zft TV Tryz.prog 165 (z5e φ):=zb9 (N:=z5b Tryz.prog φ) (zd trivial ⟨(zai φ),(z7v φ φ),trivial⟩ trivial trivial) (z2e φ) Tryz.func165 (by kernel_rfl) (zgt φ) (zgp φ)
def z1n (φ:Nat):H TV (List (TT 44)):=.x
def z4m (P:Program) (φ:Nat):Env TV:=⟨P,lk [],lk [(165,z5e φ)],lk [],lk []⟩
theorem zfl (φ:Nat) (l a) :(z4s φ).F l a=fnM TV (z4m Tryz.prog φ) φ Tryz.f137 165 44 [.cmp 44] (z1n φ) l a:=by kernel_rfl
theorem zfi (φ:Nat):fnMO TV (z4m Tryz.prog φ) φ Tryz.f137 165 44 (z1n φ):=by
 unfold fnMO
 show obl _ _ _ _ _ _ _
 unfold z1n
 repeat' (first | exact trivial |(refine⟨?_,?_⟩) |(intro _) | kernel_rfl)
theorem zgi [Dr] (φ:Nat):zft TV Tryz.prog 137 (z4s φ):=zb9 (N:=z4m Tryz.prog φ) (zd trivial ⟨(zgu φ),trivial⟩ trivial trivial) (z1n φ) Tryz.func137 (by kernel_rfl) (zfl φ) (zfi φ)
def z7y (φ:Nat):H TV (RTup TT [.val 0]):=.x
def zap (P:Program) (φ:Nat):Env TV:=⟨P,lk [(40,z4c φ),(139,z7d φ),(39,ze5 φ)],lk [],lk [],lk []⟩
theorem zq8 (φ:Nat) (a) :(za8 φ).F a=fnX TV (zap Tryz.prog φ) φ Tryz.f138 [44,44] [.val 0] (z7y φ) a:=by kernel_rfl
theorem zph (φ:Nat):fnO TV (zap Tryz.prog φ) φ Tryz.f138 [.val 0] (z7y φ):=by
 unfold fnO
 show obl _ _ _ _ _ _ _
 unfold z7y
 repeat' (first | exact trivial |(refine⟨?_,?_⟩) |(intro _) | kernel_rfl)
theorem zpn [Dr] (φ:Nat):zr TV Tryz.prog 138 (za8 φ):=
 zx (N:=zap Tryz.prog φ) (zd ⟨z74 φ,zdk φ,ziz φ,trivial⟩ trivial trivial trivial) (z7y φ) Tryz.func138 (by kernel_rfl) (zq8 φ) (zph φ)
theorem zm6 (φ:Nat) (k9 :((List z1)->(List (Nat->Int))->Int->Int->(List z6)->Option ((List z6)×Unit))) (x18 :(List z1)) (x19 :(List (Nat->Int))) (x20:Int) (x21:Int) (x22 :(List z6)) (x23 :(Nat->Int)):zbk (z5r φ k9 x18 x19 x20 x21 x22 x23) (z9q φ k9 x18 x19 x20 x21 x22 x23):=by
 unfold z5r z9q
 repeat' (first | exact zbk.one | exact zbk.nil | refine zbk.cons ?_ ?_ | refine zbk.ck ?_ | exact zbk.same (n:=2) rfl | exact zbk.same (n:=3) rfl | exact zbk.same (n:=4) rfl | exact zbk.same (n:=6) rfl | refine zbk.bind fun _=>?_)
def z9l (φ:Nat):H TV (RTup TT [.val 45]):=(.seq .x (.seq .x (.seq (.seq .x (.body (.loop ⟨[(67,[(1,.val 10),(5,.own 0),(12,.val 43),(13,.val 0),(14,.val 0)])],[.row 165 44]⟩ (fun n z=>z4f φ n z.1 z.2.1 z.2.2.1 z.2.2.2.1 z.2.2.2.2.1) (fun zk9=>(.seq .x (.seq .x (.seq (.body (.seq .x (.seq (.join ⟨[(67,[(1,.val 10),(5,.own 0),(8,.ptr 1 0),(9,.ptr 2 0),(12,.val 43),(13,.val 0),(14,.val 0)])],[.row 165 44,.box 57 [.val 7],.box 57 [.val 7]]⟩ (fun z=>z5n φ (fun a0 a1 a2 a3 a4=>zk9 (a0,a1,a2,a3,a4,())) z.1 z.2.1 z.2.2.1 z.2.2.2.1 z.2.2.2.2.1 z.2.2.2.2.2.1 z.2.2.2.2.2.2.1) (.alt ⟨[(67,[(1,.val 10),(5,.own 0),(7,.ptr 1 0),(12,.val 43),(13,.val 0),(14,.val 0)])],[.row 165 44,.box 200 [.val 42]]⟩ (fun z=>z5r φ (fun a0 a1 a2 a3 a4=>zk9 (a0,a1,a2,a3,a4,())) z.1 z.2.1 z.2.2.1 z.2.2.2.1 z.2.2.2.2.1 z.2.2.2.2.2.1) (fun z=>z9q φ (fun a0 a1 a2 a3 a4=>zk9 (a0,a1,a2,a3,a4,())) z.1 z.2.1 z.2.2.1 z.2.2.2.1 z.2.2.2.2.1 z.2.2.2.2.2.1))) .x))) .x))))))) .x)))
def zd9 (P:Program) (φ:Nat):Env TV:=⟨P,lk [(136,zd5 φ),(138,za8 φ)],lk [(137,z4s φ)],lk [],lk []⟩
theorem ztv (φ:Nat) (a) :(zdc φ).F a=fnX TV (zd9 Tryz.prog φ) φ Tryz.f98 [39,10] [.val 45] (z9l φ) a:=by kernel_rfl
theorem zt7 (φ:Nat):fnO TV (zd9 Tryz.prog φ) φ Tryz.f98 [.val 45] (z9l φ):=by
 unfold fnO
 show obl _ _ _ _ _ _ _
 unfold z9l
 repeat' (first | exact trivial |(refine⟨?_,?_⟩) |(intro _) | kernel_rfl | exact zm6 ..)
theorem zu4 [Dr] (φ:Nat):zr TV Tryz.prog 98 (zdc φ):=
 zx (N:=zd9 Tryz.prog φ) (zd ⟨ztr φ,zpn φ,trivial⟩ ⟨(zgi φ),trivial⟩ trivial trivial) (z9l φ) Tryz.func98 (by kernel_rfl) (ztv φ) (zt7 φ)
def z9h (φ:Nat):H TV (RTup TT [.val 47]):=(.seq .x (.seq .x (.seq (.seq .x (.body (.loop ⟨[(72,[(2,.val 0),(7,.own 0),(28,.val 45),(29,.val 0),(30,.val 0)])],[.row 127 46]⟩ (fun n z=>z1m φ n z.1 z.2.1 z.2.2.1 z.2.2.2.1 z.2.2.2.2.1) (fun zk10=>.x)))) .x)))
def zdj (P:Program) (φ:Nat):Env TV:=⟨P,lk [(98,zdc φ)],lk [],lk [],lk []⟩
theorem zta (φ:Nat) (a) :(zdx φ).F a=fnX TV (zdj Tryz.prog φ) φ Tryz.f62 [39,10,0] [.val 47] (z9h φ) a:=by kernel_rfl
theorem zu0 (φ:Nat):fnO TV (zdj Tryz.prog φ) φ Tryz.f62 [.val 47] (z9h φ):=by
 unfold fnO
 show obl _ _ _ _ _ _ _
 unfold z9h
 repeat' (first | exact trivial |(refine⟨?_,?_⟩) |(intro _) | kernel_rfl)
theorem zt8 [Dr] (φ:Nat):zr TV Tryz.prog 62 (zdx φ):=
 zx (N:=zdj Tryz.prog φ) (zd ⟨zu4 φ,trivial⟩ trivial trivial trivial) (z9h φ) Tryz.func62 (by kernel_rfl) (zta φ) (zu0 φ)
def zeq (φ:Nat):H TV (RTup TT [.val 0,.val 0]):=(.seq .x (.seq .x (.seq .x (.seq .x (.seq (.body (.loop ⟨[(42,[(3,.val 0),(11,.val 47),(12,.val 0)])],[]⟩ (fun n z=>z6r φ n z.1 z.2.1 z.2.2.1) (fun zk10=>.x))) .x)))))
def zkr (P:Program) (φ:Nat):Env TV:=⟨P,lk [(61,zd6 φ),(62,zdx φ)],lk [],lk [],lk []⟩
theorem y2u (φ:Nat) (a) :(zkf φ).F a=fnX TV (zkr Tryz.prog φ) φ Tryz.f32 [39,10,0,0] [.val 0,.val 0] (zeq φ) a:=by kernel_rfl
theorem y1b (φ:Nat):fnO TV (zkr Tryz.prog φ) φ Tryz.f32 [.val 0,.val 0] (zeq φ):=by
 unfold fnO
 show obl _ _ _ _ _ _ _
 unfold zeq
 repeat' (first | exact trivial |(refine⟨?_,?_⟩) |(intro _) | kernel_rfl)
theorem y0c [Dr] (φ:Nat):zr TV Tryz.prog 32 (zkf φ):=
 zx (N:=zkr Tryz.prog φ) (zd ⟨zt3 φ,zt8 φ,trivial⟩ trivial trivial trivial) (zeq φ) Tryz.func32 (by kernel_rfl) (y2u φ) (y1b φ)
def zc9 (φ:Nat):H TV (RTup TT [.val 0,.val 0]):=(.seq .x (.seq .x (.seq .x (.seq .x (.seq (.seq .x (.body (.loop ⟨[(116,[(1,.val 10),(3,.ptr 0 0),(5,.ptr 1 0),(9,.ptr 2 0),(35,.val 5),(36,.val 0),(37,.val 0)])],[.box 51 [.val 39],.box 57 [.val 7],.box 114 [.own 3],.map 9 1 0]⟩ (fun n z=>z3v φ n z.1 z.2.1 z.2.2.1 z.2.2.2.1 z.2.2.2.2.1 z.2.2.2.2.2.1 z.2.2.2.2.2.2.1) (fun zk13=>.x)))) (.seq .x (.seq (.seq .x (.body (.loop ⟨[(116,[(1,.val 10),(3,.ptr 0 0),(5,.ptr 1 0),(9,.ptr 2 0),(12,.own 3),(48,.val 10),(49,.val 0),(50,.val 0)])],[.box 51 [.val 39],.box 57 [.val 7],.box 114 [.own 4],.row 57 7,.map 9 1 0]⟩ (fun n z=>z3t φ n z.1 z.2.1 z.2.2.1 z.2.2.2.1 z.2.2.2.2.1 z.2.2.2.2.2.1 z.2.2.2.2.2.2.1 z.2.2.2.2.2.2.2.1) (fun zk23=>(.seq .x (.seq .x (.seq (.body (.seq .x (.seq (.ins 4 50 (.seq .x (.seq (.ins 2 78 (.seq .x (.seq (.seq .x (.body (.loop ⟨[(19,[(0,.val 5),(1,.func 51 [.ptr 0 0]),(7,.val 0),(8,.val 0)]),(9,[]),(116,[(1,.val 10),(3,.ptr 1 0),(5,.ptr 2 0),(9,.ptr 0 0),(12,.own 3),(14,.ptr 4 0),(48,.val 10),(49,.val 0),(50,.val 0)])],[.box 114 [.own 5],.box 51 [.val 39],.box 57 [.val 7],.row 57 7,.box 57 [.val 7],.map 9 1 0]⟩ (fun n z=>z3q φ (fun a0 a1 a2 a3 a4 a5 a6 a7=>zk23 (a0,a1,a2,a3,a4,a5,a6,a7,())) n z.1 z.2.1 z.2.2.1 z.2.2.2.1 z.2.2.2.2.1 z.2.2.2.2.2.1 z.2.2.2.2.2.2.1 z.2.2.2.2.2.2.2.1 z.2.2.2.2.2.2.2.2.1 z.2.2.2.2.2.2.2.2.2.1 z.2.2.2.2.2.2.2.2.2.2.1 z.2.2.2.2.2.2.2.2.2.2.2.1) (fun zk36=>.x)))) .x)) .x) .x)) .x) .x))) .x))))))) (.seq (.frz [(9,some 0),(3,none),(5,none),(9,none)] .x) .x))))))))
def zi0 (P:Program) (φ:Nat):Env TV:=⟨P,lk [(49,z4g φ),(30,zj5 φ),(47,zbr φ),(53,zci φ),(32,zkf φ)],lk [(52,z41 φ)],lk [(51,zdp φ)],lk []⟩
theorem zxx (φ:Nat) (a) :(zcd φ).F a=fnX TV (zi0 Tryz.prog φ) φ Tryz.f22 [39,10,7] [.val 0,.val 0] (zc9 φ) a:=by kernel_rfl
theorem zx1 (φ:Nat):fnO TV (zi0 Tryz.prog φ) φ Tryz.f22 [.val 0,.val 0] (zc9 φ):=by
 unfold fnO
 show obl _ _ _ _ _ _ _
 unfold zc9
 repeat' (first | exact trivial |(refine⟨?_,?_⟩) |(intro _) | kernel_rfl)
theorem zod [Dr] (φ:Nat):zr TV Tryz.prog 22 (zcd φ):=
 zx (N:=zi0 Tryz.prog φ) (zd ⟨z8q φ,zvn φ,zkx φ,zof φ,y0c φ,trivial⟩ ⟨(zar φ),trivial⟩ ⟨zt9 φ,trivial⟩ trivial) (zc9 φ) Tryz.func22 (by kernel_rfl) (zxx φ) (zx1 φ)
def zha (φ:Nat):H TV (RTup TT [.val 1]):=.x
def zmg (P:Program) (φ:Nat):Env TV:=⟨P,lk [(26,zhl φ),(25,zdo φ),(16,zbw φ),(33,zgg φ),(15,z8z φ),(13,zff φ),(12,zbc φ),(24,zif φ),(19,zdr φ),(18,zdb φ),(34,zm2 φ),(22,zcd φ)],lk [],lk [],lk []⟩
theorem y5r (φ:Nat) (a) :(zn0 φ).F a=fnX TV (zmg Tryz.prog φ) φ Tryz.f10 [] [.val 1] (zha φ) a:=by kernel_rfl
theorem y3r (φ:Nat):fnO TV (zmg Tryz.prog φ) φ Tryz.f10 [.val 1] (zha φ):=by
 unfold fnO
 show obl _ _ _ _ _ _ _
 unfold zha
 repeat' (first | exact trivial |(refine⟨?_,?_⟩) |(intro _) | kernel_rfl)
theorem y3n (φ:Nat):zr TV Tryz.prog 10 (zn0 φ):=
 zx (N:=zmg Tryz.prog φ) (zd ⟨zt2 φ,zu6 φ,zr2 φ,zw9 φ,zo6 φ,zv9 φ,zqq φ,zxq φ,ztf φ,zts φ,y6s φ,zod φ,trivial⟩ trivial trivial trivial) (zha φ) Tryz.func10 (by kernel_rfl) (y5r φ) (y3r φ)
def zk0 (φ:Nat):H TV (RTup TT [.val 1]):=(.seq .x (.seq .x (.seq (.seq .x (.body (.loop ⟨[(21,[(0,.val 10),(3,.val 0)])],[]⟩ (fun n z=>za3 φ n z.1 z.2.1) (fun zk4=>.x)))) .x)))
def zpb (P:Program) (φ:Nat):Env TV:=⟨P,lk [],lk [],lk [],lk []⟩
theorem y9o (φ:Nat) (a) :(zp6 φ).F a=fnX TV (zpb Tryz.prog φ) φ Tryz.f11 [10] [.val 1] (zk0 φ) a:=by kernel_rfl
theorem y8t (φ:Nat):fnO TV (zpb Tryz.prog φ) φ Tryz.f11 [.val 1] (zk0 φ):=by
 unfold fnO
 show obl _ _ _ _ _ _ _
 unfold zk0
 repeat' (first | exact trivial |(refine⟨?_,?_⟩) |(intro _) | kernel_rfl)
theorem y7q [Dr] (φ:Nat):zr TV Tryz.prog 11 (zp6 φ):=
 zx (N:=zpb Tryz.prog φ) (zd trivial trivial trivial trivial) (zk0 φ) Tryz.func11 (by kernel_rfl) (y9o φ) (y8t φ)
def zcl (φ:Nat):H TV (RTup TT [.val 1]):=.x
def zhx (P:Program) (φ:Nat):Env TV:=⟨P,lk [],lk [],lk [],lk []⟩
theorem zxp (φ:Nat) (a) :(zhn φ).F a=fnX TV (zhx Tryz.prog φ) φ Tryz.f57 [3,3] [.val 1] (zcl φ) a:=by kernel_rfl
theorem zwz (φ:Nat):fnO TV (zhx Tryz.prog φ) φ Tryz.f57 [.val 1] (zcl φ):=by
 unfold fnO
 show obl _ _ _ _ _ _ _
 unfold zcl
 repeat' (first | exact trivial |(refine⟨?_,?_⟩) |(intro _) | kernel_rfl)
theorem zxt [Dr] (φ:Nat):zr TV Tryz.prog 57 (zhn φ):=
 zx (N:=zhx Tryz.prog φ) (zd trivial trivial trivial trivial) (zcl φ) Tryz.func57 (by kernel_rfl) (zxp φ) (zwz φ)
end Px
end
section
set_option maxHeartbeats 4000000
set_option maxRecDepth 100000
namespace Px
open Go Go.RowKit Go.Proofs
def z8h (φ:Nat):H TV (RTup TT [.val 1]):=(.seq .x (.seq .x (.seq (.seq .x (.body (.loop ⟨[(65,[(1,.ptr 0 0),(3,.val 0)])],[.box 51 [.val 39]]⟩ (fun n z=>z1v φ n z.1 z.2.1) (fun zk4=>.x)))) .x)))
def zby (P:Program) (φ:Nat):Env TV:=⟨P,lk [],lk [],lk [],lk []⟩
theorem zrt (φ:Nat) (a) :(zbl φ).F a=fnX TV (zby Tryz.prog φ) φ Tryz.f21 [39] [.val 1] (z8h φ) a:=by kernel_rfl
theorem zs1 (φ:Nat):fnO TV (zby Tryz.prog φ) φ Tryz.f21 [.val 1] (z8h φ):=by
 unfold fnO
 show obl _ _ _ _ _ _ _
 unfold z8h
 repeat' (first | exact trivial |(refine⟨?_,?_⟩) |(intro _) | kernel_rfl)
theorem zrl [Dr] (φ:Nat):zr TV Tryz.prog 21 (zbl φ):=
 zx (N:=zby Tryz.prog φ) (zd trivial trivial trivial trivial) (z8h φ) Tryz.func21 (by kernel_rfl) (zrt φ) (zs1 φ)
def zaw (φ:Nat):H TV (RTup TT [.val 1]):=.x
def zgh (P:Program) (φ:Nat):Env TV:=⟨P,lk [],lk [],lk [],lk []⟩
theorem zw4 (φ:Nat) (a) :(zax φ).F a=fnX TV (zgh Tryz.prog φ) φ Tryz.f156 [0,0,0] [.val 1] (zaw φ) a:=by kernel_rfl
theorem zvw (φ:Nat):fnO TV (zgh Tryz.prog φ) φ Tryz.f156 [.val 1] (zaw φ):=by
 unfold fnO
 show obl _ _ _ _ _ _ _
 unfold zaw
 repeat' (first | exact trivial |(refine⟨?_,?_⟩) |(intro _) | kernel_rfl)
theorem znh [Dr] (φ:Nat):zr TV Tryz.prog 156 (zax φ):=
 zx (N:=zgh Tryz.prog φ) (zd trivial trivial trivial trivial) (zaw φ) Tryz.func156 (by kernel_rfl) (zw4 φ) (zvw φ)
def zee (φ:Nat):H TV (RTup TT [.val 1]):=.x
def zjo (P:Program) (φ:Nat):Env TV:=⟨P,lk [(156,zax φ)],lk [],lk [],lk []⟩
theorem zzq (φ:Nat) (a) :(zjb φ).F a=fnX TV (zjo Tryz.prog φ) φ Tryz.f116 [15] [.val 1] (zee φ) a:=by kernel_rfl
theorem y05 (φ:Nat):fnO TV (zjo Tryz.prog φ) φ Tryz.f116 [.val 1] (zee φ):=by
 unfold fnO
 show obl _ _ _ _ _ _ _
 unfold zee
 repeat' (first | exact trivial |(refine⟨?_,?_⟩) |(intro _) | kernel_rfl)
theorem y0v [Dr] (φ:Nat):zr TV Tryz.prog 116 (zjb φ):=
 zx (N:=zjo Tryz.prog φ) (zd ⟨znh φ,trivial⟩ trivial trivial trivial) (zee φ) Tryz.func116 (by kernel_rfl) (zzq φ) (y05 φ)
def zh4 (φ:Nat):H TV (RTup TT [.val 1]):=.x
def zmp (P:Program) (φ:Nat):Env TV:=⟨P,lk [(156,zax φ)],lk [],lk [],lk []⟩
theorem y7c (φ:Nat) (a) :(zm9 φ).F a=fnX TV (zmp Tryz.prog φ) φ Tryz.f117 [17,0] [.val 1] (zh4 φ) a:=by kernel_rfl
theorem y4p (φ:Nat):fnO TV (zmp Tryz.prog φ) φ Tryz.f117 [.val 1] (zh4 φ):=by
 unfold fnO
 show obl _ _ _ _ _ _ _
 unfold zh4
 repeat' (first | exact trivial |(refine⟨?_,?_⟩) |(intro _) | kernel_rfl)
theorem y3g [Dr] (φ:Nat):zr TV Tryz.prog 117 (zm9 φ):=
 zx (N:=zmp Tryz.prog φ) (zd ⟨znh φ,trivial⟩ trivial trivial trivial) (zh4 φ) Tryz.func117 (by kernel_rfl) (y7c φ) (y4p φ)
def zey (φ:Nat):H TV (RTup TT [.val 0]):=(.seq .x (.seq .x (.seq (.seq .x (.body (.loop ⟨[(46,[(1,.ptr 0 0),(3,.val 0)])],[.box 40 [.val 19]]⟩ (fun n z=>z7i φ n z.1 z.2.1) (fun zk4=>.x)))) (.seq (.seq .x (.body (.loop ⟨[(46,[(1,.ptr 0 0),(4,.val 0)])],[.box 40 [.val 19]]⟩ (fun n z=>z68 φ n z.1 z.2.1) (fun zk8=>.x)))) .x))))
def zj2 (P:Program) (φ:Nat):Env TV:=⟨P,lk [(116,zjb φ),(117,zm9 φ)],lk [],lk [],lk []⟩
theorem y0w (φ:Nat) (a) :(zkb φ).F a=fnX TV (zj2 Tryz.prog φ) φ Tryz.f80 [19] [.val 0] (zey φ) a:=by kernel_rfl
theorem zze (φ:Nat):fnO TV (zj2 Tryz.prog φ) φ Tryz.f80 [.val 0] (zey φ):=by
 unfold fnO
 show obl _ _ _ _ _ _ _
 unfold zey
 repeat' (first | exact trivial |(refine⟨?_,?_⟩) |(intro _) | kernel_rfl)
theorem zzd [Dr] (φ:Nat):zr TV Tryz.prog 80 (zkb φ):=
 zx (N:=zj2 Tryz.prog φ) (zd ⟨y0v φ,y3g φ,trivial⟩ trivial trivial trivial) (zey φ) Tryz.func80 (by kernel_rfl) (y0w φ) (zze φ)
def zc4 (φ:Nat):H TV (RTup TT [.val 1]):=.x
def zi9 (P:Program) (φ:Nat):Env TV:=⟨P,lk [],lk [],lk [],lk []⟩
theorem zxl (φ:Nat) (a) :(z64 φ).F a=fnX TV (zi9 Tryz.prog φ) φ Tryz.f120 [0,0,0] [.val 1] (zc4 φ) a:=by kernel_rfl
theorem zxe (φ:Nat):fnO TV (zi9 Tryz.prog φ) φ Tryz.f120 [.val 1] (zc4 φ):=by
 unfold fnO
 show obl _ _ _ _ _ _ _
 unfold zc4
 repeat' (first | exact trivial |(refine⟨?_,?_⟩) |(intro _) | kernel_rfl)
theorem z93 [Dr] (φ:Nat):zr TV Tryz.prog 120 (z64 φ):=
 zx (N:=zi9 Tryz.prog φ) (zd trivial trivial trivial trivial) (zc4 φ) Tryz.func120 (by kernel_rfl) (zxl φ) (zxe φ)
def z8f (φ:Nat):H TV (RTup TT [.val 1]):=.x
def zbq (P:Program) (φ:Nat):Env TV:=⟨P,lk [(120,z64 φ)],lk [],lk [],lk []⟩
theorem zqw (φ:Nat) (a) :(zbn φ).F a=fnX TV (zbq Tryz.prog φ) φ Tryz.f118 [21] [.val 1] (z8f φ) a:=by kernel_rfl
theorem zsa (φ:Nat):fnO TV (zbq Tryz.prog φ) φ Tryz.f118 [.val 1] (z8f φ):=by
 unfold fnO
 show obl _ _ _ _ _ _ _
 unfold z8f
 repeat' (first | exact trivial |(refine⟨?_,?_⟩) |(intro _) | kernel_rfl)
theorem zqp [Dr] (φ:Nat):zr TV Tryz.prog 118 (zbn φ):=
 zx (N:=zbq Tryz.prog φ) (zd ⟨z93 φ,trivial⟩ trivial trivial trivial) (z8f φ) Tryz.func118 (by kernel_rfl) (zqw φ) (zsa φ)
def z83 (φ:Nat):H TV (RTup TT [.val 1]):=.x
def zas (P:Program) (φ:Nat):Env TV:=⟨P,lk [(120,z64 φ)],lk [],lk [],lk []⟩
theorem zpq (φ:Nat) (a) :(zaa φ).F a=fnX TV (zas Tryz.prog φ) φ Tryz.f119 [23,0] [.val 1] (z83 φ) a:=by kernel_rfl
theorem zq2 (φ:Nat):fnO TV (zas Tryz.prog φ) φ Tryz.f119 [.val 1] (z83 φ):=by
 unfold fnO
 show obl _ _ _ _ _ _ _
 unfold z83
 repeat' (first | exact trivial |(refine⟨?_,?_⟩) |(intro _) | kernel_rfl)
theorem zps [Dr] (φ:Nat):zr TV Tryz.prog 119 (zaa φ):=
 zx (N:=zas Tryz.prog φ) (zd ⟨z93 φ,trivial⟩ trivial trivial trivial) (z83 φ) Tryz.func119 (by kernel_rfl) (zpq φ) (zq2 φ)
def zce (φ:Nat):H TV (RTup TT [.val 0]):=(.seq .x (.seq .x (.seq (.seq .x (.body (.loop ⟨[(57,[(0,.val 28),(3,.own 0),(4,.val 0)])],[.fix 4 1]⟩ (fun n z=>z6x φ n z.1 z.2.1 z.2.2.1) (fun zk5=>.x)))) .x)))
def zhu (P:Program) (φ:Nat):Env TV:=⟨P,lk [(120,z64 φ)],lk [],lk [],lk []⟩
theorem zxn (φ:Nat) (a) :(zhs φ).F a=fnX TV (zhu Tryz.prog φ) φ Tryz.f121 [28] [.val 0] (zce φ) a:=by kernel_rfl
theorem zxa (φ:Nat):fnO TV (zhu Tryz.prog φ) φ Tryz.f121 [.val 0] (zce φ):=by
 unfold fnO
 show obl _ _ _ _ _ _ _
 unfold zce
 repeat' (first | exact trivial |(refine⟨?_,?_⟩) |(intro _) | kernel_rfl)
theorem zxu [Dr] (φ:Nat):zr TV Tryz.prog 121 (zhs φ):=
 zx (N:=zhu Tryz.prog φ) (zd ⟨z93 φ,trivial⟩ trivial trivial trivial) (zce φ) Tryz.func121 (by kernel_rfl) (zxn φ) (zxa φ)
def zf3 (φ:Nat):H TV (RTup TT [.val 0]):=(.seq .x (.seq .x (.seq (.seq .x (.body (.loop ⟨[(106,[(1,.ptr 0 0),(3,.val 0)])],[.box 46 [.val 29]]⟩ (fun n z=>z7e φ n z.1 z.2.1) (fun zk4=>.x)))) (.seq (.seq .x (.body (.loop ⟨[(106,[(1,.ptr 0 0),(4,.val 0)])],[.box 46 [.val 29]]⟩ (fun n z=>z5x φ n z.1 z.2.1) (fun zk8=>.x)))) (.seq (.seq .x (.body (.loop ⟨[(106,[(1,.ptr 0 0),(5,.val 0)])],[.box 46 [.val 29]]⟩ (fun n z=>z4q φ n z.1 z.2.1) (fun zk12=>.x)))) .x)))))
def zjk (P:Program) (φ:Nat):Env TV:=⟨P,lk [(118,zbn φ),(119,zaa φ),(120,z64 φ),(121,zhs φ)],lk [],lk [],lk []⟩
theorem y1w (φ:Nat) (a) :(zkt φ).F a=fnX TV (zjk Tryz.prog φ) φ Tryz.f81 [29] [.val 0] (zf3 φ) a:=by kernel_rfl
theorem y0u (φ:Nat):fnO TV (zjk Tryz.prog φ) φ Tryz.f81 [.val 0] (zf3 φ):=by
 unfold fnO
 show obl _ _ _ _ _ _ _
 unfold zf3
 repeat' (first | exact trivial |(refine⟨?_,?_⟩) |(intro _) | kernel_rfl)
theorem zzr [Dr] (φ:Nat):zr TV Tryz.prog 81 (zkt φ):=
 zx (N:=zjk Tryz.prog φ) (zd ⟨zqp φ,zps φ,z93 φ,zxu φ,trivial⟩ trivial trivial trivial) (zf3 φ) Tryz.func81 (by kernel_rfl) (y1w φ) (y0u φ)
def zhj (φ:Nat):H TV (RTup TT [.val 1]):=(.seq .x (.seq .x (.seq (.seq .x (.body (.loop ⟨[(96,[(1,.ptr 0 0),(3,.val 0),(4,.val 0)])],[.box 51 [.val 39]]⟩ (fun n z=>z8d φ n z.1 z.2.1 z.2.2.1) (fun zk5=>.x)))) (.seq (.seq .x (.body (.loop ⟨[(96,[(1,.ptr 0 0),(3,.val 0),(6,.val 0)])],[.box 51 [.val 39]]⟩ (fun n z=>z6f φ n z.1 z.2.1 z.2.2.1) (fun zk10=>.x)))) (.seq (.seq .x (.body (.loop ⟨[(96,[(1,.ptr 0 0),(3,.val 0),(7,.val 0)])],[.box 51 [.val 39]]⟩ (fun n z=>z6a φ n z.1 z.2.1 z.2.2.1) (fun zk15=>.x)))) .x)))))
def zm8 (P:Program) (φ:Nat):Env TV:=⟨P,lk [(120,z64 φ)],lk [],lk [],lk []⟩
theorem y4n (φ:Nat) (a) :(zmn φ).F a=fnX TV (zm8 Tryz.prog φ) φ Tryz.f82 [39] [.val 1] (zhj φ) a:=by kernel_rfl
theorem y4u (φ:Nat):fnO TV (zm8 Tryz.prog φ) φ Tryz.f82 [.val 1] (zhj φ):=by
 unfold fnO
 show obl _ _ _ _ _ _ _
 unfold zhj
 repeat' (first | exact trivial |(refine⟨?_,?_⟩) |(intro _) | kernel_rfl)
theorem y5b [Dr] (φ:Nat):zr TV Tryz.prog 82 (zmn φ):=
 zx (N:=zm8 Tryz.prog φ) (zd ⟨z93 φ,trivial⟩ trivial trivial trivial) (zhj φ) Tryz.func82 (by kernel_rfl) (y4n φ) (y4u φ)
def zen (φ:Nat):H TV (RTup TT [.val 1]):=(.seq .x (.seq .x (.seq (.seq .x (.body (.loop ⟨[(51,[(1,.ptr 0 0),(3,.val 0),(4,.val 0)])],[.box 51 [.val 39]]⟩ (fun n z=>z7l φ n z.1 z.2.1 z.2.2.1) (fun zk5=>.x)))) (.seq (.seq .x (.body (.loop ⟨[(51,[(1,.ptr 0 0),(3,.val 0),(6,.val 0)])],[.box 51 [.val 39]]⟩ (fun n z=>z65 φ n z.1 z.2.1 z.2.2.1) (fun zk9=>.x)))) .x))))
def zkh (P:Program) (φ:Nat):Env TV:=⟨P,lk [],lk [],lk [],lk []⟩
theorem y1d (φ:Nat) (a) :(zlh φ).F a=fnX TV (zkh Tryz.prog φ) φ Tryz.f83 [39] [.val 1] (zen φ) a:=by kernel_rfl
theorem zzx (φ:Nat):fnO TV (zkh Tryz.prog φ) φ Tryz.f83 [.val 1] (zen φ):=by
 unfold fnO
 show obl _ _ _ _ _ _ _
 unfold zen
 repeat' (first | exact trivial |(refine⟨?_,?_⟩) |(intro _) | kernel_rfl)
theorem y1h [Dr] (φ:Nat):zr TV Tryz.prog 83 (zlh φ):=
 zx (N:=zkh Tryz.prog φ) (zd trivial trivial trivial trivial) (zen φ) Tryz.func83 (by kernel_rfl) (y1d φ) (zzx φ)
def zf4 (φ:Nat):H TV (RTup TT [.val 0]):=(.seq .x (.seq (.seq .x (.body (.loop ⟨[(62,[(1,.ptr 0 0),(3,.val 0)])],[.box 109 [.val 36]]⟩ (fun n z=>z7h φ n z.1 z.2.1) (fun zk4=>.x)))) (.seq (.seq .x (.body (.loop ⟨[(62,[(1,.ptr 0 0),(5,.val 0)])],[.box 109 [.val 36]]⟩ (fun n z=>z7m φ n z.1 z.2.1) (fun zk7=>.x)))) .x)))
def zkk (P:Program) (φ:Nat):Env TV:=⟨P,lk [],lk [],lk [],lk []⟩
theorem y1g (φ:Nat) (a) :(zja φ).F a=fnX TV (zkk Tryz.prog φ) φ Tryz.f84 [36] [.val 0] (zf4 φ) a:=by kernel_rfl
theorem y03 (φ:Nat):fnO TV (zkk Tryz.prog φ) φ Tryz.f84 [.val 0] (zf4 φ):=by
 unfold fnO
 show obl _ _ _ _ _ _ _
 unfold zf4
 repeat' (first | exact trivial |(refine⟨?_,?_⟩) |(intro _) | kernel_rfl)
theorem y1i [Dr] (φ:Nat):zr TV Tryz.prog 84 (zja φ):=
 zx (N:=zkk Tryz.prog φ) (zd trivial trivial trivial trivial) (zf4 φ) Tryz.func84 (by kernel_rfl) (y1g φ) (y03 φ)
def zea (φ:Nat):H TV (RTup TT [.val 20]):=(.seq .x (.seq .x (.seq (.body (.loop ⟨[(26,[(0,.val 20),(1,.val 20),(2,.val 20),(7,.val 20)])],[]⟩ (fun n z=>z4e φ n z.1 z.2.1 z.2.2.1 z.2.2.2.1) (fun zk8=>(.seq .x (.seq (.body (.seq (.join ⟨[(26,[(0,.val 20),(1,.val 20),(2,.val 20),(7,.val 20)])],[]⟩ (fun z=>zav φ (fun a0 a1 a2 a3=>zk8 (a0,a1,a2,a3,())) z.1 z.2.1 z.2.2.1 z.2.2.2.1) (.seq .x .x)) .x)) .x))))) .x)))
def zka (P:Program) (φ:Nat):Env TV:=⟨P,lk [],lk [],lk [],lk []⟩
theorem zzp (φ:Nat) (a) :(zjx φ).F a=fnX TV (zka Tryz.prog φ) φ Tryz.f157 [20,20,20] [.val 20] (zea φ) a:=by kernel_rfl
theorem y1v (φ:Nat):fnO TV (zka Tryz.prog φ) φ Tryz.f157 [.val 20] (zea φ):=by
 unfold fnO
 show obl _ _ _ _ _ _ _
 unfold zea
 repeat' (first | exact trivial |(refine⟨?_,?_⟩) |(intro _) | kernel_rfl)
theorem y1q [Dr] (φ:Nat):zr TV Tryz.prog 157 (zjx φ):=
 zx (N:=zka Tryz.prog φ) (zd trivial trivial trivial trivial) (zea φ) Tryz.func157 (by kernel_rfl) (zzp φ) (y1v φ)
def zjw (φ:Nat):H TV (RTup TT [.val 20]):=(.seq .x (.seq .x (.seq (.seq .x (.body (.loop ⟨[(22,[(0,.val 20),(1,.val 20),(5,.val 20)])],[]⟩ (fun n z=>z6y φ n z.1 z.2.1 z.2.2.1) (fun zk6=>(.seq .x (.seq (.body (.seq (.join ⟨[(22,[(0,.val 20),(1,.val 20),(5,.val 20)])],[]⟩ (fun z=>zer φ (fun a0 a1 a2=>zk6 (a0,a1,a2,())) z.1 z.2.1 z.2.2.1) (.seq .x .x)) .x)) .x)))))) .x)))
def zpa (P:Program) (φ:Nat):Env TV:=⟨P,lk [(157,zjx φ)],lk [],lk [],lk []⟩
theorem y9e (φ:Nat) (a) :(zp2 φ).F a=fnX TV (zpa Tryz.prog φ) φ Tryz.f122 [20,20] [.val 20] (zjw φ) a:=by kernel_rfl
theorem y7l (φ:Nat):fnO TV (zpa Tryz.prog φ) φ Tryz.f122 [.val 20] (zjw φ):=by
 unfold fnO
 show obl _ _ _ _ _ _ _
 unfold zjw
 repeat' (first | exact trivial |(refine⟨?_,?_⟩) |(intro _) | kernel_rfl)
theorem y9f [Dr] (φ:Nat):zr TV Tryz.prog 122 (zp2 φ):=
 zx (N:=zpa Tryz.prog φ) (zd ⟨y1q φ,trivial⟩ trivial trivial trivial) (zjw φ) Tryz.func122 (by kernel_rfl) (y9e φ) (y7l φ)
def zf0 (φ:Nat):H TV (RTup TT [.val 1]):=.x
def zl5 (P:Program) (φ:Nat):Env TV:=⟨P,lk [(122,zp2 φ)],lk [],lk [],lk []⟩
theorem y1s (φ:Nat) (a) :(zjl φ).F a=fnX TV (zl5 Tryz.prog φ) φ Tryz.f85 [20] [.val 1] (zf0 φ) a:=by kernel_rfl
theorem y1k (φ:Nat):fnO TV (zl5 Tryz.prog φ) φ Tryz.f85 [.val 1] (zf0 φ):=by
 unfold fnO
 show obl _ _ _ _ _ _ _
 unfold zf0
 repeat' (first | exact trivial |(refine⟨?_,?_⟩) |(intro _) | kernel_rfl)
theorem y1u [Dr] (φ:Nat):zr TV Tryz.prog 85 (zjl φ):=
 zx (N:=zl5 Tryz.prog φ) (zd ⟨y9f φ,trivial⟩ trivial trivial trivial) (zf0 φ) Tryz.func85 (by kernel_rfl) (y1s φ) (y1k φ)
def z8n (φ:Nat):H TV (RTup TT [.val 0]):=(.seq .x (.seq .x (.seq .x (.seq .x (.seq .x (.seq .x (.seq .x (.seq (.seq .x (.body (.loop ⟨[(70,[(1,.ptr 0 0),(4,.val 0)])],[.box 51 [.val 39]]⟩ (fun n z=>z1q φ n z.1 z.2.1) (fun zk8=>.x)))) .x))))))))
def zbm (P:Program) (φ:Nat):Env TV:=⟨P,lk [(80,zkb φ),(81,zkt φ),(82,zmn φ),(83,zlh φ),(84,zja φ),(85,zjl φ)],lk [],lk [],lk []⟩
theorem zrb (φ:Nat) (a) :(z6p φ).F a=fnX TV (zbm Tryz.prog φ) φ Tryz.f54 [39] [.val 0] (z8n φ) a:=by kernel_rfl
theorem zr6 (φ:Nat):fnO TV (zbm Tryz.prog φ) φ Tryz.f54 [.val 0] (z8n φ):=by
 unfold fnO
 show obl _ _ _ _ _ _ _
 unfold z8n
 repeat' (first | exact trivial |(refine⟨?_,?_⟩) |(intro _) | kernel_rfl)
theorem zbt [Dr] (φ:Nat):zr TV Tryz.prog 54 (z6p φ):=
 zx (N:=zbm Tryz.prog φ) (zd ⟨zzd φ,zzr φ,y5b φ,y1h φ,y1i φ,y1u φ,trivial⟩ trivial trivial trivial) (z8n φ) Tryz.func54 (by kernel_rfl) (zrb φ) (zr6 φ)
def zh3 (φ:Nat):H TV (RTup TT [.val 4]):=(.seq .x (.seq (.seq .x (.body (.seq .x (.cond .x (.seq .x (.cond .x (.seq (.join ⟨[(30,[(3,.val 0),(8,.val 1)])],[]⟩ (fun z=>zel φ z.1 z.2.1) (.seq .x .x)) (.cond .x (.seq .x (.cond .x (.seq .x (.cond .x (.seq .x (.cond .x (.seq .x (.cond .x (.seq .x (.cond .x (.seq .x (.cond .x (.seq (.join ⟨[(30,[(3,.val 0),(23,.val 1)])],[]⟩ (fun z=>zep φ z.1 z.2.1) (.seq .x .x)) .x))))))))))))))))))))) .x))
def znb (P:Program) (φ:Nat):Env TV:=⟨P,lk [],lk [],lk [],lk []⟩
theorem y4w (φ:Nat) (a) :(zmi φ).F a=fnX TV (znb Tryz.prog φ) φ Tryz.f86 [0] [.val 4] (zh3 φ) a:=by kernel_rfl
theorem y3s (φ:Nat):fnO TV (znb Tryz.prog φ) φ Tryz.f86 [.val 4] (zh3 φ):=by
 unfold fnO
 show obl _ _ _ _ _ _ _
 unfold zh3
 repeat' (first | exact trivial |(refine⟨?_,?_⟩) |(intro _) | kernel_rfl)
theorem y3o [Dr] (φ:Nat):zr TV Tryz.prog 86 (zmi φ):=
 zx (N:=znb Tryz.prog φ) (zd trivial trivial trivial trivial) (zh3 φ) Tryz.func86 (by kernel_rfl) (y4w φ) (y3s φ)
def zah (φ:Nat):H TV (RTup TT [.val 1]):=.x
def zg5 (P:Program) (φ:Nat):Env TV:=⟨P,lk [],lk [],lk [],lk []⟩
theorem zuq (φ:Nat) (a) :(z0t φ).F a=fnX TV (zg5 Tryz.prog φ) φ Tryz.f87 [0,0,0] [.val 1] (zah φ) a:=by kernel_rfl
theorem zwo (φ:Nat):fnO TV (zg5 Tryz.prog φ) φ Tryz.f87 [.val 1] (zah φ):=by
 unfold fnO
 show obl _ _ _ _ _ _ _
 unfold zah
 repeat' (first | exact trivial |(refine⟨?_,?_⟩) |(intro _) | kernel_rfl)
theorem z37 [Dr] (φ:Nat):zr TV Tryz.prog 87 (z0t φ):=
 zx (N:=zg5 Tryz.prog φ) (zd trivial trivial trivial trivial) (zah φ) Tryz.func87 (by kernel_rfl) (zuq φ) (zwo φ)
def z8o (φ:Nat):H TV (RTup TT [.val 1]):=.x
def zbg (P:Program) (φ:Nat):Env TV:=⟨P,lk [(87,z0t φ)],lk [],lk [],lk []⟩
theorem zrk (φ:Nat) (a) :(zbu φ).F a=fnX TV (zbg Tryz.prog φ) φ Tryz.f88 [6] [.val 1] (z8o φ) a:=by kernel_rfl
theorem zs9 (φ:Nat):fnO TV (zbg Tryz.prog φ) φ Tryz.f88 [.val 1] (z8o φ):=by
 unfold fnO
 show obl _ _ _ _ _ _ _
 unfold z8o
 repeat' (first | exact trivial |(refine⟨?_,?_⟩) |(intro _) | kernel_rfl)
theorem zrg [Dr] (φ:Nat):zr TV Tryz.prog 88 (zbu φ):=
 zx (N:=zbg Tryz.prog φ) (zd ⟨z37 φ,trivial⟩ trivial trivial trivial) (z8o φ) Tryz.func88 (by kernel_rfl) (zrk φ) (zs9 φ)
def znj (φ:Nat):H TV (RTup TT [.val 1]):=(.seq .x (.seq (.seq .x (.body (.loop ⟨[(17,[(0,.val 4),(1,.val 49),(5,.val 0)])],[]⟩ (fun n z=>zg7 φ n z.1 z.2.1 z.2.2.1) (fun zk6=>.x)))) .x))
def zrs (P:Program) (φ:Nat):Env TV:=⟨P,lk [],lk [],lk [],lk []⟩
theorem ycb (φ:Nat) (a) :(zsi φ).F a=fnX TV (zrs Tryz.prog φ) φ Tryz.f89 [4,49] [.val 1] (znj φ) a:=by kernel_rfl
theorem yc2 (φ:Nat):fnO TV (zrs Tryz.prog φ) φ Tryz.f89 [.val 1] (znj φ):=by
 unfold fnO
 show obl _ _ _ _ _ _ _
 unfold znj
 repeat' (first | exact trivial |(refine⟨?_,?_⟩) |(intro _) | kernel_rfl)
theorem ybw [Dr] (φ:Nat):zr TV Tryz.prog 89 (zsi φ):=
 zx (N:=zrs Tryz.prog φ) (zd trivial trivial trivial trivial) (znj φ) Tryz.func89 (by kernel_rfl) (ycb φ) (yc2 φ)
def zed (φ:Nat):H TV (RTup TT [.val 1]):=(.seq .x (.seq .x (.seq .x (.seq (.seq .x (.body (.seq (.join ⟨[(34,[(5,.val 0),(24,.val 0),(25,.val 1)])],[]⟩ (fun z=>zcb φ z.1 z.2.1 z.2.2.1) (.seq .x .x)) .x))) .x))))
def zkc (P:Program) (φ:Nat):Env TV:=⟨P,lk [(87,z0t φ)],lk [],lk [],lk []⟩
theorem y01 (φ:Nat) (a) :(zke φ).F a=fnX TV (zkc Tryz.prog φ) φ Tryz.f123 [39,6] [.val 1] (zed φ) a:=by kernel_rfl
theorem zzy (φ:Nat):fnO TV (zkc Tryz.prog φ) φ Tryz.f123 [.val 1] (zed φ):=by
 unfold fnO
 show obl _ _ _ _ _ _ _
 unfold zed
 repeat' (first | exact trivial |(refine⟨?_,?_⟩) |(intro _) | kernel_rfl)
theorem y2b [Dr] (φ:Nat):zr TV Tryz.prog 123 (zke φ):=
 zx (N:=zkc Tryz.prog φ) (zd ⟨z37 φ,trivial⟩ trivial trivial trivial) (zed φ) Tryz.func123 (by kernel_rfl) (y01 φ) (zzy φ)
def zeu (φ:Nat):H TV (RTup TT [.val 1]):=(.seq .x (.seq (.seq .x (.body (.seq .x (.cond .x (.seq (.join ⟨[(51,[(2,.ptr 0 0),(3,.ptr 1 0),(7,.val 0),(17,.val 1)])],[.box 51 [.val 39],.box 55 [.val 6]]⟩ (fun z=>zc5 φ z.1 z.2.1 z.2.2.1 z.2.2.2.1) (.seq .x .x)) .x))))) .x))
def zj4 (P:Program) (φ:Nat):Env TV:=⟨P,lk [(87,z0t φ)],lk [],lk [],lk []⟩
theorem zz1 (φ:Nat) (a) :(zkq φ).F a=fnX TV (zj4 Tryz.prog φ) φ Tryz.f124 [39,6] [.val 1] (zeu φ) a:=by kernel_rfl
theorem y0m (φ:Nat):fnO TV (zj4 Tryz.prog φ) φ Tryz.f124 [.val 1] (zeu φ):=by
 unfold fnO
 show obl _ _ _ _ _ _ _
 unfold zeu
 repeat' (first | exact trivial |(refine⟨?_,?_⟩) |(intro _) | kernel_rfl)
theorem y1z [Dr] (φ:Nat):zr TV Tryz.prog 124 (zkq φ):=
 zx (N:=zj4 Tryz.prog φ) (zd ⟨z37 φ,trivial⟩ trivial trivial trivial) (zeu φ) Tryz.func124 (by kernel_rfl) (zz1 φ) (y0m φ)
def zck (φ:Nat):H TV (RTup TT [.val 1]):=.x
def zig (P:Program) (φ:Nat):Env TV:=⟨P,lk [(87,z0t φ)],lk [],lk [],lk []⟩
theorem zxm (φ:Nat) (a) :(zhq φ).F a=fnX TV (zig Tryz.prog φ) φ Tryz.f125 [39,6] [.val 1] (zck φ) a:=by kernel_rfl
theorem zx2 (φ:Nat):fnO TV (zig Tryz.prog φ) φ Tryz.f125 [.val 1] (zck φ):=by
 unfold fnO
 show obl _ _ _ _ _ _ _
 unfold zck
 repeat' (first | exact trivial |(refine⟨?_,?_⟩) |(intro _) | kernel_rfl)
theorem zxh [Dr] (φ:Nat):zr TV Tryz.prog 125 (zhq φ):=
 zx (N:=zig Tryz.prog φ) (zd ⟨z37 φ,trivial⟩ trivial trivial trivial) (zck φ) Tryz.func125 (by kernel_rfl) (zxm φ) (zx2 φ)
def zhe (φ:Nat):H TV (RTup TT [.val 1]):=(.seq .x (.seq (.seq .x (.body (.seq (.join ⟨[(24,[(1,.ptr 0 0),(4,.val 0),(5,.val 1)])],[.box 55 [.val 6]]⟩ (fun z=>zf7 φ z.1 z.2.1 z.2.2.1) (.seq .x .x)) .x))) .x))
def zmv (P:Program) (φ:Nat):Env TV:=⟨P,lk [(87,z0t φ)],lk [],lk [],lk []⟩
theorem y6c (φ:Nat) (a) :(zms φ).F a=fnX TV (zmv Tryz.prog φ) φ Tryz.f126 [6] [.val 1] (zhe φ) a:=by kernel_rfl
theorem y3l (φ:Nat):fnO TV (zmv Tryz.prog φ) φ Tryz.f126 [.val 1] (zhe φ):=by
 unfold fnO
 show obl _ _ _ _ _ _ _
 unfold zhe
 repeat' (first | exact trivial |(refine⟨?_,?_⟩) |(intro _) | kernel_rfl)
theorem y6a [Dr] (φ:Nat):zr TV Tryz.prog 126 (zms φ):=
 zx (N:=zmv Tryz.prog φ) (zd ⟨z37 φ,trivial⟩ trivial trivial trivial) (zhe φ) Tryz.func126 (by kernel_rfl) (y6c φ) (y3l φ)
def zem (φ:Nat):H TV (RTup TT [.val 1]):=.x
def zjc (P:Program) (φ:Nat):Env TV:=⟨P,lk [(87,z0t φ),(123,zke φ),(124,zkq φ),(125,zhq φ),(126,zms φ)],lk [],lk [],lk []⟩
theorem y2d (φ:Nat) (a) :(zj6 φ).F a=fnX TV (zjc Tryz.prog φ) φ Tryz.f90 [39,6,49] [.val 1] (zem φ) a:=by kernel_rfl
theorem y2t (φ:Nat):fnO TV (zjc Tryz.prog φ) φ Tryz.f90 [.val 1] (zem φ):=by
 unfold fnO
 show obl _ _ _ _ _ _ _
 unfold zem
 repeat' (first | exact trivial |(refine⟨?_,?_⟩) |(intro _) | kernel_rfl)
theorem y0o [Dr] (φ:Nat):zr TV Tryz.prog 90 (zj6 φ):=
 zx (N:=zjc Tryz.prog φ) (zd ⟨z37 φ,y2b φ,y1z φ,zxh φ,y6a φ,trivial⟩ trivial trivial trivial) (zem φ) Tryz.func90 (by kernel_rfl) (y2d φ) (y2t φ)
def zew (φ:Nat):H TV (RTup TT [.val 0]):=.x
def zl7 (P:Program) (φ:Nat):Env TV:=⟨P,lk [],lk [],lk [],lk []⟩
theorem y2n (φ:Nat) (a) :(zk3 φ).F a=fnX TV (zl7 Tryz.prog φ) φ Tryz.f91 [6,49] [.val 0] (zew φ) a:=by kernel_rfl
theorem zzn (φ:Nat):fnO TV (zl7 Tryz.prog φ) φ Tryz.f91 [.val 0] (zew φ):=by
 unfold fnO
 show obl _ _ _ _ _ _ _
 unfold zew
 repeat' (first | exact trivial |(refine⟨?_,?_⟩) |(intro _) | kernel_rfl)
theorem zzc [Dr] (φ:Nat):zr TV Tryz.prog 91 (zk3 φ):=
 zx (N:=zl7 Tryz.prog φ) (zd trivial trivial trivial trivial) (zew φ) Tryz.func91 (by kernel_rfl) (y2n φ) (zzn φ)
def zec (φ:Nat):H TV (RTup TT [.val 1]):=(.seq .x (.seq .x (.seq (.seq .x (.body (.loop ⟨[(51,[(1,.ptr 0 0),(3,.val 0)])],[.box 55 [.val 6]]⟩ (fun n z=>z7f φ n z.1 z.2.1) (fun zk4=>.x)))) .x)))
def zkm (P:Program) (φ:Nat):Env TV:=⟨P,lk [(87,z0t φ)],lk [],lk [],lk []⟩
theorem zz0 (φ:Nat) (a) :(zl1 φ).F a=fnX TV (zkm Tryz.prog φ) φ Tryz.f92 [6] [.val 1] (zec φ) a:=by kernel_rfl
theorem y1a (φ:Nat):fnO TV (zkm Tryz.prog φ) φ Tryz.f92 [.val 1] (zec φ):=by
 unfold fnO
 show obl _ _ _ _ _ _ _
 unfold zec
 repeat' (first | exact trivial |(refine⟨?_,?_⟩) |(intro _) | kernel_rfl)
theorem y1r [Dr] (φ:Nat):zr TV Tryz.prog 92 (zl1 φ):=
 zx (N:=zkm Tryz.prog φ) (zd ⟨z37 φ,trivial⟩ trivial trivial trivial) (zec φ) Tryz.func92 (by kernel_rfl) (zz0 φ) (y1a φ)
def zef (φ:Nat):H TV (RTup TT [.val 1]):=(.seq .x (.seq .x (.seq .x (.seq (.seq .x (.body (.loop ⟨[(77,[(2,.ptr 0 0),(3,.ptr 1 0),(5,.val 4),(6,.val 0)])],[.box 51 [.val 39],.box 55 [.val 6]]⟩ (fun n z=>z4i φ n z.1 z.2.1 z.2.2.1 z.2.2.2.1) (fun zk10=>.x)))) .x))))
def zjv (P:Program) (φ:Nat):Env TV:=⟨P,lk [(86,zmi φ),(87,z0t φ),(88,zbu φ),(89,zsi φ),(90,zj6 φ),(91,zk3 φ),(92,zl1 φ)],lk [],lk [],lk []⟩
theorem zzv (φ:Nat) (a) :(zf1 φ).F a=fnX TV (zjv Tryz.prog φ) φ Tryz.f55 [39,6] [.val 1] (zef φ) a:=by kernel_rfl
theorem zzu (φ:Nat):fnO TV (zjv Tryz.prog φ) φ Tryz.f55 [.val 1] (zef φ):=by
 unfold fnO
 show obl _ _ _ _ _ _ _
 unfold zef
 repeat' (first | exact trivial |(refine⟨?_,?_⟩) |(intro _) | kernel_rfl)
theorem zq4 [Dr] (φ:Nat):zr TV Tryz.prog 55 (zf1 φ):=
 zx (N:=zjv Tryz.prog φ) (zd ⟨y3o φ,z37 φ,zrg φ,ybw φ,y0o φ,zzc φ,y1r φ,trivial⟩ trivial trivial trivial) (zef φ) Tryz.func55 (by kernel_rfl) (zzv φ) (zzu φ)
def zes (φ:Nat):H TV (RTup TT [.val 1]):=(.seq .x (.seq (.seq .x (.body (.loop ⟨[(58,[(2,.ptr 0 0),(3,.ptr 1 0),(5,.val 0)])],[.box 55 [.val 6],.box 55 [.val 6]]⟩ (fun n z=>z63 φ n z.1 z.2.1 z.2.2.1) (fun zk6=>(.seq .x (.seq (.body (.seq .x (.body (.loop ⟨[(58,[(2,.ptr 0 0),(3,.ptr 1 0),(5,.val 0),(6,.val 0)])],[.box 55 [.val 6],.box 55 [.val 6]]⟩ (fun n z=>z4r φ (fun a0 a1 a2=>zk6 (a0,a1,a2,())) n z.1 z.2.1 z.2.2.1 z.2.2.2.1) (fun zk11=>.x))))) .x)))))) .x))
def zl9 (P:Program) (φ:Nat):Env TV:=⟨P,lk [],lk [],lk [],lk []⟩
theorem zzh (φ:Nat) (a) :(zjr φ).F a=fnX TV (zl9 Tryz.prog φ) φ Tryz.f56 [6,6] [.val 1] (zes φ) a:=by kernel_rfl
theorem zzk (φ:Nat):fnO TV (zl9 Tryz.prog φ) φ Tryz.f56 [.val 1] (zes φ):=by
 unfold fnO
 show obl _ _ _ _ _ _ _
 unfold zes
 repeat' (first | exact trivial |(refine⟨?_,?_⟩) |(intro _) | kernel_rfl)
theorem y2w [Dr] (φ:Nat):zr TV Tryz.prog 56 (zjr φ):=
 zx (N:=zl9 Tryz.prog φ) (zd trivial trivial trivial trivial) (zes φ) Tryz.func56 (by kernel_rfl) (zzh φ) (zzk φ)
def zek (φ:Nat):H TV (RTup TT [.val 0]):=.x
def zjd (P:Program) (φ:Nat):Env TV:=⟨P,lk [(54,z6p φ)],lk [],lk [],lk []⟩
theorem y1o (φ:Nat) (a) :(ziy φ).F a=fnX TV (zjd Tryz.prog φ) φ Tryz.f93 [39,0,0] [.val 0] (zek φ) a:=by kernel_rfl
theorem y0p (φ:Nat):fnO TV (zjd Tryz.prog φ) φ Tryz.f93 [.val 0] (zek φ):=by
 unfold fnO
 show obl _ _ _ _ _ _ _
 unfold zek
 repeat' (first | exact trivial |(refine⟨?_,?_⟩) |(intro _) | kernel_rfl)
theorem zzs [Dr] (φ:Nat):zr TV Tryz.prog 93 (ziy φ):=
 zx (N:=zjd Tryz.prog φ) (zd ⟨zbt φ,trivial⟩ trivial trivial trivial) (zek φ) Tryz.func93 (by kernel_rfl) (y1o φ) (y0p φ)
def zo5 (φ:Nat):H TV (RTup TT [.val 8]):=(.seq .x (.seq .x (.seq (.seq .x (.body (.loop ⟨[(37,[(1,.val 10),(2,.val 0),(3,.ptr 0 0),(7,.own 1),(8,.val 0)])],[.box 51 [.val 39],.row 3 0]⟩ (fun n z=>z9p φ n z.1 z.2.1 z.2.2.1 z.2.2.2.1 z.2.2.2.2.1) (fun zk9=>.x)))) .x)))
def zr8 (P:Program) (φ:Nat):Env TV:=⟨P,lk [(55,zf1 φ)],lk [],lk [],lk []⟩
theorem ycu (φ:Nat) (a) :(zsj φ).F a=fnX TV (zr8 Tryz.prog φ) φ Tryz.f175 [39,10,0] [.val 8] (zo5 φ) a:=by kernel_rfl
theorem ybp (φ:Nat):fnO TV (zr8 Tryz.prog φ) φ Tryz.f175 [.val 8] (zo5 φ):=by
 unfold fnO
 show obl _ _ _ _ _ _ _
 unfold zo5
 repeat' (first | exact trivial |(refine⟨?_,?_⟩) |(intro _) | kernel_rfl)
theorem yc5 [Dr] (φ:Nat):zr TV Tryz.prog 175 (zsj φ):=
 zx (N:=zr8 Tryz.prog φ) (zd ⟨zq4 φ,trivial⟩ trivial trivial trivial) (zo5 φ) Tryz.func175 (by kernel_rfl) (ycu φ) (ybp φ)
def zc1 (φ:Nat):H TV (RTup TT [.val 1]):=.x
def zib (P:Program) (φ:Nat):Env TV:=⟨P,lk [],lk [],lk [],lk []⟩
theorem zx7 (φ:Nat) (a) :(z96 φ).F a=fnX TV (zib Tryz.prog φ) φ Tryz.f178 [3,3] [.val 1] (zc1 φ) a:=by kernel_rfl
theorem zxc (φ:Nat):fnO TV (zib Tryz.prog φ) φ Tryz.f178 [.val 1] (zc1 φ):=by
 unfold fnO
 show obl _ _ _ _ _ _ _
 unfold zc1
 repeat' (first | exact trivial |(refine⟨?_,?_⟩) |(intro _) | kernel_rfl)
theorem zi7 [Dr] (φ:Nat):zr TV Tryz.prog 178 (z96 φ):=
 zx (N:=zib Tryz.prog φ) (zd trivial trivial trivial trivial) (zc1 φ) Tryz.func178 (by kernel_rfl) (zx7 φ) (zxc φ)
def zc2 (φ:Nat):H TV (RTup TT [.val 8]):=(.seq .x (.seq .x (.seq (.seq .x (.body (.loop ⟨[(82,[(0,.val 10),(1,.val 8),(5,.own 0),(6,.val 0)])],[.row 3 0]⟩ (fun n z=>z4k φ n z.1 z.2.1 z.2.2.1 z.2.2.2.1) (fun zk7=>(.seq .x (.seq (.body (.seq .x (.seq .x (.seq (.join ⟨[(82,[(0,.val 10),(1,.val 8),(5,.own 0),(6,.val 0),(8,.val 0)])],[.row 3 0]⟩ (fun z=>z5j φ (fun a0 a1 a2 a3=>zk7 (a0,a1,a2,a3,())) z.1 z.2.1 z.2.2.1 z.2.2.2.1 z.2.2.2.2.1) (.body (.loop ⟨[(82,[(0,.val 10),(1,.val 8),(5,.own 0),(6,.val 0),(7,.ptr 1 0),(8,.val 0)])],[.row 3 0,.box 57 [.val 7]]⟩ (fun n z=>z3w φ (fun a0 a1 a2 a3=>zk7 (a0,a1,a2,a3,())) n z.1 z.2.1 z.2.2.1 z.2.2.2.1 z.2.2.2.2.1 z.2.2.2.2.2.1) (fun zk20=>.x)))) (.seq .x (.seq (.frz [(5,none)] .x) .x)))))) .x)))))) .x)))
def zi5 (P:Program) (φ:Nat):Env TV:=⟨P,lk [(178,z96 φ)],lk [],lk [],lk []⟩
theorem zxj (φ:Nat) (a) :(zhz φ).F a=fnX TV (zi5 Tryz.prog φ) φ Tryz.f174 [10,8] [.val 8] (zc2 φ) a:=by kernel_rfl
theorem zx5 (φ:Nat):fnO TV (zi5 Tryz.prog φ) φ Tryz.f174 [.val 8] (zc2 φ):=by
 unfold fnO
 show obl _ _ _ _ _ _ _
 unfold zc2
 repeat' (first | exact trivial |(refine⟨?_,?_⟩) |(intro _) | kernel_rfl)
theorem zx6 [Dr] (φ:Nat):zr TV Tryz.prog 174 (zhz φ):=
 zx (N:=zi5 Tryz.prog φ) (zd ⟨zi7 φ,trivial⟩ trivial trivial trivial) (zc2 φ) Tryz.func174 (by kernel_rfl) (zxj φ) (zx5 φ)
def zca (φ:Nat):H TV (RTup TT [.val 1]):=.x
def zho (P:Program) (φ:Nat):Env TV:=⟨P,lk [],lk [],lk [],lk []⟩
theorem zx9 (φ:Nat) (a) :(zi6 φ).F a=fnX TV (zho Tryz.prog φ) φ Tryz.f184 [39,7] [.val 1] (zca φ) a:=by kernel_rfl
theorem zxv (φ:Nat):fnO TV (zho Tryz.prog φ) φ Tryz.f184 [.val 1] (zca φ):=by
 unfold fnO
 show obl _ _ _ _ _ _ _
 unfold zca
 repeat' (first | exact trivial |(refine⟨?_,?_⟩) |(intro _) | kernel_rfl)
theorem zxd [Dr] (φ:Nat):zr TV Tryz.prog 184 (zi6 φ):=
 zx (N:=zho Tryz.prog φ) (zd trivial trivial trivial trivial) (zca φ) Tryz.func184 (by kernel_rfl) (zx9 φ) (zxv φ)
def zjf (φ:Nat):H TV (RTup TT [.val 0]):=.x
def zpc (P:Program) (φ:Nat):Env TV:=⟨P,lk [],lk [],lk [],lk []⟩
theorem y8l (φ:Nat) (a) :(zju φ).F a=fnX TV (zpc Tryz.prog φ) φ Tryz.f177 [7,7] [.val 0] (zjf φ) a:=by kernel_rfl
theorem y7u (φ:Nat):fnO TV (zpc Tryz.prog φ) φ Tryz.f177 [.val 0] (zjf φ):=by
 unfold fnO
 show obl _ _ _ _ _ _ _
 unfold zjf
 repeat' (first | exact trivial |(refine⟨?_,?_⟩) |(intro _) | kernel_rfl)
theorem zwc [Dr] (φ:Nat):zr TV Tryz.prog 177 (zju φ):=
 zx (N:=zpc Tryz.prog φ) (zd trivial trivial trivial trivial) (zjf φ) Tryz.func177 (by kernel_rfl) (y8l φ) (y7u φ)
def zgy (φ:Nat):H TV (RTup TT [.val 1]):=.x
def zn7 (P:Program) (φ:Nat):Env TV:=⟨P,lk [(184,zi6 φ),(177,zju φ)],lk [],lk [],lk []⟩
theorem y6i (φ:Nat) (a) :(zmo φ).F a=fnX TV (zn7 Tryz.prog φ) φ Tryz.f176 [39,7,7] [.val 1] (zgy φ) a:=by kernel_rfl
theorem y3v (φ:Nat):fnO TV (zn7 Tryz.prog φ) φ Tryz.f176 [.val 1] (zgy φ):=by
 unfold fnO
 show obl _ _ _ _ _ _ _
 unfold zgy
 repeat' (first | exact trivial |(refine⟨?_,?_⟩) |(intro _) | kernel_rfl)
theorem y6u [Dr] (φ:Nat):zr TV Tryz.prog 176 (zmo φ):=
 zx (N:=zn7 Tryz.prog φ) (zd ⟨zxd φ,zwc φ,trivial⟩ trivial trivial trivial) (zgy φ) Tryz.func176 (by kernel_rfl) (y6i φ) (y3v φ)
def zf5 (φ:Nat):H TV (RTup TT [.val 43]):=(.seq .x (.seq .x (.seq .x (.seq .x (.seq .x (.seq .x (.seq (.seq .x (.body (.loop ⟨[(126,[(1,.val 10),(2,.ptr 0 0),(5,.own 1),(6,.val 8),(7,.val 8),(8,.own 2),(9,.val 0)])],[.box 51 [.val 39],.fix 4 1,.row 200 42]⟩ (fun n z=>z35 φ n z.1 z.2.1 z.2.2.1 z.2.2.2.1 z.2.2.2.2.1 z.2.2.2.2.2.1 z.2.2.2.2.2.2.1) (fun zk14=>(.seq .x (.seq (.body (.seq .x (.seq .x (.seq (.seq .x (.body (.loop ⟨[(126,[(1,.val 10),(2,.ptr 0 0),(5,.own 1),(6,.val 8),(7,.val 8),(8,.own 2),(9,.val 0),(10,.ptr 3 0),(11,.val 0),(12,.val 0)])],[.box 51 [.val 39],.fix 4 1,.row 200 42,.box 57 [.val 7]]⟩ (fun n z=>z29 φ (fun a0 a1 a2 a3 a4 a5 a6=>zk14 (a0,a1,a2,a3,a4,a5,a6,())) n z.1 z.2.1 z.2.2.1 z.2.2.2.1 z.2.2.2.2.1 z.2.2.2.2.2.1 z.2.2.2.2.2.2.1 z.2.2.2.2.2.2.2.1 z.2.2.2.2.2.2.2.2.1 z.2.2.2.2.2.2.2.2.2.1) (fun zk25=>.x)))) .x)))) .x)))))) .x)))))))
def zj1 (P:Program) (φ:Nat):Env TV:=⟨P,lk [(54,z6p φ),(175,zsj φ),(174,zhz φ),(176,zmo φ),(177,zju φ),(178,z96 φ)],lk [],lk [],lk []⟩
theorem y0k (φ:Nat) (a) :(zku φ).F a=fnX TV (zj1 Tryz.prog φ) φ Tryz.f158 [39,10] [.val 43] (zf5 φ) a:=by kernel_rfl
theorem y00 (φ:Nat):fnO TV (zj1 Tryz.prog φ) φ Tryz.f158 [.val 43] (zf5 φ):=by
 unfold fnO
 show obl _ _ _ _ _ _ _
 unfold zf5
 repeat' (first | exact trivial |(refine⟨?_,?_⟩) |(intro _) | kernel_rfl)
theorem zza [Dr] (φ:Nat):zr TV Tryz.prog 158 (zku φ):=
 zx (N:=zj1 Tryz.prog φ) (zd ⟨zbt φ,yc5 φ,zx6 φ,y6u φ,zwc φ,zi7 φ,trivial⟩ trivial trivial trivial) (zf5 φ) Tryz.func158 (by kernel_rfl) (y0k φ) (y00 φ)
def zex (φ:Nat):H TV (RTup TT [.val 1]):=.x
def zix (P:Program) (φ:Nat):Env TV:=⟨P,lk [(178,z96 φ)],lk [],lk [],lk []⟩
theorem zyz (φ:Nat) (a) :(zks φ).F a=fnX TV (zix Tryz.prog φ) φ Tryz.f159 [44,44] [.val 1] (zex φ) a:=by kernel_rfl
theorem y2k (φ:Nat):fnO TV (zix Tryz.prog φ) φ Tryz.f159 [.val 1] (zex φ):=by
 unfold fnO
 show obl _ _ _ _ _ _ _
 unfold zex
 repeat' (first | exact trivial |(refine⟨?_,?_⟩) |(intro _) | kernel_rfl)
theorem zz8 [Dr] (φ:Nat):zr TV Tryz.prog 159 (zks φ):=
 zx (N:=zix Tryz.prog φ) (zd ⟨zi7 φ,trivial⟩ trivial trivial trivial) (zex φ) Tryz.func159 (by kernel_rfl) (zyz φ) (y2k φ)
def zet (φ:Nat):H TV (RTup TT [.val 45]):=(.seq .x (.seq .x (.seq .x (.seq (.seq .x (.body (.loop ⟨[(100,[(1,.val 10),(5,.val 43),(6,.own 0),(7,.val 0)])],[.row 165 44]⟩ (fun n z=>z61 φ n z.1 z.2.1 z.2.2.1 z.2.2.2.1) (fun zk8=>(.seq .x (.seq (.body (.seq .x (.seq .x (.seq .x (.seq .x (.seq (.body (.loop ⟨[(100,[(1,.val 10),(5,.val 43),(6,.own 0),(7,.val 0),(10,.ptr 1 0),(11,.val 0)])],[.row 165 44,.box 165 [.val 44]]⟩ (fun n z=>z6s φ (fun a0 a1 a2 a3=>zk8 (a0,a1,a2,a3,())) n z.1 z.2.1 z.2.2.1 z.2.2.2.1 z.2.2.2.2.1 z.2.2.2.2.2.1) (fun zk15=>.x))) (.seq .x (.seq (.frz [(6,none)] .x) .x)))))))) .x)))))) .x))))
def zjm (P:Program) (φ:Nat):Env TV:=⟨P,lk [(158,zku φ),(159,zks φ)],lk [],lk [],lk []⟩
theorem y0g (φ:Nat) (a) :(zl3 φ).F a=fnX TV (zjm Tryz.prog φ) φ Tryz.f127 [39,10] [.val 45] (zet φ) a:=by kernel_rfl
theorem y2p (φ:Nat):fnO TV (zjm Tryz.prog φ) φ Tryz.f127 [.val 45] (zet φ):=by
 unfold fnO
 show obl _ _ _ _ _ _ _
 unfold zet
 repeat' (first | exact trivial |(refine⟨?_,?_⟩) |(intro _) | kernel_rfl)
theorem y0y [Dr] (φ:Nat):zr TV Tryz.prog 127 (zl3 φ):=
 zx (N:=zjm Tryz.prog φ) (zd ⟨zza φ,zz8 φ,trivial⟩ trivial trivial trivial) (zet φ) Tryz.func127 (by kernel_rfl) (y0g φ) (y2p φ)
def ze9 (φ:Nat):H TV (RTup TT [.val 47]):=(.seq .x (.seq .x (.seq .x (.seq .x (.seq (.seq .x (.body (.loop ⟨[(92,[(2,.val 0),(8,.own 0),(9,.val 45),(10,.val 0)])],[.row 127 46]⟩ (fun n z=>z6g φ n z.1 z.2.1 z.2.2.1 z.2.2.2.1) (fun zk9=>.x)))) .x)))))
def zkv (P:Program) (φ:Nat):Env TV:=⟨P,lk [(127,zl3 φ)],lk [],lk [],lk []⟩
theorem zzj (φ:Nat) (a) :(zj3 φ).F a=fnX TV (zkv Tryz.prog φ) φ Tryz.f94 [39,10,0] [.val 47] (ze9 φ) a:=by kernel_rfl
theorem y2h (φ:Nat):fnO TV (zkv Tryz.prog φ) φ Tryz.f94 [.val 47] (ze9 φ):=by
 unfold fnO
 show obl _ _ _ _ _ _ _
 unfold ze9
 repeat' (first | exact trivial |(refine⟨?_,?_⟩) |(intro _) | kernel_rfl)
theorem y04 [Dr] (φ:Nat):zr TV Tryz.prog 94 (zj3 φ):=
 zx (N:=zkv Tryz.prog φ) (zd ⟨y0y φ,trivial⟩ trivial trivial trivial) (ze9 φ) Tryz.func94 (by kernel_rfl) (zzj φ) (y2h φ)
def zo3 (φ:Nat):H TV (RTup TT [.val 0,.val 0]):=(.seq .x (.seq .x (.seq .x (.seq .x (.seq .x (.seq (.seq .x (.body (.loop ⟨[(45,[(3,.val 0),(11,.val 47),(12,.val 0),(13,.val 0)])],[]⟩ (fun n z=>z89 φ n z.1 z.2.1 z.2.2.1 z.2.2.2.1) (fun zk11=>.x)))) .x))))))
def zqu (P:Program) (φ:Nat):Env TV:=⟨P,lk [(93,ziy φ),(94,zj3 φ)],lk [],lk [],lk []⟩
theorem ycl (φ:Nat) (a) :(zrd φ).F a=fnX TV (zqu Tryz.prog φ) φ Tryz.f58 [39,10,0,0] [.val 0,.val 0] (zo3 φ) a:=by kernel_rfl
theorem ycm (φ:Nat):fnO TV (zqu Tryz.prog φ) φ Tryz.f58 [.val 0,.val 0] (zo3 φ):=by
 unfold fnO
 show obl _ _ _ _ _ _ _
 unfold zo3
 repeat' (first | exact trivial |(refine⟨?_,?_⟩) |(intro _) | kernel_rfl)
theorem ycw [Dr] (φ:Nat):zr TV Tryz.prog 58 (zrd φ):=
 zx (N:=zqu Tryz.prog φ) (zd ⟨zzs φ,y04 φ,trivial⟩ trivial trivial trivial) (zo3 φ) Tryz.func58 (by kernel_rfl) (ycl φ) (ycm φ)
def zei (φ:Nat):H TV (RTup TT [.val 0,.val 0]):=(.seq .x (.seq .x (.seq .x (.seq .x (.seq .x (.seq (.seq .x (.body (.loop ⟨[(111,[(1,.val 10),(3,.ptr 0 0),(5,.ptr 1 0),(9,.val 0),(10,.val 0)])],[.box 51 [.val 39],.box 57 [.val 7]]⟩ (fun n z=>z1y φ n z.1 z.2.1 z.2.2.1 z.2.2.2.1 z.2.2.2.2.1) (fun zk11=>.x)))) .x))))))
def zjz (P:Program) (φ:Nat):Env TV:=⟨P,lk [(54,z6p φ),(55,zf1 φ),(56,zjr φ),(57,zhn φ),(58,zrd φ)],lk [],lk [],lk []⟩
theorem y1l (φ:Nat) (a) :(zlg φ).F a=fnX TV (zjz Tryz.prog φ) φ Tryz.f23 [39,10,7] [.val 0,.val 0] (zei φ) a:=by kernel_rfl
theorem y2o (φ:Nat):fnO TV (zjz Tryz.prog φ) φ Tryz.f23 [.val 0,.val 0] (zei φ):=by
 unfold fnO
 show obl _ _ _ _ _ _ _
 unfold zei
 repeat' (first | exact trivial |(refine⟨?_,?_⟩) |(intro _) | kernel_rfl)
theorem zzm [Dr] (φ:Nat):zr TV Tryz.prog 23 (zlg φ):=
 zx (N:=zjz Tryz.prog φ) (zd ⟨zbt φ,zq4 φ,y2w φ,zxt φ,ycw φ,trivial⟩ trivial trivial trivial) (zei φ) Tryz.func23 (by kernel_rfl) (y1l φ) (y2o φ)
def z09 (φ:Nat):H TV (RTup TT [.val 1]):=.x
def z15 (P:Program) (φ:Nat):Env TV:=⟨P,lk [(10,zn0 φ),(21,zbl φ),(11,zp6 φ),(22,zcd φ),(23,zlg φ)],lk [],lk [],lk []⟩
theorem z9s (φ:Nat) (a) :(z08 φ).F a=fnX TV (z15 Tryz.prog φ) φ Tryz.f4 [39,10,7] [.val 1] (z09 φ) a:=by kernel_rfl
theorem z9t (φ:Nat):fnO TV (z15 Tryz.prog φ) φ Tryz.f4 [.val 1] (z09 φ):=by
 unfold fnO
 show obl _ _ _ _ _ _ _
 unfold z09
 repeat' (first | exact trivial |(refine⟨?_,?_⟩) |(intro _) | kernel_rfl)
theorem z9m (φ:Nat):zr TV Tryz.prog 4 (z08 φ):=
 zx (N:=z15 Tryz.prog φ) (zd ⟨y3n φ,zrl φ,y7q φ,zod φ,zzm φ,trivial⟩ trivial trivial trivial) (z09 φ) Tryz.func4 (by kernel_rfl) (z9s φ) (z9t φ)
end Px
end
section
namespace Px
open Go
structure Swo {α:Type} (lt:α->α->Bool):Prop where
 asym:∀ a b,lt a b=true->lt b a=false
 ntr:∀ a b c,lt a b=false->lt b c=false->lt a c=false
def Srt {α:Type} (lt:α->α->Bool) (l:List α):Prop:=l.Pairwise fun a b=>lt b a=false
def eqv2 {α:Type} (lt:α->α->Bool) (a b:α):Bool:=!lt a b&&!lt b a
def Stb {α:Type} (lt:α->α->Bool) (l r:List α):Prop:=r.Perm l/\∀ a,r.filter (eqv2 lt a)=l.filter (eqv2 lt a)
section
variable {α:Type} {lt:α->α->Bool}
theorem Swo.irr (h:Swo lt) (a:α):lt a a=false:=by
 cases e:lt a a with
 | false=>rfl
 | true=>exact(h.asym a a e).symm.trans e |>.symm
theorem zue {a b:α} : eqv2 lt a b=true↔lt a b=false/\lt b a=false:=by simp [eqv2]
theorem Stb.refl (l:List α):Stb lt l l:=⟨.refl _,fun _=>rfl⟩
theorem Stb.trans {a b c:List α} (h:Stb lt a b) (h':Stb lt b c):Stb lt a c:=⟨h'.1.trans h.1,fun x=>(h'.2 x).trans (h.2 x)⟩
theorem Stb.app {a b c d:List α} (h:Stb lt a b) (h':Stb lt c d):Stb lt (a++c) (b++d):=⟨h.1.append h'.1,fun x=>by simp only [List.filter_append,h.2 x,h'.2 x]⟩
theorem Stb.mem {l r:List α} (h:Stb lt l r) {x:α} : x∈r↔x∈l:=h.1.mem_iff
theorem Stb.len {l r:List α} (h:Stb lt l r):r.length=l.length:=h.1.length_eq
theorem y6l (a:α) {X:List α} (h:∀ x∈X,eqv2 lt a x=false):X.filter (eqv2 lt a) = []:=by
 rw [List.filter_eq_nil_iff]; intro x hx; simp [h x hx]
theorem Stb.swap (hs:Swo lt) {X Y:List α} (h:∀ x∈X,∀ y∈Y,lt y x=true):Stb lt (X++Y) (Y++X):=by
 refine⟨List.perm_append_comm,fun a=>?_⟩
 simp only [List.filter_append]
 by_cases hx:∃ x∈X,eqv2 lt a x=true
 ·obtain⟨x,hx,ex⟩:=hx
  have:Y.filter (eqv2 lt a) = []:=y6l a fun y hy=>by
   cases e:eqv2 lt a y with
   | false=>rfl
   | true=>
    have h1:=zue.1 e
    have h2:=zue.1 ex
    have:=hs.ntr y a x h1.2 h2.1
    rw [h x hx y hy] at this; cases this
  rw [this]; simp
 ·have:X.filter (eqv2 lt a) = []:=y6l a fun x hx'=>by
   cases e:eqv2 lt a x with
   | false=>rfl
   | true=>exact absurd ⟨x,hx',e⟩ hx
  rw [this]; simp
theorem Srt.app {a b:List α} (h:Srt lt a) (h':Srt lt b) (hc:∀ x∈a,∀ y∈b,lt y x=false):Srt lt (a++b):=List.pairwise_append.2 ⟨h,h',hc⟩
theorem Srt.parts {a b:List α} (h:Srt lt (a++b)):Srt lt a/\Srt lt b/\∀ x∈a,∀ y∈b,lt y x=false:=List.pairwise_append.1 h
theorem Srt.unique (hs:Swo lt):∀ {r r':List α},Srt lt r->Srt lt r'->Stb lt r r'->r=r'
 | [],r',_,_,h=>by
  have:=h.len; simp at this; exact this.symm
 | x::r,r',hr,hr',h=>by
  cases r' with
  | nil=>have:=h.len; simp at this
  | cons y r'=>
   have hr1:=List.pairwise_cons.1 hr
   have hr2:=List.pairwise_cons.1 hr'
   have h1:lt y x=false:=by
    rcases List.mem_cons.1 (h.mem.1 (List.mem_cons_self (a:=y))) with e | e
    ·rw [e]; exact hs.irr _
    ·exact hr1.1 y e
   have h2:lt x y=false:=by
    rcases List.mem_cons.1 (h.mem.2 (List.mem_cons_self (a:=x))) with e | e
    ·rw [e]; exact hs.irr _
    ·exact hr2.1 x e
   have e1:eqv2 lt x x=true:=zue.2 ⟨hs.irr _,hs.irr _⟩
   have e2:eqv2 lt x y=true:=zue.2 ⟨h2,h1⟩
   have hf:=h.2 x
   rw [List.filter_cons_of_pos e1,List.filter_cons_of_pos e2] at hf
   have hxy:y=x:=(List.cons.inj hf).1
   subst hxy
   congr 1
   refine Srt.unique hs hr1.2 hr2.2 ⟨(List.perm_cons _).1 h.1,fun a=>?_⟩
   have:=h.2 a
   simp only [List.filter_cons] at this
   split at this
   ·exact(List.cons.inj this).2
   ·exact this
theorem zor (hs:Swo lt) {A B C E R1 R2:List α} (h1:Srt lt (A++B)) (h2:Srt lt (C++E)) (hA:∀ x∈B,∀ y∈C,lt y x=true) (hB:∀ x∈A,∀ y∈E,lt y x=false)
  (s1:Srt lt R1) (t1:Stb lt (A++C) R1) (s2:Srt lt R2) (t2:Stb lt (B++E) R2):Srt lt (R1++R2)/\Stb lt ((A++B)++(C++E)) (R1++R2):=by
 refine⟨s1.app s2 fun u hu v hv=>?_,?_⟩
 ·have hu:=List.mem_append.1 (t1.mem.1 hu)
  have hv:=List.mem_append.1 (t2.mem.1 hv)
  rcases hu with hu | hu <;> rcases hv with hv | hv
  ·exact h1.parts.2.2 u hu v hv
  ·exact hB u hu v hv
  ·exact hs.asym _ _ (hA v hv u hu)
  ·exact h2.parts.2.2 u hu v hv
 ·have:Stb lt ((A++B)++(C++E)) ((A++C)++(B++E)):=by
   have:=((Stb.refl (lt:=lt) A).app (Stb.swap hs hA)).app (Stb.refl E)
   simpa [List.append_assoc] using this
  exact this.trans (t1.app t2)
theorem zs3 (hs:Swo lt) {y c x b:α} (h1:lt c y=false) (h2:lt c b=true) (h3:lt x b=false):lt y x=true:=by
 cases e:lt y x with
 | true=>rfl
 | false=>
  have:=hs.ntr _ _ _ (hs.ntr _ _ _ h1 e) h3
  rw [h2] at this; cases this
theorem y9g (hs:Swo lt) {y e x a:α} (h1:lt y e=false) (h2:lt e a=false) (h3:lt a x=false):lt y x=false:=hs.ntr _ _ _ (hs.ntr _ _ _ h1 h2) h3
theorem yci (hs:Swo lt) {A B:List α} {x:α} (h:∀ y∈B,lt x y=true):Stb lt (A++B++[x]) (A++[x]++B):=by
 have:=(Stb.refl (lt:=lt) A).app (Stb.swap hs (X:=B) (Y:=[x]) fun z hz y hy=>by simp at hy; subst hy; exact h z hz)
 simpa [List.append_assoc] using this
theorem y9r {ρ:Type} (L:Nat->Int->Int->Option ρ) (k:Int->Option ρ) (pred:Nat->Bool) (R:Nat) (s0:Nat)
  (step:∀ n s r:Nat,s0<=s->s<r->r<=R->L (n+1) s r=if pred ((s+r) / 2)=true then L n (((s+r) / 2+1:Nat)) r else L n s ((s+r) / 2:Nat)) (done:∀ n s:Nat,L (n+1) s s=k s) :
  ∀ n s r:Nat,s0<=s->s<=r->r<=R->r-s<n->∃ c:Nat,s<=c/\c<=r/\(c=s\/pred (c-1)=true)/\(c=r\/pred c=false)/\L n s r=k c:=by
 intro n
 induction n with
 | zero=>intro s r _ _ _ h; omega
 | succ n ih=>
  intro s r h0 h hR hn
  by_cases e:s=r
  ·subst e; exact⟨s,Nat.le_refl _,Nat.le_refl _,.inl rfl,.inl rfl,done n s⟩
  ·rw [step n s r h0 (by omega) hR]
   cases hp:pred ((s+r) / 2) with
   | true=>
    rw [if_pos rfl]
    obtain⟨c,h1,h2,h3,h4,h5⟩:=ih ((s+r) / 2+1) r (by omega) (by omega) hR (by omega)
    refine⟨c,by omega,h2,?_,h4,h5⟩
    rcases h3 with h3 | h3
    ·right; rw [h3]; simpa using hp
    ·exact .inr h3
   | false=>
    rw [if_neg (by simp)]
    obtain⟨c,h1,h2,h3,h4,h5⟩:=ih s ((s+r) / 2) h0 (by omega) (by omega) (by omega)
    refine⟨c,h1,by omega,h3,?_,h5⟩
    rcases h4 with h4 | h4
    ·right; rw [h4]; exact hp
    ·exact .inr h4
end
section arr
variable {α:Type} [Inhabited α]
theorem zlr {A B:List α} {x:α} {i:Int} (h:i=A.length):gt (A++x::B) i=x:=by
 subst h; rw [zct _ _ _ (Int.le_refl _)]; simp [gt]
omit [Inhabited α] in
theorem zso {A B:List α} {x y:α} {i:Int} (h:i=A.length):z04 (A++x::B) i y=A++y::B:=by
 subst h; simp [z04]
theorem yea {n:Int} (h0:0<=n) (h:n<=4611686018427387904):W ((U (W n)).fdiv 2)=n / 2:=by
 rw [W_id (x:=n) (by omega) (by omega),U_id h0 (by omega),Int.fdiv_eq_ediv_of_nonneg _ (by omega),W_id (by omega) (by omega)]
end arr
def Cmp {α:Type} (D:α->Prop) (y:α->α->Option Int) (lt:α->α->Bool):Prop:=∀ a b,D a->D b->∃ z,y a b=some z/\decide (z<0)=lt a b
theorem zfd {α:Type} (l:List α):l = []\/∃ S w,l=S++[w]:=by
 rcases List.eq_nil_or_concat l with h |⟨S,w,h⟩
 ·exact .inl h
 ·exact .inr ⟨S,w,by rw [h,List.concat_eq_append]⟩
inductive Runs {α:Type} (lt:α->α->Bool) (bs:Nat):List α->Prop
 | last {l:List α} (h:l.length<=bs) (hs:Srt lt l):Runs lt bs l
 | cons {b r:List α} (h:b.length=bs) (hs:Srt lt b) (hr:Runs lt bs r):Runs lt bs (b++r)
theorem Runs.small {α:Type} {lt:α->α->Bool} {bs:Nat} {l:List α} (h:Runs lt bs l) (hl:l.length<=bs):Srt lt l:=by
 cases h with
 | last _ hs=>exact hs
 | cons h hs hr=>
  rename_i b r
  have:r = []:=List.eq_nil_of_length_eq_zero (by simp at hl; omega)
  rw [this,List.append_nil]; exact hs
theorem Runs.big {α:Type} {lt:α->α->Bool} {bs:Nat} {l:List α} (h:Runs lt bs l) (hl:bs<l.length):∃ b r,l=b++r/\b.length=bs/\Srt lt b/\Runs lt bs r/\r≠[]:=by
 cases h with
 | last h _=>omega
 | cons h hs hr=>
  rename_i b r
  exact⟨b,r,rfl,h,hs,hr,by intro e; subst e; simp at hl; omega⟩
end Px
end
section
namespace Px
open Go
set_option maxHeartbeats 1000000
section
variable {α:Type} [Inhabited α]
def zpr (φ:Nat) (k10 :(Int->Int->(α->α->Option Int)->Int->(List α)->Option (List α))):Nat->Int->Int->(α->α->Option Int)->Int->Int->(List α)->Option (List α)
 | 0,_,_,_,_,_,_=>none
 | n17+1,x11,x12,x13,x14,x15,x16=>(ck (((decide ((x11:Int)<x15))=true)->(0:Int)<=x15/\x15 <(x16.length:Int)) (ck (((decide ((x11:Int)<x15))=true)->(0:Int)<=(W (x15-1))/\(W (x15-1)) <(x16.length:Int)) ((zc (0:Int) ((decide ((x11:Int)<x15))=true) (x13 (gt x16 x15) (gt x16 (W (x15-1))))).bind fun y18=>(if((decide ((x11:Int)<x15))&&(decide ((y18:Int)<0)))=true then(ck ((0:Int)<=(W (x15-1))/\(W (x15-1)) <(x16.length:Int)) (ck ((0:Int)<=x15/\x15 <(x16.length:Int)) (ck ((0:Int)<=x15/\x15 <(x16.length:Int)) (ck ((0:Int)<=(W (x15-1))/\(W (x15-1)) <(((z04 x16 x15 (gt x16 (W (x15-1))))).length:Int)) ((zpr φ k10 n17) x11 x12 x13 x14 (W (x15-1)) ((z04 ((z04 x16 x15 (gt x16 (W (x15-1))))) (W (x15-1)) (gt x16 x15)))))))) else(k10 x11 x12 x13 (W (x14+1)) x16)))))
def zjt (φ:Nat):Nat->Int->Int->(α->α->Option Int)->Int->(List α)->Option (List α)
 | 0,_,_,_,_,_=>none
 | n10+1,x5,x6,x7,x8,x9=>(if(decide ((x8:Int)<x6))=true then(zpr φ (zjt φ n10) φ x5 x6 x7 x8 x8 x9) else(some x9))
def gins (φ:Nat) (x1 :(List α)) (x2:Int) (x3:Int) (x4 :(α->α->Option Int)):Option (List α):=(zjt φ φ x2 x3 x4 (W (x2+1)) x1)
def zmr (φ:Nat):Nat->Int->Int->Int->Int->(List α)->Option (List α)
 | 0,_,_,_,_,_=>none
 | n11+1,x6,x7,x8,x9,x10=>(if(decide ((x9:Int)<x8))=true then(ck ((0:Int)<=(W (x7+x9))/\(W (x7+x9)) <(x10.length:Int)) (ck ((0:Int)<=(W (x6+x9))/\(W (x6+x9)) <(x10.length:Int)) (ck ((0:Int)<=(W (x6+x9))/\(W (x6+x9)) <(x10.length:Int)) (ck ((0:Int)<=(W (x7+x9))/\(W (x7+x9)) <(((z04 x10 (W (x6+x9)) (gt x10 (W (x7+x9))))).length:Int)) ((zmr φ n11) x6 x7 x8 (W (x9+1)) ((z04 ((z04 x10 (W (x6+x9)) (gt x10 (W (x7+x9))))) (W (x7+x9)) (gt x10 (W (x6+x9)))))))))) else(some x10))
def yf7 (φ:Nat) (x1 :(List α)) (x2:Int) (x3:Int) (x4:Int) (x5 :(α->α->Option Int)):Option (List α):=(zmr φ φ x2 x3 x4 0 x1)
def zqm (φ:Nat):Nat->Int->(α->α->Option Int)->Int->Int->(List α)->Option (List α)
 | 0,_,_,_,_,_=>none
 | n11+1,x6,x7,x8,x9,x10=>(if((x8:Int) !=x9)=true then(if(decide ((x9:Int)<x8))=true then((yf7 φ x10 (W (x6-x8)) x6 x9 x7).bind fun y12=>((zqm φ n11) x6 x7 (W (x8-x9)) x9 y12)) else((yf7 φ x10 (W (x6-x8)) ((W ((W (x6+x9))-x8))) x8 x7).bind fun y13=>((zqm φ n11) x6 x7 x8 (W (x9-x8)) y13))) else((yf7 φ x10 (W (x6-x8)) x6 x8 x7).bind fun y14=>(some y14)))
def grot (φ:Nat) (x1 :(List α)) (x2:Int) (x3:Int) (x4:Int) (x5 :(α->α->Option Int)):Option (List α):=(zqm φ φ x3 x5 (W (x3-x2)) (W (x4-x3)) x1)
def znp (φ:Nat):Nat->Int->Int->(List α)->Option (List α)
 | 0,_,_,_=>none
 | n16+1,x13,x14,x15=>(if(decide ((x14:Int) <(W (x13-1))))=true then(ck ((0:Int)<=(W (x14+1))/\(W (x14+1)) <(x15.length:Int)) (ck ((0:Int)<=x14/\x14 <(x15.length:Int)) (ck ((0:Int)<=x14/\x14 <(x15.length:Int)) (ck ((0:Int)<=(W (x14+1))/\(W (x14+1)) <(((z04 x15 x14 (gt x15 (W (x14+1))))).length:Int)) ((znp φ n16) x13 (W (x14+1)) ((z04 ((z04 x15 x14 (gt x15 (W (x14+1))))) (W (x14+1)) (gt x15 x14)))))))) else(some x15))
def ze8 (φ:Nat):Nat->Int->(α->α->Option Int)->Int->Int->(List α)->Option (List α)
 | 0,_,_,_,_,_=>none
 | n11+1,x6,x7,x8,x9,x10=>(if(decide ((x8:Int)<x9))=true then(if 0<=(1:Int) then(ck ((0:Int)<=(W ((((U ((W (x8+x9)))):Int).fdiv (2 ^ (min (1:Int).toNat 64)))))/\(W ((((U ((W (x8+x9)))):Int).fdiv (2 ^ (min (1:Int).toNat 64))))) <(x10.length:Int)) (ck ((0:Int)<=x6/\x6 <(x10.length:Int)) ((x7 (((gt x10 ((W ((((U ((W (x8+x9)))):Int).fdiv (2 ^ (min (1:Int).toNat 64))))))))) (gt x10 x6)).bind fun y12=>(if(decide ((y12:Int)<0))=true then((ze8 φ n11) x6 x7 ((W ((W ((((U ((W (x8+x9)))):Int).fdiv (2 ^ (min (1:Int).toNat 64)))))+1))) x9 x10) else((ze8 φ n11) x6 x7 x8 ((W ((((U ((W (x8+x9)))):Int).fdiv (2 ^ (min (1:Int).toNat 64)))))) x10))))) else none) else(znp φ φ x8 x6 x10))
def znr (φ:Nat):Nat->Int->Int->(List α)->Option (List α)
 | 0,_,_,_=>none
 | n27+1,x24,x25,x26=>(if(decide ((x24:Int)<x25))=true then(ck ((0:Int)<=(W (x25-1))/\(W (x25-1)) <(x26.length:Int)) (ck ((0:Int)<=x25/\x25 <(x26.length:Int)) (ck ((0:Int)<=x25/\x25 <(x26.length:Int)) (ck ((0:Int)<=(W (x25-1))/\(W (x25-1)) <(((z04 x26 x25 (gt x26 (W (x25-1))))).length:Int)) ((znr φ n27) x24 (W (x25-1)) ((z04 ((z04 x26 x25 (gt x26 (W (x25-1))))) (W (x25-1)) (gt x26 x25)))))))) else(some x26))
def ze7 (φ:Nat):Nat->Int->(α->α->Option Int)->Int->Int->(List α)->Option (List α)
 | 0,_,_,_,_,_=>none
 | n22+1,x17,x18,x19,x20,x21=>(if(decide ((x19:Int)<x20))=true then(if 0<=(1:Int) then(ck ((0:Int)<=x17/\x17 <(x21.length:Int)) (ck ((0:Int)<=(W ((((U ((W (x19+x20)))):Int).fdiv (2 ^ (min (1:Int).toNat 64)))))/\(W ((((U ((W (x19+x20)))):Int).fdiv (2 ^ (min (1:Int).toNat 64))))) <(x21.length:Int)) ((x18 (gt x21 x17) (((gt x21 ((W ((((U ((W (x19+x20)))):Int).fdiv (2 ^ (min (1:Int).toNat 64)))))))))).bind fun y23=>(if(!(decide ((y23:Int)<0)))=true then((ze7 φ n22) x17 x18 ((W ((W ((((U ((W (x19+x20)))):Int).fdiv (2 ^ (min (1:Int).toNat 64)))))+1))) x20 x21) else((ze7 φ n22) x17 x18 x19 ((W ((((U ((W (x19+x20)))):Int).fdiv (2 ^ (min (1:Int).toNat 64)))))) x21))))) else none) else(znr φ φ x19 x17 x21))
def zqo (φ:Nat) (k0 :((List α)->Int->Int->Int->(α->α->Option Int)->Option (List α))) (x58:Int) (x59 :(α->α->Option Int)) (x60:Int) (x61:Int) (x62 :(List α)):Option (List α):=(if((decide ((x60:Int)<x61))&&(decide ((x61:Int)<x58)))=true then((k0 x62 x60 x61 x58 x59).bind fun y64=>(some y64)) else(some x62))
def zjn (φ:Nat) (k0 :((List α)->Int->Int->Int->(α->α->Option Int)->Option (List α))) (x50:Int) (x51:Int) (x52 :(α->α->Option Int)) (x53:Int) (x54:Int) (x55:Int) (x56 :(List α)):Option (List α):=(if((decide ((x50:Int)<x54))&&(decide ((x54:Int)<x53)))=true then((k0 x56 x50 x54 x53 x52).bind fun y65=>(zqo φ k0 x51 x52 x53 x55 y65)) else(zqo φ k0 x51 x52 x53 x55 x56))
def zeg (φ:Nat) (k0 :((List α)->Int->Int->Int->(α->α->Option Int)->Option (List α))):Nat->Int->Int->Int->(α->α->Option Int)->Int->Int->Int->Int->Int->(List α)->Option (List α)
 | 0,_,_,_,_,_,_,_,_,_,_=>none
 | n48+1,x38,x39,x40,x41,x42,x43,x44,x45,x46,x47=>(if(decide ((x44:Int)<x45))=true then(if 0<=(1:Int) then(ck ((0:Int)<=(W (x46 -(W ((((U ((W (x44+x45)))):Int).fdiv (2 ^ (min (1:Int).toNat 64)))))))/\(W (x46 -(W ((((U ((W (x44+x45)))):Int).fdiv (2 ^ (min (1:Int).toNat 64))))))) <(x47.length:Int)) (ck ((0:Int)<=(W ((((U ((W (x44+x45)))):Int).fdiv (2 ^ (min (1:Int).toNat 64)))))/\(W ((((U ((W (x44+x45)))):Int).fdiv (2 ^ (min (1:Int).toNat 64))))) <(x47.length:Int)) ((x41 (((gt x47 ((W (x46 -(W ((((U ((W (x44+x45)))):Int).fdiv (2 ^ (min (1:Int).toNat 64))))))))))) (((gt x47 ((W ((((U ((W (x44+x45)))):Int).fdiv (2 ^ (min (1:Int).toNat 64)))))))))).bind fun y49=>(if(!(decide ((y49:Int)<0)))=true then((zeg φ k0 n48) x38 x39 x40 x41 x42 x43 ((W ((W ((((U ((W (x44+x45)))):Int).fdiv (2 ^ (min (1:Int).toNat 64)))))+1))) x45 x46 x47) else((zeg φ k0 n48) x38 x39 x40 x41 x42 x43 x44 ((W ((((U ((W (x44+x45)))):Int).fdiv (2 ^ (min (1:Int).toNat 64)))))) x46 x47))))) else none) else(if((decide ((x44:Int)<x39))&&(decide ((x39:Int) <(W (x43-x44)))))=true then((grot φ x47 x44 x39 (W (x43-x44)) x41).bind fun y66=>(zjn φ k0 x38 x40 x41 x42 x44 (W (x43-x44)) y66)) else(zjn φ k0 x38 x40 x41 x42 x44 (W (x43-x44)) x47)))
def znq (φ:Nat) (k0 :((List α)->Int->Int->Int->(α->α->Option Int)->Option (List α))) (x28:Int) (x29:Int) (x30:Int) (x31 :(α->α->Option Int)) (x32:Int) (x33:Int) (x34:Int) (x35:Int) (x36 :(List α)):Option (List α):=(zeg φ k0 φ x28 x29 x30 x31 x32 x33 x34 x35 (W (x33-1)) x36)
def gsym (φ:Nat):Nat->(List α)->Int->Int->Int->(α->α->Option Int)->Option (List α)
 | 0,_,_,_,_,_=>none
 | d+1,x1,x2,x3,x4,x5=>(if(((W (x3-x2)):Int)==1)=true then(ze8 φ φ x2 x5 x3 x4 x1) else(if(((W (x4-x3)):Int)==1)=true then(ze7 φ φ x3 x5 x2 x3 x1) else(if 0<=(1:Int) then(if(decide (((W ((((U ((W (x2+x4)))):Int).fdiv (2 ^ (min (1:Int).toNat 64))))):Int)<x3))=true then(znq φ (gsym φ d) x2 x3 x4 x5 ((W ((((U ((W (x2+x4)))):Int).fdiv (2 ^ (min (1:Int).toNat 64)))))) ((W ((W ((((U ((W (x2+x4)))):Int).fdiv (2 ^ (min (1:Int).toNat 64)))))+x3))) ((W ((W ((W ((((U ((W (x2+x4)))):Int).fdiv (2 ^ (min (1:Int).toNat 64)))))+x3))-x4))) ((W ((((U ((W (x2+x4)))):Int).fdiv (2 ^ (min (1:Int).toNat 64)))))) x1) else(znq φ (gsym φ d) x2 x3 x4 x5 ((W ((((U ((W (x2+x4)))):Int).fdiv (2 ^ (min (1:Int).toNat 64)))))) ((W ((W ((((U ((W (x2+x4)))):Int).fdiv (2 ^ (min (1:Int).toNat 64)))))+x3))) x2 x3 x1)) else none)))
def zqf (φ:Nat) (k17 :(Int->(α->α->Option Int)->Int->(List α)->Option (List α))):Nat->Int->(α->α->Option Int)->Int->Int->Int->(List α)->Option (List α)
 | 0,_,_,_,_,_,_=>none
 | n24+1,x18,x19,x20,x21,x22,x23=>(if(decide ((x22:Int)<=x18))=true then((gsym φ φ x23 x21 (W (x21+x20)) x22 x19).bind fun y25=>((zqf φ k17 n24) x18 x19 x20 x22 ((W (x22 +(W (2*x20))))) y25)) else(if(decide (((W (x21+x20)):Int)<x18))=true then((gsym φ φ x23 x21 (W (x21+x20)) x18 x19).bind fun y26=>(k17 x18 x19 (W (x20*2)) y26)) else(k17 x18 x19 (W (x20*2)) x23)))
def zcn (φ:Nat):Nat->Int->(α->α->Option Int)->Int->(List α)->Option (List α)
 | 0,_,_,_,_=>none
 | n17+1,x13,x14,x15,x16=>(if(decide ((x15:Int)<x13))=true then(zqf φ (zcn φ n17) φ x13 x14 x15 0 (W (2*x15)) x16) else(some x16))
def znf (φ:Nat):Nat->Int->(α->α->Option Int)->Int->Int->Int->(List α)->Option (List α)
 | 0,_,_,_,_,_,_=>none
 | n10+1,x4,x5,x6,x7,x8,x9=>(if(decide ((x8:Int)<=x4))=true then((gins φ x9 x7 x8 x5).bind fun y11=>((znf φ n10) x4 x5 x6 x8 (W (x8+x6)) y11)) else((gins φ x9 x7 x4 x5).bind fun y12=>(zcn φ φ x4 x5 x6 y12)))
def yqa (φ:Nat) (x1 :(List α)) (x2:Int) (x3 :(α->α->Option Int)):Option (List α):=(znf φ φ x2 x3 20 0 20 x1)
def yct (φ:Nat) (x1 :(List α)) (x2 :(α->α->Option Int)):Option (List α):=((yqa φ x1 (x1.length:Int) x2).bind fun y3=>(some y3))
theorem zhy {β:Type} {z:β} {p:Prop} [Decidable p] {x:Option β} (h:p):zc z p x=x:=if_pos h
variable {D:α->Prop} {lt:α->α->Bool} {y:α->α->Option Int}
theorem ynj (hy:Cmp D y lt) (φ:Nat) (k:Int->Int->(α->α->Option Int)->Int->List α->Option (List α)) (b i0:Int) (P:List α) (x:α) (hx:D x):∀(n:Nat) (S1 S2:List α),(∀ z∈S1,D z)->P.length+S1.length+S2.length<=1000000->S1.length<n->
  ∃ A B,S1=A++B/\(∀ z∈B,lt x z=true)/\(A = []\/∃ A' z,A=A'++[z]/\lt x z=false)/\
   zpr φ k n (P.length:Int) b y i0 ((P.length:Int)+S1.length) (P++S1++x::S2)=k (P.length:Int) b y (W (i0+1)) (P++A++x::(B++S2)):=by
 intro n
 induction n with
 | zero=>intro S1 S2 _ _ h; omega
 | succ n ih=>
  intro S1 S2 hD hl hn
  rcases List.eq_nil_or_concat S1 with rfl |⟨S,z,rfl⟩
  ·refine⟨[],[],rfl,by simp,.inl rfl,?_⟩
   have h0:decide ((P.length:Int) <(P.length:Int) +(([]:List α).length:Int))=false:=by simp
   rw [zpr,h0]
   simp [ck,zc]
  ·simp only [List.concat_eq_append] at hD hl hn ⊢
   simp only [List.length_append,List.length_cons,List.length_nil] at hl hn
   have e1:P++(S++[z])++x::S2 =(P++S++[z])++x::S2:=by simp
   have e2:P++(S++[z])++x::S2 =(P++S)++z::(x::S2):=by simp
   have g1:gt (P++(S++[z])++x::S2) ((P.length:Int) +((S++[z]).length:Int))=x:=by
    rw [e1]; exact zlr (by simp <;> omega)
   have hw:W ((P.length:Int) +((S++[z]).length:Int)-1) =(P.length:Int)+S.length:=by
    rw [W_id (by simp; omega) (by simp; omega)]; simp; omega
   have g2:gt (P++(S++[z])++x::S2) ((P.length:Int) +(S.length:Int))=z:=by
    rw [e2]; exact zlr (by simp)
   have h0:decide ((P.length:Int) <(P.length:Int) +((S++[z]).length:Int))=true:=by simp; omega
   have hlen :((P++(S++[z])++x::S2).length:Int)=P.length+S.length+1+1+S2.length:=by simp; omega
   obtain⟨w,hw1,hw2⟩:=hy x z hx (hD z (by simp))
   have s1:z04 (P++(S++[z])++x::S2) ((P.length:Int) +((S++[z]).length:Int)) z =(P++S)++z::(z::S2):=by
    rw [e1,zso (by simp <;> omega)]; simp
   have s2:z04 ((P++S)++z::(z::S2)) ((P.length:Int) +(S.length:Int)) x=P++S++x::(z::S2):=zso (by simp)
   rw [zpr,hw,h0,g1,g2,hw1,hlen]
   rw [z8 (fun _=>⟨by omega,by simp; omega⟩),z8 (fun _=>⟨by omega,by omega⟩),zhy rfl]
   simp only [Option.bind_some,hw2,Bool.true_and]
   cases hlt:lt x z with
   | true=>
    rw [if_pos rfl,z8 ⟨by omega,by omega⟩,z8 ⟨by omega,by simp; omega⟩,z8 ⟨by omega,by simp; omega⟩,s1]
    rw [z8 ⟨by omega,by simp; omega⟩,s2]
    obtain⟨A,B,q1,q2,q3,q4⟩:=ih S (z::S2) (fun u hu=>hD u (by simp [hu])) (by simp; omega) (by omega)
    refine⟨A,B++[z],by rw [q1]; simp,?_,q3,?_⟩
    ·intro u hu
     rcases List.mem_append.1 hu with h | h
     ·exact q2 u h
     ·simp at h; rw [h]; exact hlt
    ·rw [q4]; simp
   | false=>
    rw [if_neg (by simp)]
    exact⟨S++[z],[],by simp,by simp,.inr ⟨S,z,rfl,hlt⟩,by simp⟩
theorem yju (hs:Swo lt) (hy:Cmp D y lt) (φ:Nat) (P Q:List α):∀(n:Nat) (S R:List α),S≠[]->Srt lt S->(∀ z∈S,D z)->(∀ z∈R,D z)->P.length+S.length+R.length+Q.length<=1000000->P.length+S.length+R.length<φ->R.length<n->
  ∃ S',Srt lt S'/\Stb lt (S++R) S'/\zjt φ n (P.length:Int) ((P.length:Int)+S.length+R.length) y ((P.length:Int)+S.length) (P++S++R++Q)=some (P++S'++Q):=by
 intro n
 induction n with
 | zero=>intro S R _ _ _ _ _ _ h; omega
 | succ n ih=>
  intro S R hne hS hD hD' hl hφ hn
  cases R with
  | nil=>
   refine⟨S,hS,by simpa using Stb.refl S,?_⟩
   rw [zjt,if_neg (by simp)]
   simp
  | cons x R=>
   simp only [List.length_cons] at hl hφ hn
   rw [zjt,if_pos (by simp; omega)]
   obtain⟨A,B,q1,q2,q3,q4⟩:=ynj hy φ (zjt φ n) ((P.length:Int)+S.length +(x::R).length) ((P.length:Int)+S.length) P x (hD' x (by simp)) φ S (R++Q) hD (by simp; omega) (by omega)
   rw [show P++S++x::R++Q=P++S++x::(R++Q) by simp,q4]
   have hA:∀ u∈A,lt x u=false:=by
    rcases q3 with rfl |⟨A',z,rfl,hz⟩
    ·simp
    ·intro u hu
     rcases List.mem_append.1 hu with h | h
     ·subst q1
      have:=(hS.parts.1).parts.2.2 u h z (by simp)
      exact hs.ntr _ _ _ hz this
     ·simp at h; rw [h]; exact hz
   have hS2:Srt lt (A++x::B):=by
    subst q1
    refine hS.parts.1.app (List.pairwise_cons.2 ⟨fun u hu=>hs.asym _ _ (q2 u hu),hS.parts.2.1⟩) fun u hu v hv=>?_
    rcases List.mem_cons.1 hv with h | h
    ·subst h; exact hA u hu
    ·exact hS.parts.2.2 u hu v h
   obtain⟨S',p1,p2,p3⟩:=ih (A++x::B) R (by simp) hS2 (fun z hz=>by
    subst q1
    simp only [List.mem_append,List.mem_cons] at hz
    rcases hz with h | h | h
    ·exact hD z (by simp [h])
    ·subst h; exact hD' _ (by simp)
    ·exact hD z (by simp [h])) (fun z hz=>hD' z (by simp [hz])) (by subst q1; simp at hl ⊢; omega) (by subst q1; simp at hφ ⊢; omega) (by omega)
   refine⟨S',p1,?_,?_⟩
   ·have h1:Stb lt (S++[x]) (A++[x]++B):=by subst q1; exact yci hs q2
    have:=h1.app (Stb.refl R)
    refine Stb.trans ?_ (Stb.trans this ?_)
    ·simpa using Stb.refl (lt:=lt) (S++x::R)
    ·simpa using p2
   ·rw [<- p3]
    have e1:W ((P.length:Int)+S.length+1) =(P.length:Int)+S.length+1:=W_id (by omega) (by omega)
    have hSl:S.length=A.length+B.length:=by rw [q1]; simp
    have e2 :(P.length:Int)+S.length+1=P.length +(A++x::B).length:=by simp; omega
    have e3 :(P.length:Int)+S.length +(x::R).length=P.length +(A++x::B).length+R.length:=by simp; omega
    have e4:P++A++x::(B++(R++Q))=P++(A++x::B)++R++Q:=by simp
    rw [e1,e2,e3,e4]
theorem yeo (hs:Swo lt) (hy:Cmp D y lt) (φ:Nat) (P X Q:List α) (hD:∀ z∈X,D z) (hl:P.length+X.length+Q.length<=1000000) (hφ:P.length+X.length<φ) :
  ∃ X',Srt lt X'/\Stb lt X X'/\gins φ (P++X++Q) (P.length:Int) ((P.length:Int)+X.length) y=some (P++X'++Q):=by
 unfold gins
 rw [W_id (x:=(P.length:Int)+1) (by omega) (by omega)]
 cases X with
 | nil=>
  refine⟨[],List.Pairwise.nil,Stb.refl _,?_⟩
  obtain⟨n,rfl⟩:∃ n,φ=n+1:=⟨φ-1,by omega⟩
  rw [zjt,if_neg (by simp; omega)]
 | cons x R=>
  simp only [List.length_cons] at hl hφ
  obtain⟨S',p1,p2,p3⟩:=yju hs hy φ P Q φ [x] R (by simp) (List.pairwise_singleton _ _) (fun z hz=>hD z (by simp at hz; simp [hz])) (fun z hz=>hD z (by simp [hz])) (by simp; omega) (by simp; omega) (by omega)
  refine⟨S',p1,by simpa using p2,?_⟩
  rw [<- p3]
  simp only [List.append_assoc,List.cons_append,List.length_cons,List.length_nil,List.nil_append]
  congr 1
  simp; omega
theorem ypt (φ:Nat) (P Z Q:List α) (c:Nat):∀(n:Nat) (X1 X2 Y1 Y2:List α),X1.length=Y1.length->X2.length=Y2.length->c=X1.length+X2.length->P.length+c+Z.length+c+Q.length<=1000000->X2.length<n->
  zmr φ n (P.length:Int) ((P.length:Int)+c+Z.length) (c:Int) (X1.length:Int) (P++Y1++X2++Z++X1++Y2++Q)=some (P++Y1++Y2++Z++X1++X2++Q):=by
 intro n
 induction n with
 | zero=>intro X1 X2 Y1 Y2 _ _ _ _ h; omega
 | succ n ih=>
  intro X1 X2 Y1 Y2 h1 h2 hc hl hn
  cases X2 with
  | nil=>
   have:Y2 = []:=List.eq_nil_of_length_eq_zero (by simpa using h2.symm)
   subst this
   simp only [List.length_nil,Nat.add_zero] at hc
   rw [zmr,if_neg (by simp; omega)]
  | cons x X2=>
   cases Y2 with
   | nil=>simp at h2
   | cons w Y2=>
    simp only [List.length_cons,Nat.add_right_cancel_iff] at h2 hc hn
    have w1:W ((P.length:Int)+c+Z.length+X1.length) =(P.length:Int)+c+Z.length+X1.length:=W_id (by omega) (by omega)
    have w2:W ((P.length:Int)+X1.length) =(P.length:Int)+X1.length:=W_id (by omega) (by omega)
    have w3:W ((X1.length:Int)+1) =(X1.length:Int)+1:=W_id (by omega) (by omega)
    have e1:P++Y1++x::X2++Z++X1++w::Y2++Q =(P++Y1)++x::(X2++Z++X1++w::Y2++Q):=by simp
    have e2:P++Y1++x::X2++Z++X1++w::Y2++Q =(P++Y1++x::X2++Z++X1)++w::(Y2++Q):=by simp
    have g1:gt (P++Y1++x::X2++Z++X1++w::Y2++Q) ((P.length:Int)+X1.length)=x:=by rw [e1]; exact zlr (by simp; omega)
    have g2:gt (P++Y1++x::X2++Z++X1++w::Y2++Q) ((P.length:Int)+c+Z.length+X1.length)=w:=by rw [e2]; exact zlr (by simp; omega)
    have s1:z04 (P++Y1++x::X2++Z++X1++w::Y2++Q) ((P.length:Int)+X1.length) w =(P++Y1)++w::(X2++Z++X1++w::Y2++Q):=by rw [e1]; exact zso (by simp; omega)
    have e3 :(P++Y1)++w::(X2++Z++X1++w::Y2++Q) =(P++Y1++w::X2++Z++X1)++w::(Y2++Q):=by simp
    have s2:z04 ((P++Y1++w::X2++Z++X1)++w::(Y2++Q)) ((P.length:Int)+c+Z.length+X1.length) x =(P++Y1++w::X2++Z++X1)++x::(Y2++Q):=zso (by simp; omega)
    have e4 :(P++Y1++w::X2++Z++X1)++x::(Y2++Q)=P++(Y1++[w])++X2++Z++(X1++[x])++Y2++Q:=by simp
    have hlen :((P++Y1++x::X2++Z++X1++w::Y2++Q).length:Int)=P.length+c+Z.length+c+Q.length:=by simp; omega
    have hlen2 :(((P++Y1++w::X2++Z++X1)++w::(Y2++Q)).length:Int)=P.length+c+Z.length+c+Q.length:=by simp; omega
    rw [zmr,if_pos (by simp; omega),w1,w2,w3,g1,g2,s1,e3,s2,e4,hlen,hlen2]
    rw [z8 ⟨by omega,by omega⟩,z8 ⟨by omega,by omega⟩,z8 ⟨by omega,by omega⟩,z8 ⟨by omega,by omega⟩]
    have:=ih (X1++[x]) X2 (Y1++[w]) Y2 (by simp [h1]) h2 (by simp; omega) hl (by omega)
    have e5 :(((X1++[x]).length:Nat):Int) =(X1.length:Int)+1:=by simp
    rw [e5] at this
    rw [this]
    simp
theorem zz3 (φ:Nat) (P X Z Y Q:List α) (y:α->α->Option Int) (h:X.length=Y.length) (hl:P.length+X.length+Z.length+X.length+Q.length<=1000000) (hφ:X.length<φ) :
  yf7 φ (P++X++Z++Y++Q) (P.length:Int) ((P.length:Int)+X.length+Z.length) (X.length:Int) y=some (P++Y++Z++X++Q):=by
 have:=ypt φ P Z Q X.length φ [] X [] Y rfl h (by simp) hl hφ
 simpa [yf7] using this
theorem yr9 (φ:Nat) (y:α->α->Option Int):∀(n:Nat) (P X Y Q:List α),X≠[]->Y≠[]->P.length+X.length+Y.length+Q.length<=1000000->X.length+Y.length<=n->X.length+Y.length<φ->
  zqm φ n ((P.length:Int)+X.length) y (X.length:Int) (Y.length:Int) (P++X++Y++Q)=some (P++Y++X++Q):=by
 intro n
 induction n with
 | zero=>intro P X Y Q hX hY _ h; have:=List.length_pos_iff.2 hX; omega
 | succ n ih=>
  intro P X Y Q hX hY hl hn hφ
  have hX0:=List.length_pos_iff.2 hX
  have hY0:=List.length_pos_iff.2 hY
  have w1:W ((P.length:Int)+X.length-X.length) =(P.length:Int):=by rw [W_id (by omega) (by omega)]; omega
  rw [zqm,w1]
  by_cases he:X.length=Y.length
  ·rw [if_neg (by simp [he])]
   have:=zz3 φ P X [] Y Q y he (by simp; omega) (by omega)
   simp only [List.append_nil,List.length_nil,Int.ofNat_zero,Int.add_zero] at this
   rw [this]; rfl
  ·rw [if_pos (by simp; omega)]
   by_cases hlt:Y.length<X.length
   ·rw [if_pos (by simp; omega)]
    obtain⟨X1,X2,rfl,h1⟩:∃ X1 X2,X=X1++X2/\X1.length=Y.length:=⟨X.take Y.length,X.drop Y.length,(List.take_append_drop _ _).symm,by simp; omega⟩
    simp only [List.length_append] at hl hn hφ hlt hX0 he
    have e1:P++(X1++X2)++Y++Q=P++X1++X2++Y++Q:=by simp
    have e2 :(P.length:Int) +((X1++X2).length:Nat) =(P.length:Int)+X1.length+X2.length:=by simp; omega
    rw [e1,e2,<- h1,zz3 φ P X1 X2 Y Q y h1 (by omega) (by omega)]
    simp only [Option.bind_some]
    have w2:W (((X1++X2).length:Int)-X1.length) =(X2.length:Int):=by simp; rw [W_id (by omega) (by omega)]; omega
    rw [w2]
    have:=ih (P++Y) X2 X1 Q (by intro e; subst e; simp at hlt; omega) (by intro e; subst e; simp at h1; omega) (by simp; omega) (by omega) (by omega)
    have e3 :(((P++Y).length:Nat):Int)+X2.length =(P.length:Int)+X1.length+X2.length:=by simp; omega
    rw [e3] at this
    rw [this]
    simp
   ·rw [if_neg (by simp; omega)]
    obtain⟨Y1,Y2,rfl,h1⟩:∃ Y1 Y2,Y=Y1++Y2/\Y2.length=X.length:=⟨Y.take (Y.length-X.length),Y.drop (Y.length-X.length),(List.take_append_drop _ _).symm,by simp; omega⟩
    simp only [List.length_append] at hl hn hφ hlt hY0 he
    have e1:P++X++(Y1++Y2)++Q=P++X++Y1++Y2++Q:=by simp
    have w3:W ((P.length:Int)+X.length +((Y1++Y2).length:Nat)) =(P.length:Int)+X.length+Y1.length+Y2.length:=by simp; rw [W_id (by omega) (by omega)]; omega
    have w4:W ((P.length:Int)+X.length+Y1.length+Y2.length-X.length) =(P.length:Int)+X.length+Y1.length:=by rw [W_id (by omega) (by omega)]; omega
    have w5:W (((Y1++Y2).length:Int)-X.length) =(Y1.length:Int):=by simp; rw [W_id (by omega) (by omega)]; omega
    rw [e1,w3,w4,w5,zz3 φ P X Y1 Y2 Q y h1.symm (by omega) (by omega)]
    simp only [Option.bind_some]
    have:=ih P Y2 Y1 (X++Q) (by intro e; subst e; simp at h1; omega) (by intro e; subst e; simp at h1 hlt he; omega) (by simp; omega) (by omega) (by omega)
    rw [h1] at this
    have e2:P++Y2++Y1++X++Q=P++Y2++Y1++(X++Q):=by simp
    rw [e2,this]
    simp
theorem ymh (φ:Nat) (P X Y Q:List α) (y:α->α->Option Int) (hX:X≠[]) (hY:Y≠[]) (hl:P.length+X.length+Y.length+Q.length<=1000000) (hφ:X.length+Y.length<φ) :
  grot φ (P++X++Y++Q) (P.length:Int) ((P.length:Int)+X.length) ((P.length:Int)+X.length+Y.length) y=some (P++Y++X++Q):=by
 have:=yr9 φ y φ P X Y Q hX hY hl (by omega) hφ
 rw [<- this]
 unfold grot
 have w1:W ((P.length:Int)+X.length-P.length) =(X.length:Int):=by rw [W_id (by omega) (by omega)]; omega
 have w2:W ((P.length:Int)+X.length+Y.length -((P.length:Int)+X.length)) =(Y.length:Int):=by rw [W_id (by omega) (by omega)]; omega
 rw [w1,w2]
end
end Px
end
section
namespace Px
open Go
set_option maxHeartbeats 4000000
section
variable {α:Type} [Inhabited α]
variable {D:α->Prop} {lt:α->α->Bool} {y:α->α->Option Int}
theorem p21 :(2:Int) ^ (min (1:Int).toNat 64)=2:=by decide
theorem yhh (φ:Nat) (x:α):∀(n:Nat) (P C E:List α),P.length+C.length+E.length<=999999->C.length<n->
  znp φ n ((P.length:Int)+C.length+1) (P.length:Int) (P++x::(C++E))=some (P++C++x::E):=by
 intro n
 induction n with
 | zero=>intro P C E _ h; omega
 | succ n ih=>
  intro P C E hl hn
  have w0:W ((P.length:Int)+C.length+1-1) =(P.length:Int)+C.length:=by rw [W_id (by omega) (by omega)]; omega
  rw [znp,w0]
  cases C with
  | nil=>rw [if_neg (by simp)]; simp
  | cons w C=>
   simp only [List.length_cons] at hl hn
   have w1:W ((P.length:Int)+1) =(P.length:Int)+1:=W_id (by omega) (by omega)
   have e1:P++x::(w::C++E) =(P++[x])++w::(C++E):=by simp
   have g1:gt (P++x::(w::C++E)) (P.length:Int)=x:=zlr rfl
   have g2:gt (P++x::(w::C++E)) ((P.length:Int)+1)=w:=by rw [e1]; exact zlr (by simp)
   have s1:z04 (P++x::(w::C++E)) (P.length:Int) w=P++w::(w::C++E):=zso rfl
   have e2:P++w::(w::C++E) =(P++[w])++w::(C++E):=by simp
   have s2:z04 ((P++[w])++w::(C++E)) ((P.length:Int)+1) x =(P++[w])++x::(C++E):=zso (by simp)
   have hlen :((P++x::(w::C++E)).length:Int)=P.length+C.length+E.length+2:=by simp; omega
   have hlen2 :(((P++[w])++w::(C++E)).length:Int)=P.length+C.length+E.length+2:=by simp; omega
   rw [if_pos (by simp; omega),w1,g1,g2,s1,e2,s2,hlen,hlen2,z8 ⟨by omega,by omega⟩,z8 ⟨by omega,by omega⟩,z8 ⟨by omega,by omega⟩,z8 ⟨by omega,by omega⟩]
   have:=ih (P++[w]) C E (by simp; omega) (by omega)
   have e3 :(((P++[w]).length:Nat):Int) =(P.length:Int)+1:=by simp
   have e4 :(P.length:Int) +((w::C).length:Nat)+1 =(P.length:Int)+1+C.length+1:=by simp; omega
   rw [e3] at this
   rw [e4,this]
   simp
theorem yd0 (φ:Nat) (x:α) (P:List α):∀(n:Nat) (C E:List α),P.length+C.length+E.length<=999999->C.length<n->
  znr φ n (P.length:Int) ((P.length:Int)+C.length) (P++C++x::E)=some (P++x::(C++E)):=by
 intro n
 induction n with
 | zero=>intro C E _ h; omega
 | succ n ih=>
  intro C E hl hn
  rw [znr]
  rcases zfd C with rfl |⟨S,z,rfl⟩
  ·rw [if_neg (by simp)]; simp
  ·simp only [List.length_append,List.length_cons,List.length_nil] at hl hn
   have w1:W ((P.length:Int) +((S++[z]).length:Nat)-1) =(P.length:Int)+S.length:=by
    rw [W_id (by simp; omega) (by simp; omega)]; simp; omega
   have e1:P++(S++[z])++x::E =(P++S++[z])++x::E:=by simp
   have e2:P++(S++[z])++x::E =(P++S)++z::(x::E):=by simp
   have g1:gt (P++(S++[z])++x::E) ((P.length:Int) +((S++[z]).length:Nat))=x:=by rw [e1]; exact zlr (by simp <;> omega)
   have g2:gt (P++(S++[z])++x::E) ((P.length:Int)+S.length)=z:=by rw [e2]; exact zlr (by simp)
   have s1:z04 (P++(S++[z])++x::E) ((P.length:Int) +((S++[z]).length:Nat)) z =(P++S)++z::(z::E):=by rw [e1,zso (by simp <;> omega)]; simp
   have s2:z04 ((P++S)++z::(z::E)) ((P.length:Int)+S.length) x=P++S++x::(z::E):=zso (by simp)
   have hlen :((P++(S++[z])++x::E).length:Int)=P.length+S.length+E.length+2:=by simp; omega
   have hlen2 :(((P++S)++z::(z::E)).length:Int)=P.length+S.length+E.length+2:=by simp; omega
   rw [if_pos (by simp; omega),w1,g1,g2,s1,s2,hlen,hlen2,z8 ⟨by omega,by omega⟩,z8 ⟨by simp; omega,by simp; omega⟩,z8 ⟨by simp; omega,by simp; omega⟩,z8 ⟨by omega,by omega⟩]
   rw [ih S (z::E) (by simp; omega) (by omega)]
   simp
theorem y8w (hs:Swo lt) (hy:Cmp D y lt) (φ:Nat) (P L Q:List α) (x:α) (hx:D x) (hD:∀ z∈L,D z) (hS:Srt lt L) (hl:P.length+L.length+Q.length<=999998) (hφ:P.length+L.length+2<φ) :
  ∃ R,Srt lt R/\Stb lt (x::L) R/\ze8 φ φ (P.length:Int) y ((P.length:Int)+1) ((P.length:Int)+1+L.length) (P++x::(L++Q))=some (P++R++Q):=by
 have gx:gt (P++x::(L++Q)) (P.length:Int)=x:=zlr rfl
 have hlen :((P++x::(L++Q)).length:Int)=P.length+L.length+Q.length+1:=by simp; omega
 have gL:∀ i:Nat,P.length+1<=i->i<P.length+1+L.length->gt (P++x::(L++Q)) (i:Int)=gt L ((i -(P.length+1):Nat):Int):=by
  intro i h1 h2
  have e:P++x::(L++Q) =(P++[x])++(L++Q):=by simp
  rw [e,zct _ _ _ (by simp; omega),zj9 _ _ _ (by simp; omega) (by simp; omega)]
  congr 1; simp; omega
 obtain⟨c,h1,h2,h3,h4,h5⟩:=y9r (fun n s r=>ze8 φ n (P.length:Int) y s r (P++x::(L++Q)))
  (fun s=>znp φ φ s (P.length:Int) (P++x::(L++Q))) (fun h=>lt (gt (P++x::(L++Q)) (h:Int)) x) (P.length+1+L.length) (P.length+1)
  (by
   intro n s r h0 hlt hR
   have hm :(W ((U (W ((s:Int)+r))).fdiv 2)) =(((s+r) / 2:Nat):Int):=by rw [yea (by omega) (by omega)]; omega
   have hm1:W ((((s+r) / 2:Nat):Int)+1) =(((s+r) / 2+1:Nat):Int):=by rw [W_id (by omega) (by omega)]; simp
   obtain⟨w,hw1,hw2⟩:=hy (gt (P++x::(L++Q)) (((s+r) / 2:Nat):Int)) x (by
    rw [gL _ (by omega) (by omega)]; exact hD _ (z7c (by omega) (by omega))) hx
   show ze8 φ (n+1) _ _ _ _ _=_
   rw [ze8,if_pos (by simp; omega),if_pos (by decide),p21,hm,hm1,hlen,gx,z8 ⟨by omega,by omega⟩,z8 ⟨by omega,by omega⟩,hw1]
   simp only [Option.bind_some,hw2])
  (by
   intro n s
   show ze8 φ (n+1) _ _ _ _ _=_
   rw [ze8,if_neg (by simp)]) φ (P.length+1) (P.length+1+L.length) (Nat.le_refl _) (by omega) (Nat.le_refl _) (by omega)
 obtain⟨C,E,rfl,hC⟩:∃ C E,L=C++E/\C.length=c -(P.length+1):=⟨L.take (c -(P.length+1)),L.drop (c -(P.length+1)),(List.take_append_drop _ _).symm,by simp; omega⟩
 simp only [List.length_append] at hl hφ h2 gL
 have hCx:∀ z∈C,lt z x=true:=by
  intro z hz
  rcases zfd C with rfl |⟨S,w,rfl⟩
  ·cases hz
  ·simp only [List.length_append,List.length_cons,List.length_nil] at hC hz hS gL h2
   have hp:lt w x=true:=by
    rcases h3 with h3 | h3
    ·omega
    ·rw [gL _ (by omega) (by omega)] at h3
     have e:S++[w]++E=S++w::E:=by simp
     rw [e,zlr (by omega)] at h3
     exact h3
   rcases List.mem_append.1 hz with h | h
   ·exact zs3 hs (hS.parts.1.parts.2.2 z h w (by simp)) hp (hs.irr x)
   ·simp at h; rw [h]; exact hp
 have hEx:∀ z∈E,lt z x=false:=by
  intro z hz
  cases E with
  | nil=>cases hz
  | cons w E=>
   simp only [List.length_cons] at h2 gL h4
   have hp:lt w x=false:=by
    rcases h4 with h4 | h4
    ·simp at h4; omega
    ·rw [gL _ (by omega) (by omega),zlr (by omega)] at h4
     exact h4
   rcases List.mem_cons.1 hz with h | h
   ·rw [h]; exact hp
   ·exact hs.ntr _ _ _ ((List.pairwise_cons.1 hS.parts.2.1).1 z h) hp
 have hm:=zor hs (A:=[]) (B:=[x]) (C:=C) (E:=E) (R1:=C) (R2:=x::E) (List.pairwise_singleton _ _) hS (by simpa using hCx) (by simp) hS.parts.1 (by simpa using Stb.refl C) (List.pairwise_cons.2 ⟨hEx,hS.parts.2.1⟩) (by simpa using Stb.refl (x::E))
 refine⟨C++x::E,hm.1,by simpa using hm.2,?_⟩
 have e5 :((P.length:Int)+1 +((C++E).length:Nat)) =((P.length+1 +(C++E).length:Nat):Int):=by simp
 have e6 :((P.length:Int)+1) =((P.length+1:Nat):Int):=by simp
 rw [e5,e6]
 refine h5.trans ?_
 show znp φ φ _ _ _=_
 have e7 :(c:Int) =(P.length:Int)+C.length+1:=by omega
 have e8:P++x::(C++E++Q)=P++x::(C++(E++Q)):=by simp
 rw [e7,e8,yhh φ x φ P C (E++Q) (by simp; omega) (by omega)]
 simp
theorem yd3 (hs:Swo lt) (hy:Cmp D y lt) (φ:Nat) (P L Q:List α) (x:α) (hx:D x) (hD:∀ z∈L,D z) (hS:Srt lt L) (hl:P.length+L.length+Q.length<=999998) (hφ:P.length+L.length+2<φ) :
  ∃ R,Srt lt R/\Stb lt (L++[x]) R/\ze7 φ φ ((P.length:Int)+L.length) y (P.length:Int) ((P.length:Int)+L.length) (P++L++x::Q)=some (P++R++Q):=by
 have gx:gt (P++L++x::Q) ((P.length:Int)+L.length)=x:=zlr (by simp)
 have hlen :((P++L++x::Q).length:Int)=P.length+L.length+Q.length+1:=by simp; omega
 have gL:∀ i:Nat,P.length<=i->i<P.length+L.length->gt (P++L++x::Q) (i:Int)=gt L ((i-P.length:Nat):Int):=by
  intro i h1 h2
  rw [List.append_assoc,zct _ _ _ (by omega),zj9 _ _ _ (by omega) (by omega)]
  congr 1; omega
 obtain⟨c,h1,h2,h3,h4,h5⟩:=y9r (fun n s r=>ze7 φ n ((P.length:Int)+L.length) y s r (P++L++x::Q))
  (fun s=>znr φ φ s ((P.length:Int)+L.length) (P++L++x::Q)) (fun h=>!lt x (gt (P++L++x::Q) (h:Int))) (P.length+L.length) P.length
  (by
   intro n s r h0 hlt hR
   have hm :(W ((U (W ((s:Int)+r))).fdiv 2)) =(((s+r) / 2:Nat):Int):=by rw [yea (by omega) (by omega)]; omega
   have hm1:W ((((s+r) / 2:Nat):Int)+1) =(((s+r) / 2+1:Nat):Int):=by rw [W_id (by omega) (by omega)]; simp
   obtain⟨w,hw1,hw2⟩:=hy x (gt (P++L++x::Q) (((s+r) / 2:Nat):Int)) hx (by
    rw [gL _ (by omega) (by omega)]; exact hD _ (z7c (by omega) (by omega)))
   show ze7 φ (n+1) _ _ _ _ _=_
   rw [ze7,if_pos (by simp; omega),if_pos (by decide),p21,hm,hm1,hlen,gx,z8 ⟨by omega,by omega⟩,z8 ⟨by omega,by omega⟩,hw1]
   simp only [Option.bind_some,hw2])
  (by
   intro n s
   show ze7 φ (n+1) _ _ _ _ _=_
   rw [ze7,if_neg (by simp)]) φ P.length (P.length+L.length) (Nat.le_refl _) (by omega) (Nat.le_refl _) (by omega)
 obtain⟨A,B,rfl,hC⟩:∃ A B,L=A++B/\A.length=c-P.length:=⟨L.take (c-P.length),L.drop (c-P.length),(List.take_append_drop _ _).symm,by simp; omega⟩
 simp only [List.length_append] at hl hφ h2 gL
 have hA:∀ z∈A,lt x z=false:=by
  intro z hz
  rcases zfd A with rfl |⟨S,w,rfl⟩
  ·cases hz
  ·simp only [List.length_append,List.length_cons,List.length_nil] at hC hz hS gL h2
   have hp:lt x w=false:=by
    rcases h3 with h3 | h3
    ·omega
    ·rw [gL _ (by omega) (by omega)] at h3
     have e:S++[w]++B=S++w::B:=by simp
     rw [e,zlr (by omega)] at h3
     simpa using h3
   rcases List.mem_append.1 hz with h | h
   ·exact hs.ntr _ _ _ hp (hS.parts.1.parts.2.2 z h w (by simp))
   ·simp at h; rw [h]; exact hp
 have hB:∀ z∈B,lt x z=true:=by
  intro z hz
  cases B with
  | nil=>cases hz
  | cons w B=>
   simp only [List.length_cons] at h2 gL h4
   have hp:lt x w=true:=by
    rcases h4 with h4 | h4
    ·simp at h4; omega
    ·rw [gL _ (by omega) (by omega),zlr (by omega)] at h4
     simpa using h4
   rcases List.mem_cons.1 hz with h | h
   ·rw [h]; exact hp
   ·exact zs3 hs (hs.irr x) hp ((List.pairwise_cons.1 hS.parts.2.1).1 z h)
 have hm:=zor hs (A:=A) (B:=B) (C:=[x]) (E:=[]) (R1:=A++[x]) (R2:=B) hS (by rw [List.append_nil]; exact List.pairwise_singleton _ x) (by simpa using hB) (by simp)
  (hS.parts.1.app (List.pairwise_singleton _ _) (by simpa using hA)) (Stb.refl _) hS.parts.2.1 (by simpa using Stb.refl B)
 refine⟨A++[x]++B,hm.1,by simpa using hm.2,?_⟩
 have e5 :((P.length:Int) +((A++B).length:Nat)) =((P.length +(A++B).length:Nat):Int):=by simp
 rw [e5] at h5 ⊢
 refine h5.trans ?_
 show znr φ φ _ _ _=_
 have e7 :(c:Int) =(((P++A).length:Nat):Int):=by simp; omega
 have e8:P++(A++B)++x::Q =(P++A)++B++x::Q:=by simp
 have e9 :((P.length +(A++B).length:Nat):Int) =(((P++A).length:Nat):Int)+B.length:=by simp; omega
 rw [e7,e8,e9,yd0 φ x (P++A) φ B Q (by simp; omega) (by omega)]
 simp
def yfp (φ:Nat) (k0:List α->Int->Int->Int->(α->α->Option Int)->Option (List α)) (a m b:Int) (y:α->α->Option Int) (mid n s:Int) (l:List α):Option (List α):=
 (if((decide ((s:Int)<m))&&(decide ((m:Int) <(W (n-s)))))=true then((grot φ l s m (W (n-s)) y).bind fun y66=>(zjn φ k0 a b y mid s (W (n-s)) y66)) else(zjn φ k0 a b y mid s (W (n-s)) l))
theorem yne (hs:Swo lt) (hy:Cmp D y lt) (φ:Nat) (k0:List α->Int->Int->Int->(α->α->Option Int)->Option (List α)) (P L1 L2 Q:List α) (hD1:∀ z∈L1,D z) (hD2:∀ z∈L2,D z) (hS1:Srt lt L1) (hS2:Srt lt L2)
  (a m b mid s0 r0:Nat) (ha:a=P.length) (hm:m=a+L1.length) (hb:b=m+L2.length) (hmid:mid =(a+b) / 2) (hl:b+Q.length<=999998) (hφ:b<φ)
  (h1:1<=L1.length) (h2:1<=L2.length) (hs0 :(mid<m/\s0=mid+m-b/\r0=mid)\/(m<=mid/\s0=a/\r0=m)) :
  ∃ A B C E,L1=A++B/\L2=C++E/\mid+m -(a+A.length)=m+C.length/\(∀ x∈B,∀ y∈C,lt y x=true)/\(∀ x∈A,∀ y∈E,lt y x=false)/\
   zeg φ k0 φ (a:Int) (m:Int) (b:Int) y (mid:Int) ((mid+m:Nat):Int) (s0:Int) (r0:Int) ((mid+m-1:Nat):Int) (P++L1++L2++Q)=yfp φ k0 (a:Int) (m:Int) (b:Int) y (mid:Int) ((mid+m:Nat):Int) ((a+A.length:Nat):Int) (P++L1++L2++Q):=by
 have g1:∀ i:Nat,a<=i->i<m->gt (P++L1++L2++Q) (i:Int)=gt L1 ((i-a:Nat):Int):=by
  intro i q1 q2
  have e:P++L1++L2++Q=P++(L1++(L2++Q)):=by simp
  rw [e,zct _ _ _ (by omega),zj9 _ _ _ (by omega) (by omega)]
  congr 1; omega
 have g2:∀ i:Nat,m<=i->i<b->gt (P++L1++L2++Q) (i:Int)=gt L2 ((i-m:Nat):Int):=by
  intro i q1 q2
  have e:P++L1++L2++Q =(P++L1)++(L2++Q):=by simp
  rw [e,zct _ _ _ (by simp; omega),zj9 _ _ _ (by simp; omega) (by simp; omega)]
  congr 1; simp; omega
 have hlen :((P++L1++L2++Q).length:Int)=b+Q.length:=by simp; omega
 have hW:W ((U (W ((a:Int)+b))).fdiv 2) =(mid:Int):=by rw [yea (by omega) (by omega)]; omega
 have hn:W ((mid:Int)+m) =((mid+m:Nat):Int):=by rw [W_id (by omega) (by omega)]; simp
 have hp:W (((mid+m:Nat):Int)-1) =((mid+m-1:Nat):Int):=by rw [W_id (by omega) (by omega)]; omega
 have hmb:mid<=b:=by omega
 have ham:a<=mid:=by omega
 obtain⟨c,h3,h4,h5,h6,h7⟩:=y9r (fun n s r=>zeg φ k0 n (a:Int) (m:Int) (b:Int) y (mid:Int) ((mid+m:Nat):Int) s r ((mid+m-1:Nat):Int) (P++L1++L2++Q)) (fun s=>yfp φ k0 (a:Int) (m:Int) (b:Int) y (mid:Int) ((mid+m:Nat):Int) s (P++L1++L2++Q))
  (fun c=>!lt (gt (P++L1++L2++Q) ((mid+m-1-c:Nat):Int)) (gt (P++L1++L2++Q) (c:Int))) r0 s0
  (by
   intro n s r q0 hlt hR
   have hm' :(W ((U (W ((s:Int)+r))).fdiv 2)) =(((s+r) / 2:Nat):Int):=by rw [yea (by omega) (by omega)]; omega
   have hm1:W ((((s+r) / 2:Nat):Int)+1) =(((s+r) / 2+1:Nat):Int):=by rw [W_id (by omega) (by omega)]; simp
   have hpc:W (((mid+m-1:Nat):Int) -(((s+r) / 2:Nat):Int)) =((mid+m-1 -(s+r) / 2:Nat):Int):=by rw [W_id (by omega) (by omega)]; omega
   obtain⟨w,hw1,hw2⟩:=hy (gt (P++L1++L2++Q) ((mid+m-1 -(s+r) / 2:Nat):Int)) (gt (P++L1++L2++Q) (((s+r) / 2:Nat):Int))
    (by rw [g2 _ (by omega) (by omega)]; exact hD2 _ (z7c (by omega) (by omega))) (by rw [g1 _ (by omega) (by omega)]; exact hD1 _ (z7c (by omega) (by omega)))
   show zeg φ k0 (n+1) _ _ _ _ _ _ _ _ _ _=_
   rw [zeg,if_pos (by simp; omega),if_pos (by decide),p21,hm',hm1,hpc,hlen,z8 ⟨by omega,by omega⟩,z8 ⟨by omega,by omega⟩,hw1]
   simp only [Option.bind_some,hw2])
  (by
   intro n s
   show zeg φ k0 (n+1) _ _ _ _ _ _ _ _ _ _=_
   rw [zeg,if_neg (by simp)]
   rfl) φ s0 r0 (Nat.le_refl _) (by omega) (Nat.le_refl _) (by omega)
 obtain⟨A,B,rfl,hA⟩:∃ A B,L1=A++B/\A.length=c-a:=⟨L1.take (c-a),L1.drop (c-a),(List.take_append_drop _ _).symm,by simp; omega⟩
 obtain⟨C,E,rfl,hC⟩:∃ C E,L2=C++E/\C.length=mid-c:=⟨L2.take (mid-c),L2.drop (mid-c),(List.take_append_drop _ _).symm,by simp; omega⟩
 simp only [List.length_append] at hm hb g1 g2
 refine⟨A,B,C,E,rfl,rfl,by omega,?_,?_,?_⟩
 ·intro x hx z hz
  rcases zfd C with rfl |⟨S,w,rfl⟩
  ·cases hz
  ·cases B with
   | nil=>cases hx
   | cons x0 B=>
    simp only [List.length_append,List.length_cons,List.length_nil] at hC hm hb g1 g2 hA
    have hp:lt w x0=true:=by
     rcases h6 with h6 | h6
     ·omega
     ·rw [g1 c (by omega) (by omega),g2 (mid+m-1-c) (by omega) (by omega)] at h6
      have e:S++[w]++E=S++w::E:=by simp
      rw [e,zlr (by omega),zlr (by omega)] at h6
      simpa using h6
    have hz1:lt w z=false:=by
     rcases List.mem_append.1 hz with h | h
     ·exact hS2.parts.1.parts.2.2 z h w (by simp)
     ·simp at h; rw [h]; exact hs.irr _
    have hx1:lt x x0=false:=by
     rcases List.mem_cons.1 hx with h | h
     ·rw [h]; exact hs.irr _
     ·exact(List.pairwise_cons.1 hS1.parts.2.1).1 x h
    exact zs3 hs hz1 hp hx1
 ·intro x hx z hz
  rcases zfd A with rfl |⟨S,w,rfl⟩
  ·cases hx
  ·cases E with
   | nil=>cases hz
   | cons e0 E=>
    simp only [List.length_append,List.length_cons,List.length_nil] at hC hm hb g1 g2 hA
    have hp:lt e0 w=false:=by
     rcases h5 with h5 | h5
     ·omega
     ·have e1:mid+m-1 -(c-1)=mid+m-c:=by omega
      rw [e1,g1 (c-1) (by omega) (by omega),g2 (mid+m-c) (by omega) (by omega)] at h5
      have e:S++[w]++B=S++w::B:=by simp
      rw [e,zlr (by omega),zlr (by omega)] at h5
      simpa using h5
    have hz1:lt z e0=false:=by
     rcases List.mem_cons.1 hz with h | h
     ·rw [h]; exact hs.irr _
     ·exact(List.pairwise_cons.1 hS2.parts.2.1).1 z h
    have hx1:lt w x=false:=by
     rcases List.mem_append.1 hx with h | h
     ·exact hS1.parts.1.parts.2.2 x h w (by simp)
     ·simp at h; rw [h]; exact hs.irr _
    exact y9g hs hz1 hp hx1
 ·refine h7.trans ?_
  have e :(c:Int) =((a+A.length:Nat):Int):=by omega
  show yfp φ k0 _ _ _ _ _ _ _ _=_
  rw [e]
theorem y4d (hs:Swo lt) (hy:Cmp D y lt) (φ:Nat):∀(d:Nat) (P L1 L2 Q:List α),(∀ z∈L1,D z)->(∀ z∈L2,D z)->Srt lt L1->Srt lt L2->L1≠[]->L2≠[]->
  P.length+L1.length+L2.length+Q.length<=999998->P.length+L1.length+L2.length+3<φ->L1.length+L2.length<=d->
  ∃ R,Srt lt R/\Stb lt (L1++L2) R/\gsym φ d (P++L1++L2++Q) (P.length:Int) ((P.length:Int)+L1.length) ((P.length:Int)+L1.length+L2.length) y=some (P++R++Q):=by
 intro d
 induction d with
 | zero=>intro P L1 L2 Q _ _ _ _ h1 _ _ _ h; have:=List.length_pos_iff.2 h1; omega
 | succ d ih=>
  intro P L1 L2 Q hD1 hD2 hS1 hS2 hn1 hn2 hl hφ hd
  have hp1:=List.length_pos_iff.2 hn1
  have hp2:=List.length_pos_iff.2 hn2
  rw [gsym]
  have w1:W ((P.length:Int)+L1.length-P.length) =(L1.length:Int):=by rw [W_id (by omega) (by omega)]; omega
  have w2:W ((P.length:Int)+L1.length+L2.length -((P.length:Int)+L1.length)) =(L2.length:Int):=by rw [W_id (by omega) (by omega)]; omega
  rw [w1,w2]
  by_cases q1:L1.length=1
  ·rw [if_pos (by simp [q1])]
   match L1,q1 with
   | [x],_=>
    obtain⟨R,r1,r2,r3⟩:=y8w hs hy φ P L2 Q x (hD1 x (by simp)) hD2 hS2 (by simp at hl; omega) (by simp at hφ; omega)
    refine⟨R,r1,r2,?_⟩
    rw [<- r3]
    simp
  ·rw [if_neg (by simp; omega)]
   by_cases q2:L2.length=1
   ·rw [if_pos (by simp [q2])]
    match L2,q2 with
    | [x],_=>
     obtain⟨R,r1,r2,r3⟩:=yd3 hs hy φ P L1 Q x (hD2 x (by simp)) hD1 hS1 (by simp at hl; omega) (by simp at hφ; omega)
     refine⟨R,r1,r2,?_⟩
     rw [<- r3]
     simp
   ·rw [if_neg (by simp; omega)]
    obtain⟨a,ha⟩:∃ a,a=P.length:=⟨_,rfl⟩
    obtain⟨m,hm⟩:∃ m,m=a+L1.length:=⟨_,rfl⟩
    obtain⟨b,hb⟩:∃ b,b=m+L2.length:=⟨_,rfl⟩
    obtain⟨mid,hmid⟩:∃ mid,mid =(a+b) / 2:=⟨_,rfl⟩
    have ea :(P.length:Int) =(a:Int):=by omega
    have em :(P.length:Int)+L1.length =(m:Int):=by omega
    have eb :(P.length:Int)+L1.length+L2.length =(b:Int):=by omega
    rw [eb,em,ea]
    have hW:W ((U (W ((a:Int)+b))).fdiv 2) =(mid:Int):=by rw [yea (by omega) (by omega)]; omega
    have hn:W ((mid:Int)+m) =((mid+m:Nat):Int):=by rw [W_id (by omega) (by omega)]; simp
    rw [if_pos (show (0:Int)<=1 by decide),p21,hW,hn]
    have key:∃ s0 r0:Nat,((mid<m/\s0=mid+m-b/\r0=mid)\/(m<=mid/\s0=a/\r0=m))/\
      (if decide ((mid:Int)<m)=true then znq φ (gsym φ d) (a:Int) (m:Int) (b:Int) y (mid:Int) ((mid+m:Nat):Int) (W (((mid+m:Nat):Int)-b)) (mid:Int) (P++L1++L2++Q)
       else znq φ (gsym φ d) (a:Int) (m:Int) (b:Int) y (mid:Int) ((mid+m:Nat):Int) (a:Int) (m:Int) (P++L1++L2++Q)) =
      znq φ (gsym φ d) (a:Int) (m:Int) (b:Int) y (mid:Int) ((mid+m:Nat):Int) (s0:Int) (r0:Int) (P++L1++L2++Q):=by
     by_cases q:mid<m
     ·refine⟨mid+m-b,mid,.inl ⟨q,rfl,rfl⟩,?_⟩
      have:W (((mid+m:Nat):Int)-b) =((mid+m-b:Nat):Int):=by rw [W_id (by omega) (by omega)]; omega
      rw [if_pos (by simp; omega),this]
     ·refine⟨a,m,.inr ⟨by omega,rfl,rfl⟩,?_⟩
      rw [if_neg (by simp; omega)]
    obtain⟨s0,r0,hk,e⟩:=key
    rw [e]
    unfold znq
    have hp:W (((mid+m:Nat):Int)-1) =((mid+m-1:Nat):Int):=by rw [W_id (by omega) (by omega)]; omega
    rw [hp]
    obtain⟨A,B,C,E,rfl,rfl,hc,hA,hB,hL⟩:=yne hs hy φ (gsym φ d) P L1 L2 Q hD1 hD2 hS1 hS2 a m b mid s0 r0 ha hm hb hmid (by omega) (by omega) (by omega) (by omega) hk
    rw [hL]
    simp only [List.length_append] at hm hb hl hφ hp1 hp2 q1 q2
    have hcm:mid=a+A.length+C.length:=by omega
    have hend:W (((mid+m:Nat):Int) -((a+A.length:Nat):Int)) =((m+C.length:Nat):Int):=by rw [W_id (by omega) (by omega)]; omega
    have step1:yfp φ (gsym φ d) (a:Int) (m:Int) (b:Int) y (mid:Int) ((mid+m:Nat):Int) ((a+A.length:Nat):Int) (P++(A++B)++(C++E)++Q) =
      zjn φ (gsym φ d) (a:Int) (b:Int) y (mid:Int) ((a+A.length:Nat):Int) ((m+C.length:Nat):Int) (P++A++C++B++E++Q):=by
     unfold yfp
     rw [hend]
     by_cases hBC:B = []\/C = []
     ·rw [if_neg (by
       rcases hBC with rfl | rfl
       ·simp at hm ⊢; omega
       ·simp)]
      rcases hBC with rfl | rfl <;> simp
     ·obtain⟨hB0,hC0⟩:=not_or.1 hBC
      have b0:=List.length_pos_iff.2 hB0
      have c0:=List.length_pos_iff.2 hC0
      rw [if_pos (by simp; omega)]
      have:=ymh φ (P++A) B C (E++Q) y hB0 hC0 (by simp; omega) (by omega)
      have e1:P++(A++B)++(C++E)++Q=P++A++B++C++(E++Q):=by simp
      have e2 :((a+A.length:Nat):Int) =((P++A).length:Nat):=by simp; omega
      have e3 :(m:Int) =((P++A).length:Nat) +(B.length:Int):=by simp; omega
      have e4 :((m+C.length:Nat):Int) =((P++A).length:Nat) +(B.length:Int)+C.length:=by simp; omega
      rw [e1]
      conv=>lhs; arg 1; rw [e4,e2,e3]
      rw [this]
      simp only [Option.bind_some]
      congr 1
      simp
    rw [step1]
    have step2:∃ R1,Srt lt R1/\Stb lt (A++C) R1/\zjn φ (gsym φ d) (a:Int) (b:Int) y (mid:Int) ((a+A.length:Nat):Int) ((m+C.length:Nat):Int) (P++A++C++B++E++Q) =
      zqo φ (gsym φ d) (b:Int) y (mid:Int) ((m+C.length:Nat):Int) (P++R1++B++E++Q):=by
     unfold zjn
     by_cases hAC:A = []\/C = []
     ·refine⟨A++C,?_,Stb.refl _,?_⟩
      ·rcases hAC with rfl | rfl
       ·simpa using hS2.parts.1
       ·simpa using hS1.parts.1
      ·rw [if_neg (by
        rcases hAC with rfl | rfl
        ·simp
        ·simp at hcm ⊢; omega)]
       simp
     ·obtain⟨hA0,hC0⟩:=not_or.1 hAC
      have a0:=List.length_pos_iff.2 hA0
      have c0:=List.length_pos_iff.2 hC0
      obtain⟨R1,r1,r2,r3⟩:=ih P A C (B++E++Q) (fun z hz=>hD1 z (by simp [hz])) (fun z hz=>hD2 z (by simp [hz])) hS1.parts.1 hS2.parts.1 hA0 hC0 (by simp; omega) (by omega) (by omega)
      refine⟨R1,r1,r2,?_⟩
      rw [if_pos (by simp; omega)]
      have e1:P++A++C++B++E++Q=P++A++C++(B++E++Q):=by simp
      have e2 :((a+A.length:Nat):Int) =(P.length:Int)+A.length:=by simp; omega
      have e3 :(mid:Int) =(P.length:Int)+A.length+C.length:=by omega
      rw [e1]
      conv=>lhs; arg 1; rw [e3,e2,<- ea]
      rw [r3]
      simp
    obtain⟨R1,r1,r2,e2⟩:=step2
    rw [e2]
    have hR1:R1.length=A.length+C.length:=by rw [r2.len]; simp
    have step3:∃ R2,Srt lt R2/\Stb lt (B++E) R2/\zqo φ (gsym φ d) (b:Int) y (mid:Int) ((m+C.length:Nat):Int) (P++R1++B++E++Q)=some (P++(R1++R2)++Q):=by
     unfold zqo
     by_cases hBE:B = []\/E = []
     ·refine⟨B++E,?_,Stb.refl _,?_⟩
      ·rcases hBE with rfl | rfl
       ·simpa using hS2.parts.2.1
       ·simpa using hS1.parts.2.1
      ·rw [if_neg (by
        rcases hBE with rfl | rfl
        ·simp at hm ⊢; omega
        ·simp at hb ⊢; omega)]
       simp
     ·obtain⟨hB0,hE0⟩:=not_or.1 hBE
      have b0:=List.length_pos_iff.2 hB0
      have c0:=List.length_pos_iff.2 hE0
      obtain⟨R2,p1,p2,p3⟩:=ih (P++R1) B E Q (fun z hz=>hD1 z (by simp [hz])) (fun z hz=>hD2 z (by simp [hz])) hS1.parts.2.1 hS2.parts.2.1 hB0 hE0 (by simp; omega) (by simp; omega) (by omega)
      refine⟨R2,p1,p2,?_⟩
      rw [if_pos (by simp; omega)]
      have e1 :(mid:Int) =((P++R1).length:Nat):=by simp; omega
      have e3 :((m+C.length:Nat):Int) =((P++R1).length:Nat) +(B.length:Int):=by simp; omega
      have e4 :(b:Int) =((P++R1).length:Nat) +(B.length:Int)+E.length:=by simp; omega
      conv=>lhs; arg 1; rw [e4,e3,e1]
      rw [p3]
      simp
    obtain⟨R2,p1,p2,e3⟩:=step3
    rw [e3]
    have hm':=zor hs hS1 hS2 hA hB r1 r2 p1 p2
    exact⟨R1++R2,hm'.1,hm'.2,rfl⟩
theorem ybx (hs:Swo lt) (hy:Cmp D y lt) (φ N:Nat) (hN:N<=900000) (hφ:N<φ) :
  ∀(n:Nat) (X Y:List α),(∀ z∈Y,D z)->X.length+Y.length=N->Y.length<n->
  ∃ Y1 Y2 Y1',Y=Y1++Y2/\Runs lt 20 (Y1'++[])/\Y2.length<20/\Stb lt Y1 Y1'/\(∀ T,Runs lt 20 T->Runs lt 20 (Y1'++T))/\
   znf φ n (N:Int) y 20 (X.length:Int) ((X.length:Int)+20) (X++Y) =((gins φ (X++Y1'++Y2) ((X.length:Int)+Y1.length) (N:Int) y).bind fun y12=>zcn φ φ (N:Int) y 20 y12):=by
 intro n
 induction n with
 | zero=>intro X Y _ _ h; omega
 | succ n ih=>
  intro X Y hD hl hn
  rw [znf]
  by_cases h:Y.length<20
  ·refine⟨[],Y,[],rfl,.last (by simp) List.Pairwise.nil,h,Stb.refl _,fun T hT=>hT,?_⟩
   rw [if_neg (by simp; omega)]
   simp
  ·obtain⟨B,Z,rfl,hB⟩:∃ B Z,Y=B++Z/\B.length=20:=⟨Y.take 20,Y.drop 20,(List.take_append_drop _ _).symm,by simp; omega⟩
   simp only [List.length_append] at hl hn h
   rw [if_pos (by simp; omega)]
   obtain⟨B',b1,b2,b3⟩:=yeo hs hy φ X B Z (fun z hz=>hD z (by simp [hz])) (by omega) (by omega)
   rw [hB] at b3
   have e1:X++(B++Z)=X++B++Z:=by simp
   have e2 :((20:Nat):Int)=20:=rfl
   rw [e2] at b3
   rw [e1,b3]
   simp only [Option.bind_some]
   have hB':B'.length=20:=by rw [b2.len,hB]
   have w1:W ((X.length:Int)+20+20) =(X.length:Int)+20+20:=W_id (by omega) (by omega)
   have e3 :(X.length:Int)+20 =((X++B').length:Nat):=by simp [hB']
   rw [w1]
   obtain⟨Y1,Y2,Y1',q1,q2,q3,q4,q5,q6⟩:=ih (X++B') Z (fun z hz=>hD z (by simp [hz])) (by simp; omega) (by omega)
   rw [<- e3] at q6
   refine⟨B++Y1,Y2,B'++Y1',by rw [q1]; simp,?_,q3,b2.app q4,fun T hT=>?_,?_⟩
   ·rw [List.append_assoc]; exact .cons hB' b1 q2
   ·rw [List.append_assoc]; exact .cons hB' b1 (q5 T hT)
   ·rw [q6]
    have e4 :(X.length:Int)+20+Y1.length =(X.length:Int) +((B++Y1).length:Nat):=by simp; omega
    rw [e4]
    simp
theorem yr6 (hs:Swo lt) (hy:Cmp D y lt) (φ N bs:Nat) (k:Int->(α->α->Option Int)->Int->List α->Option (List α)) (hN:N<=900000) (hφ:2*N+3<φ) (hb0:0<bs) (hb:bs<=900000) :
  ∀(n:Nat) (X Y:List α),(∀ z∈Y,D z)->Runs lt bs Y->X.length+Y.length=N->Y.length<n->
  ∃ Y',Runs lt (bs*2) Y'/\Stb lt Y Y'/\zqf φ k n (N:Int) y (bs:Int) (X.length:Int) ((X.length:Int)+2*bs) (X++Y)=k (N:Int) y ((bs*2:Nat):Int) (X++Y'):=by
 intro n
 induction n with
 | zero=>intro X Y _ _ _ h; omega
 | succ n ih=>
  intro X Y hD hR hl hn
  have w1:W ((X.length:Int)+bs) =(X.length:Int)+bs:=W_id (by omega) (by omega)
  have w2:W ((bs:Int)*2) =((bs*2:Nat):Int):=by rw [W_id (by omega) (by omega)]; simp
  have w3:W (2 *(bs:Int))=2 *(bs:Int):=W_id (by omega) (by omega)
  have w4:W ((X.length:Int)+2*bs+2*bs) =(X.length:Int)+2*bs+2*bs:=W_id (by omega) (by omega)
  rw [zqf,w1,w3,w4]
  by_cases h:2*bs<=Y.length
  ·rw [if_pos (by simp; omega)]
   obtain⟨B1,r,rfl,h1,s1,hr,hne⟩:=hR.big (by omega)
   simp only [List.length_append] at hl hn h
   obtain⟨B2,Z,rfl,h2,s2,hZ⟩:∃ B2 Z,r=B2++Z/\B2.length=bs/\Srt lt B2/\Runs lt bs Z:=by
    by_cases q:r.length=bs
    ·exact⟨r,[],by simp,q,hr.small (by omega),.last (by simp) List.Pairwise.nil⟩
    ·obtain⟨b,r',e,q1,q2,q3,_⟩:=hr.big (by omega)
     exact⟨b,r',e,q1,q2,q3⟩
   simp only [List.length_append] at hl hn h
   obtain⟨R,r1,r2,r3⟩:=y4d hs hy φ φ X B1 B2 Z (fun z hz=>hD z (by simp [hz])) (fun z hz=>hD z (by simp [hz])) s1 s2 (by intro e; subst e; simp at h1; omega) (by intro e; subst e; simp at h2; omega) (by omega) (by omega) (by omega)
   have hRl:R.length=2*bs:=by rw [r2.len]; simp; omega
   have e1:X++(B1++(B2++Z))=X++B1++B2++Z:=by simp
   have e2 :(X.length:Int)+bs =(X.length:Int)+B1.length:=by omega
   have e3 :(X.length:Int)+2*bs =(X.length:Int)+B1.length+B2.length:=by omega
   have e4 :(X.length:Int)+2*bs =((X++R).length:Nat):=by simp; omega
   obtain⟨Y',p1,p2,p3⟩:=ih (X++R) Z (fun z hz=>hD z (by simp [hz])) hZ (by simp; omega) (by omega)
   refine⟨R++Y',.cons (by omega) r1 p1,?_,?_⟩
   ·have:=r2.app p2
    simpa using this
   ·rw [e1]
    conv=>lhs; arg 1; rw [e2,e3]
    rw [r3]
    simp only [Option.bind_some]
    rw [e4,p3]
    simp
  ·rw [if_neg (by simp; omega)]
   rw [w2]
   by_cases q:bs<Y.length
   ·rw [if_pos (by simp; omega)]
    obtain⟨B1,B2,rfl,h1,s1,hr,hne⟩:=hR.big q
    simp only [List.length_append] at hl hn h
    obtain⟨R,r1,r2,r3⟩:=y4d hs hy φ φ X B1 B2 [] (fun z hz=>hD z (by simp [hz])) (fun z hz=>hD z (by simp [hz])) s1 (hr.small (by omega)) (by intro e; subst e; simp at h1; omega) hne (by simp; omega) (by omega) (by omega)
    have e1:X++(B1++B2)=X++B1++B2++[]:=by simp
    have e2 :(X.length:Int)+bs =(X.length:Int)+B1.length:=by omega
    have e3 :(N:Int) =(X.length:Int)+B1.length+B2.length:=by omega
    refine⟨R,.last (by rw [r2.len]; simp; omega) r1,r2,?_⟩
    rw [e1,e2,e3,r3]
    simp
   ·rw [if_neg (by simp; omega)]
    exact⟨Y,.last (by omega) (hR.small (by omega)),Stb.refl _,rfl⟩
theorem ymi (hs:Swo lt) (hy:Cmp D y lt) (φ N:Nat) (hN:N<=400000) (hφ:2*N+3<φ) :
  ∀(n bs:Nat) (Y:List α),(∀ z∈Y,D z)->Runs lt bs Y->Y.length=N->0<bs->bs<=900000->N-bs<n->
  ∃ Y',Srt lt Y'/\Stb lt Y Y'/\zcn φ n (N:Int) y (bs:Int) Y=some Y':=by
 intro n
 induction n with
 | zero=>intro bs Y _ _ _ _ _ h; omega
 | succ n ih=>
  intro bs Y hD hR hl hb0 hb hn
  rw [zcn]
  by_cases h:bs<N
  ·rw [if_pos (by simp; omega),W_id (x:=2 *(bs:Int)) (by omega) (by omega)]
   obtain⟨Y',p1,p2,p3⟩:=yr6 hs hy φ N bs (zcn φ n) (by omega) hφ hb0 hb φ [] Y hD hR (by simpa using hl) (by omega)
   obtain⟨Y'',q1,q2,q3⟩:=ih (bs*2) Y' (fun z hz=>hD z (p2.mem.1 hz)) p1 (by rw [p2.len,hl]) (by omega) (by omega) (by omega)
   refine⟨Y'',q1,p2.trans q2,?_⟩
   rw [<- q3]
   simpa using p3
  ·rw [if_neg (by simp; omega)]
   exact⟨Y,hR.small (by omega),Stb.refl _,rfl⟩
theorem y0q (hs:Swo lt) (hy:Cmp D y lt) (φ:Nat) (v:List α) (hD:∀ z∈v,D z) (hN:v.length<=400000) (hφ:2*v.length+3<φ) :
  ∃ r,Srt lt r/\Stb lt v r/\yct φ v y=some r:=by
 unfold yct yqa
 obtain⟨Y1,Y2,Y1',q1,q2,q3,q4,q5,q6⟩:=ybx hs hy φ v.length (by omega) (by omega) φ [] v hD (by simp) (by omega)
 have q6':znf φ φ (v.length:Int) y 20 0 20 v =((gins φ (Y1'++Y2) (Y1.length:Int) (v.length:Int) y).bind fun y12=>zcn φ φ (v.length:Int) y 20 y12):=by simpa using q6
 rw [q6']
 have hl:v.length=Y1.length+Y2.length:=by rw [q1]; simp
 have hl1:Y1'.length=Y1.length:=q4.len
 obtain⟨Y2',p1,p2,p3⟩:=yeo hs hy φ Y1' Y2 [] (fun z hz=>hD z (by rw [q1]; simp [hz])) (by simp; omega) (by omega)
 simp only [List.append_nil] at p3
 have e1 :(Y1.length:Int)=Y1'.length:=by omega
 have e2 :(v.length:Int) =(Y1'.length:Int)+Y2.length:=by omega
 have p3':gins φ (Y1'++Y2) (Y1.length:Int) (v.length:Int) y=some (Y1'++Y2'):=by rw [e1,e2]; exact p3
 have hst:Stb lt v (Y1'++Y2'):=by rw [q1]; exact q4.app p2
 obtain⟨r,r1,r2,r3⟩:=ymi hs hy φ v.length hN hφ φ 20 (Y1'++Y2') (fun z hz=>hD z (hst.mem.1 hz)) (q5 _ (.last (by rw [p2.len]; omega) p1)) hst.len (by omega) (by omega) (by omega)
 refine⟨r,r1,hst.trans r2,?_⟩
 rw [p3']
 simp only [Option.bind_some]
 have r3':zcn φ φ (v.length:Int) y 20 (Y1'++Y2')=some r:=r3
 rw [r3']
 rfl
end
end Px
end
section
namespace Px
open Go
set_option maxRecDepth 100000
theorem zgz {n b:Nat} (h:n<=100000) (hb:b<=1000):fits n b:=by
 unfold fits
 exact Nat.le_trans (Nat.mul_le_mul h hb) (by omega)
theorem yj5 (φ:Nat) (v:List z1) (y:z1->z1->Option Int):z5l φ v y=yct φ v y:=by kernel_rfl
def yny (a b:Ref):Bool:=decide (a.railway<b.railway)||(decide (a.railway=b.railway)&&decide (a.no<b.no))
theorem ygz {a b:Ref} : yny a b=true↔a.railway<b.railway\/(a.railway=b.railway/\a.no<b.no):=by simp [yny]
theorem ypg {α:Type} {lt:α->α->Bool} (h:Swo lt):Sort.SWO lt where
 irrefl:=fun a=>h.irr a
 trans:=fun a b c h1 h2=>by
  cases h3:lt a c with
  | true=>rfl
  | false=>
   have h4:=h.asym _ _ h2
   rw [h.ntr a c b h3 h4] at h1; cases h1
 ntrans:=fun a b c h1 h2=>h.ntr a b c h1 h2
theorem yie (φ:Nat) (h:3<=φ) (a b:z1):z85 φ a b=some (or2 (cmpI a.ref.railway b.ref.railway) (cmpI a.ref.no b.ref.no),()):=by
 unfold z85
 simp only [zf8,Option.bind_some]
 rw [yee φ h]; rfl
section
variable {α:Type} {lt:α->α->Bool}
theorem yo7 (hs:Swo lt) {a x y:α} (h1:eqv2 lt a x=true) (h2:eqv2 lt a y=true):lt y x=false:=by
 simp only [eqv2,Bool.and_eq_true,Bool.not_eq_true'] at h1 h2
 exact hs.ntr y a x h2.2 h1.1
theorem y9y (hs:Swo lt) (a x:α):∀ r:List α,(insL lt x r).filter (eqv2 lt a) =(x::r).filter (eqv2 lt a)
 | []=>rfl
 | y::r=>by
  simp only [insL]
  cases h:lt y x with
  | false=>rfl
  | true=>
   simp only [cond_true]
   rw [List.filter_cons,y9y hs a x r]
   cases h1:eqv2 lt a x <;> cases h2:eqv2 lt a y <;> simp [List.filter_cons,h1,h2]
   rw [yo7 hs h1 h2] at h; cases h
theorem y6d (hs:Swo lt):∀ l:List α,Stb lt l (zcr lt l)
 | []=>Stb.refl _
 | x::l=>by
  refine⟨z7g _ _,fun a=>?_⟩
  show (insL lt x (zcr lt l)).filter _=_
  rw [y9y hs,List.filter_cons,List.filter_cons,(y6d hs l).2 a]
theorem yds (hs:Swo lt) (l:List α):Srt lt (zcr lt l):=zcz (ypg hs) l
theorem znd (hs:Swo lt) {l r:List α} (h1:Srt lt r) (h2:Stb lt l r):r=zcr lt l:=by
 refine Srt.unique hs h1 (yds hs l) ⟨(z7g _ _).trans h2.1.symm,fun a=>?_⟩
 rw [(y6d hs l).2 a,h2.2 a]
end
end Px
end
section
namespace Px
open Go
theorem ygw {a b:Int} (h:kl_0 a=kl_0 b):a=b:=by
 have h : [a] = [b]:=h
 cases h; rfl
theorem ydu {a b:z7} (h:kl_9 a=kl_9 b):a=b:=by
 obtain⟨a1,a2⟩:=a
 obtain⟨b1,b2⟩:=b
 have h : [a1,a2] = [b1,b2]:=h
 cases h; rfl
instance:DecidableEq z7:=fun a b=>decidable_of_iff (a.kind=b.kind/\a.serial=b.serial) ⟨fun h=>by cases a; cases b; cases h.1; cases h.2; rfl,fun h=>by rw [h]; exact⟨rfl,rfl⟩⟩
def OkS (s:List (Int×Bool)):Prop:=Srt' kl_0 s/\∀ q∈s,q.2=true
theorem OkS.nil:OkS []:=⟨List.Pairwise.nil,fun q hq=>by cases hq⟩
theorem OkS.set {s:List (Int×Bool)} (h:OkS s) (w:Int):OkS (cset kl_0 s w true):=
 ⟨h.1.set w true,fun q hq=>by
  rcases(z3j h.1).1 hq with rfl |⟨hq,_⟩
  ·rfl
  ·exact h.2 q hq⟩
theorem OkS.get {s:List (Int×Bool)} (h:OkS s) (w:Int) :(cget kl_0 s w).getD (default:Bool) =(s.map (·.1)).contains w:=by
 cases hc:cget kl_0 s w with
 | none=>
  have hn:=zq6.1 hc
  have :(s.map (·.1)).contains w=false:=by
   rw [List.contains_eq_mem,decide_eq_false_iff_not]
   intro hm
   obtain⟨p,hp,e⟩:=List.mem_map.1 hm
   exact hn p hp (by rw [e])
  rw [this]; rfl
 | some b=>
  obtain⟨a,hm,e⟩:=zhi hc
  have hb:b=true:=h.2 _ hm
  have :(s.map (·.1)).contains w=true:=by
   rw [List.contains_eq_mem,decide_eq_true_eq]
   exact List.mem_map.2 ⟨_,hm,(ygw e).symm⟩
  rw [this,hb]; rfl
end Px
end
section
namespace Px
open Go
def prt (c:z7):Part:=⟨c.kind,c.serial,true⟩
end Px
end
section
namespace Px
open Go
set_option maxRecDepth 100000
theorem yoo:zo0 100000000=some (true,()):=by kernel_rfl
theorem yik (φ:Nat) (hφ:1000<φ) (l:List z1):∃ b,zpo φ l=some (b,())/\(b=true->l.length<=30/\∀ r∈l,r.item.parts.length<=20):=by
 unfold zpo
 by_cases h:l.length<=30
 ·rw [if_neg (by simp; omega)]
  refine⟨l.all (fun r=>decide (r.item.parts.length<=20)),?_,fun hb=>⟨h,fun r hr=>by simpa using List.all_eq_true.1 hb r hr⟩⟩
  refine z2d (fun n i (s:Unit)=>za3 φ n l i) l.length (fun i _=>(l.take i).all (fun r=>decide (r.item.parts.length<=20))=true) (fun o=>o=some (l.all (fun r=>decide (r.item.parts.length<=20)),())) ?_ ?_ φ () rfl (by omega)
  ·intro n i s hi hs hk
   rw [za3,if_pos (by simp; omega),z8 ⟨by omega,by omega⟩,W_id (x:=(i:Int)+1) (by omega) (by omega)]
   by_cases hp :(gt l (i:Int)).item.parts.length<=20
   ·rw [if_neg (by simp; omega)]
    exact hk () (by rw [zky _ _ _ hi,hs]; simp [hp])
   ·rw [if_pos (by simp; omega)]
    have:l.all (fun r=>decide (r.item.parts.length<=20))=false:=by
     rw [List.all_eq_false]
     exact⟨_,z7c (l:=l) (i:=(i:Int)) (by omega) (by omega),by simpa using hp⟩
    rw [this]
  ·intro n s hs
   rw [List.take_length] at hs
   rw [za3,if_neg (by simp),hs]
 ·rw [if_pos (by simp; omega)]
  exact⟨_,rfl,fun h=>by cases h⟩
end Px
end
