/- A part of the proof of sightTruth_holds. Conditions: none. -/
import Derived.Test.YtlejlmkoalncgaaGreatZtae
import Derived.Test.YtlejlmkoalncgaaGreatProg
import Derived.Ground.SlsfProg
import Derived.Ground.NamesProg
import Derived.KernelRfl
set_option linter.unusedVariables false
set_option linter.unusedSimpArgs false
section
namespace Go.Proofs
open Go.Shelf
def Tryz.sortEv_ren:Go.Shelf.Ren:=⟨fun | 6=>63 | 15=>98 | 14=>97 | 28=>134 | 29=>125 | 20=>126 | 21=>127 | 22=>128 | 23=>129 | 24=>130 | 25=>131 | 26=>132 | 27=>133 | 46=>154 | 47=>155 | 48=>156 | 49=>157 | 50=>158 | 57=>163 | n=>n,fun | 22=>101 | 24=>103 | 25=>161 | 3=>3 | 39=>201 | 0=>0 | 53=>229 | 55=>68 | 4=>4 | 46=>223 | 45=>222 | 50=>106 | 5=>5 | 9=>9 | 66=>244 | 70=>183 | 76=>253 | 77=>254 | n=>n,fun | n=>n⟩
theorem Tryz.sortEv:Go.Proofs.SlLaysF0.n6 Tryz.prog Tryz.sortEv_ren:={
 mixed:=by kernel_rfl
 f6:=⟨Tryz.f63.name,by decide,Tryz.func63.trans (congrArg some (by kernel_rfl))⟩
 f14:=⟨Tryz.f97.name,by decide,Tryz.func97.trans (congrArg some (by kernel_rfl))⟩
 f15:=Tryz.func98.trans (congrArg some (by kernel_rfl))
 f20:=⟨Tryz.f126.name,by decide,Tryz.func126.trans (congrArg some (by kernel_rfl))⟩
 f21:=⟨Tryz.f127.name,by decide,Tryz.func127.trans (congrArg some (by kernel_rfl))⟩
 f22:=⟨Tryz.f128.name,by decide,Tryz.func128.trans (congrArg some (by kernel_rfl))⟩
 f23:=⟨Tryz.f129.name,by decide,Tryz.func129.trans (congrArg some (by kernel_rfl))⟩
 f24:=⟨Tryz.f130.name,by decide,Tryz.func130.trans (congrArg some (by kernel_rfl))⟩
 f25:=⟨Tryz.f131.name,by decide,Tryz.func131.trans (congrArg some (by kernel_rfl))⟩
 f26:=⟨Tryz.f132.name,by decide,Tryz.func132.trans (congrArg some (by kernel_rfl))⟩
 f27:=⟨Tryz.f133.name,by decide,Tryz.func133.trans (congrArg some (by kernel_rfl))⟩
 f28:=Tryz.func134.trans (congrArg some (by kernel_rfl))
 f29:=Tryz.func125.trans (congrArg some (by kernel_rfl))
 f46:=⟨Tryz.f154.name,by decide,Tryz.func154.trans (congrArg some (by kernel_rfl))⟩
 f47:=Tryz.func155.trans (congrArg some (by kernel_rfl))
 f48:=Tryz.func156.trans (congrArg some (by kernel_rfl))
 f49:=⟨Tryz.f157.name,by decide,Tryz.func157.trans (congrArg some (by kernel_rfl))⟩
 f50:=⟨Tryz.f158.name,by decide,Tryz.func158.trans (congrArg some (by kernel_rfl))⟩
 f57:=⟨Tryz.f163.name,by decide,Tryz.func163.trans (congrArg some (by kernel_rfl))⟩
 t0:=Tryz.underlying0
 a0:=Tryz.isAgg0
 z0:=Tryz.sizeOf0
 v0:=Tryz.zeroValue0
 t3:=Tryz.underlying3
 a3:=Tryz.isAgg3
 z3:=Tryz.sizeOf3
 v3:=Tryz.zeroValue3
 t4:=Tryz.underlying4
 a4:=Tryz.isAgg4
 z4:=Tryz.sizeOf4
 v4:=Tryz.zeroValue4
 t5:=Tryz.underlying5
 a5:=Tryz.isAgg5
 z5:=Tryz.sizeOf5
 v5:=Tryz.zeroValue5
 t9:=Tryz.underlying9
 a9:=Tryz.isAgg9
 z9:=Tryz.sizeOf9
 v9:=Tryz.zeroValue9
 t22:=Tryz.underlying101
 a22:=Tryz.isAgg101
 z22:=Tryz.sizeOf101
 v22:=Tryz.zeroValue101
 t25:=Tryz.underlying161
 a25:=Tryz.isAgg161
 z25:=Tryz.sizeOf161
 v25:=Tryz.zeroValue161
 t39:=Tryz.underlying201
 a39:=Tryz.isAgg201
 z39:=Tryz.sizeOf201
 v39:=Tryz.zeroValue201
 t45:=Tryz.underlying222
 a45:=Tryz.isAgg222
 z45:=Tryz.sizeOf222
 v45:=Tryz.zeroValue222
 t46:=Tryz.underlying223
 a46:=Tryz.isAgg223
 z46:=Tryz.sizeOf223
 v46:=Tryz.zeroValue223
 t50:=Tryz.underlying106
 a50:=Tryz.isAgg106
 z50:=Tryz.sizeOf106
 v50:=Tryz.zeroValue106
 t53:=Tryz.underlying229
 a53:=Tryz.isAgg229
 z53:=Tryz.sizeOf229
 v53:=Tryz.zeroValue229
 t55:=Tryz.underlying68
 a55:=Tryz.isAgg68
 z55:=Tryz.sizeOf68
 v55:=Tryz.zeroValue68
 t66:=Tryz.underlying244
 a66:=Tryz.isAgg244
 z66:=Tryz.sizeOf244
 v66:=Tryz.zeroValue244
 t70:=Tryz.underlying183
 a70:=Tryz.isAgg183
 z70:=Tryz.sizeOf183
 v70:=Tryz.zeroValue183
 t76:=Tryz.underlying253
 a76:=Tryz.isAgg253
 z76:=Tryz.sizeOf253
 v76:=Tryz.zeroValue253
 t77:=Tryz.underlying254
 a77:=Tryz.isAgg254
 z77:=Tryz.sizeOf254
 v77:=Tryz.zeroValue254 }
def Tryz.lays189_ren:Go.Shelf.Ren:=⟨fun | 189=>92 | 125=>98 | 257=>123 | 128=>134 | 129=>125 | 294=>143 | 295=>144 | 296=>145 | 297=>146 | 298=>147 | 299=>148 | 216=>149 | 300=>150 | 301=>151 | 328=>159 | 329=>155 | 330=>156 | 331=>160 | 332=>161 | 215=>99 | 343=>164 | n=>n,fun | 28=>66 | 3=>3 | 46=>201 | 0=>0 | 51=>229 | 53=>68 | 4=>4 | 183=>223 | 182=>222 | 131=>106 | 5=>5 | 9=>9 | 218=>244 | 222=>183 | 228=>253 | 229=>254 | n=>n,fun | n=>n⟩
theorem Tryz.lays189:Go.Proofs.Lays.n189 Tryz.prog Tryz.lays189_ren:={
 mixed:=by kernel_rfl
 f125:=Tryz.func98.trans (congrArg some (by kernel_rfl))
 f128:=Tryz.func134.trans (congrArg some (by kernel_rfl))
 f129:=Tryz.func125.trans (congrArg some (by kernel_rfl))
 f189:=Tryz.func92.trans (congrArg some (by kernel_rfl))
 f215:=Tryz.func99.trans (congrArg some (by kernel_rfl))
 f216:=Tryz.func149.trans (congrArg some (by kernel_rfl))
 f257:=Tryz.func123.trans (congrArg some (by kernel_rfl))
 f294:=Tryz.func143.trans (congrArg some (by kernel_rfl))
 f295:=Tryz.func144.trans (congrArg some (by kernel_rfl))
 f296:=Tryz.func145.trans (congrArg some (by kernel_rfl))
 f297:=Tryz.func146.trans (congrArg some (by kernel_rfl))
 f298:=Tryz.func147.trans (congrArg some (by kernel_rfl))
 f299:=Tryz.func148.trans (congrArg some (by kernel_rfl))
 f300:=Tryz.func150.trans (congrArg some (by kernel_rfl))
 f301:=Tryz.func151.trans (congrArg some (by kernel_rfl))
 f328:=Tryz.func159.trans (congrArg some (by kernel_rfl))
 f329:=Tryz.func155.trans (congrArg some (by kernel_rfl))
 f330:=Tryz.func156.trans (congrArg some (by kernel_rfl))
 f331:=Tryz.func160.trans (congrArg some (by kernel_rfl))
 f332:=Tryz.func161.trans (congrArg some (by kernel_rfl))
 f343:=Tryz.func164.trans (congrArg some (by kernel_rfl))
 t0:=Tryz.underlying0
 a0:=Tryz.isAgg0
 z0:=Tryz.sizeOf0
 v0:=Tryz.zeroValue0
 t3:=Tryz.underlying3
 a3:=Tryz.isAgg3
 z3:=Tryz.sizeOf3
 v3:=Tryz.zeroValue3
 t4:=Tryz.underlying4
 a4:=Tryz.isAgg4
 z4:=Tryz.sizeOf4
 v4:=Tryz.zeroValue4
 t5:=Tryz.underlying5
 a5:=Tryz.isAgg5
 z5:=Tryz.sizeOf5
 v5:=Tryz.zeroValue5
 t9:=Tryz.underlying9
 a9:=Tryz.isAgg9
 z9:=Tryz.sizeOf9
 v9:=Tryz.zeroValue9
 t28:=Tryz.underlying66
 a28:=Tryz.isAgg66
 z28:=Tryz.sizeOf66
 v28:=Tryz.zeroValue66
 t46:=Tryz.underlying201
 a46:=Tryz.isAgg201
 z46:=Tryz.sizeOf201
 v46:=Tryz.zeroValue201
 t51:=Tryz.underlying229
 a51:=Tryz.isAgg229
 z51:=Tryz.sizeOf229
 v51:=Tryz.zeroValue229
 t53:=Tryz.underlying68
 a53:=Tryz.isAgg68
 z53:=Tryz.sizeOf68
 v53:=Tryz.zeroValue68
 t131:=Tryz.underlying106
 a131:=Tryz.isAgg106
 z131:=Tryz.sizeOf106
 v131:=Tryz.zeroValue106
 t182:=Tryz.underlying222
 a182:=Tryz.isAgg222
 z182:=Tryz.sizeOf222
 v182:=Tryz.zeroValue222
 t183:=Tryz.underlying223
 a183:=Tryz.isAgg223
 z183:=Tryz.sizeOf223
 v183:=Tryz.zeroValue223
 t218:=Tryz.underlying244
 a218:=Tryz.isAgg244
 z218:=Tryz.sizeOf244
 v218:=Tryz.zeroValue244
 t222:=Tryz.underlying183
 a222:=Tryz.isAgg183
 z222:=Tryz.sizeOf183
 v222:=Tryz.zeroValue183
 t228:=Tryz.underlying253
 a228:=Tryz.isAgg253
 z228:=Tryz.sizeOf253
 v228:=Tryz.zeroValue253
 t229:=Tryz.underlying254
 a229:=Tryz.isAgg254
 z229:=Tryz.sizeOf254
 v229:=Tryz.zeroValue254 }
end Go.Proofs
end
section
namespace Px
open Go
theorem y3t {σ ρ:Type} (L:Nat->Int->σ->Option ρ) (len:Nat) (Inv:Nat->σ->Prop) (G:Option ρ->Prop)
  (step:∀ n i s,i<len->Inv i s->(∀ s',Inv (i+1) s'->G (L n ((i:Int)+1) s'))->G (L (n+1) i s))
  (done:∀ n s,Inv len s->G (L (n+1) len s)):∀ n i s,i<=len->Inv i s->len-i<n->G (L n i s):=by
 intro n
 induction n with
 | zero=>intro i s _ _ h; omega
 | succ n ih=>
  intro i s hi hI hn
  by_cases h:i=len
  ·subst h; exact done n s hI
  ·refine step n i s (by omega) hI fun s' hs'=>?_
   have:=ih (i+1) s' (by omega) hs' (by omega)
   simpa using this
theorem z01 {σ ρ:Type} (L:Nat->Int->σ->Option ρ) (len:Nat) (Inv:Nat->σ->Prop) (G:Option ρ->Prop)
  (step:∀ n i s,i<len->Inv i s->(∀ s',Inv (i+1) s'->G (L n ((i:Int)+1) s'))->G (L (n+1) i s))
  (done:∀ n s,Inv len s->G (L (n+1) len s)) (n:Nat) (s:σ) (h:Inv 0 s) (hn:len<n):G (L n 0 s):=by
 simpa using y3t L len Inv G step done n 0 s (Nat.zero_le _) h (by omega)
theorem yez (x:Int):W x=if x % 18446744073709551616 >= 9223372036854775808 then x % 18446744073709551616-18446744073709551616 else x % 18446744073709551616:=by
 simp [W,IntKind.wrap,IntKind.bits,IntKind.signed]
theorem zye (x:Int):U x=x % 18446744073709551616:=by
 simp [U,IntKind.wrap,IntKind.bits,IntKind.signed]
theorem W_id {x:Int} (h : -9223372036854775808<=x) (h':x<=9223372036854775807):W x=x:=by
 rw [yez]; split <;> omega
theorem U_id {x:Int} (h:0<=x) (h':x<=18446744073709551615):U x=x:=by
 rw [zye]; omega
theorem zq5 {α:Type} [Inhabited α] (ok:α->Bool) (l:List α) (i:Nat) (h:i<l.length) :(l.take (i+1)).all ok =((l.take i).all ok&&ok (gt l (i:Int))):=by
 rw [List.take_succ_eq_append_getElem h,List.all_append]
 simp [gt,h]
theorem zcp {α:Type} [Inhabited α] (ok:α->Bool) (l:List α) (i:Nat) (h:i<l.length) :(l.take (i+1)).any ok =((l.take i).any ok||ok (gt l (i:Int))):=by
 rw [List.take_succ_eq_append_getElem h,List.any_append]
 simp [gt,h]
theorem z1f {α:Type} [Inhabited α] (l:List α) (i:Nat) (h:i<l.length):l.take (i+1)=l.take i++[gt l (i:Int)]:=by
 rw [List.take_succ_eq_append_getElem h]
 simp [gt,h]
theorem z12 {α:Type} [Inhabited α] {l:List α} {i:Int} (h0:0<=i) (h:i <(l.length:Int)):gt l i∈l:=by
 have hlt:i.toNat<l.length:=by omega
 simp [gt,hlt]
theorem z2k {α:Type} [Inhabited α] {l:List α} {i:Nat} (h:i<l.length):gt l (i:Int)=l[i]:=by
 simp [gt,h]
theorem zuh {α:Type} [Inhabited α] (l:List α) (i:Nat) (h:i<l.length):l.drop i=gt l (i:Int)::l.drop (i+1):=by
 rw [z2k h,List.getElem_cons_drop]
theorem zmn {α:Type} [Inhabited α] {l:List α} {x:α} (h:x∈l):∃ i:Nat,i<l.length/\gt l (i:Int)=x:=by
 obtain⟨i,hi,e⟩:=List.getElem_of_mem h
 exact⟨i,hi,by rw [z2k hi,e]⟩
theorem z03 {α:Type} [Inhabited α] (l:List α) (i j:Int) (x:α) (hi:0<=i) (h:i <(l.length:Int)) (hj:0<=j):gt (zi l i x) j=if j=i then x else gt l j:=by
 unfold gt zi
 by_cases e:j=i
 ·subst e
  have:j.toNat<l.length:=by omega
  simp [List.getD,List.getElem?_set,this]
 ·have:i.toNat≠j.toNat:=by omega
  simp [List.getD,List.getElem?_set,this,e]
theorem z2w {α:Type} [Inhabited α] (n:Nat) (x:α) (j:Int) (hj:0<=j) (h:j<n):gt (List.replicate n x) j=x:=by
 have:j.toNat<n:=by omega
 simp [gt,List.getD,List.getElem?_replicate,this]
theorem zg3 {α:Type} [Inhabited α] (l m:List α) (j:Int) (h0:0<=j) (h:j <(l.length:Int)):gt (l++m) j=gt l j:=by
 have:j.toNat<l.length:=by omega
 simp [gt,List.getD,List.getElem?_append,this]
theorem zdx {α:Type} [Inhabited α] (l m:List α) (j:Int) (h :(l.length:Int)<=j):gt (l++m) j=gt m (j-l.length):=by
 have:¬ j.toNat<l.length:=by omega
 have e :(j-l.length).toNat=j.toNat-l.length:=by omega
 simp [gt,List.getD,List.getElem?_append,this,e]
theorem zkk {α ρ:Type} [Inhabited α] (L:Nat->Int->Int->Option ρ) (k:Int->Option ρ) (l:List α) (ok:α->Bool)
  (step:∀(n i:Nat) (s:Int),i<l.length->L (n+1) i s=L n ((i:Int)+1) (bif ok (gt l i) then s else 1)) (done:∀ n s,L (n+1) l.length s=k s) :
  ∀ n s,l.length<n->L n 0 s=k (bif l.all ok then s else 1):=by
 intro n s hn
 refine y3t L l.length (fun i t=>t=bif (l.take i).all ok then s else 1) (fun o=>o=k (bif l.all ok then s else 1)) ?_ ?_ n 0 s (Nat.zero_le _) (by simp) (by omega)
 ·intro n i t hi ht hs
  rw [step n i t hi]
  refine hs _ ?_
  rw [zq5 ok l i hi,ht]
  cases (l.take i).all ok <;> cases ok (gt l (i:Int)) <;> simp
 ·intro n t ht
  rw [done,ht,List.take_length]
theorem y2c {α ρ:Type} [Inhabited α] (L:Nat->Int->Option ρ) (k:Option ρ) (l:List α) (p:α->Bool) (g:α->Option ρ)
  (step:∀ n i:Nat,i<l.length->L (n+1) i=bif p (gt l i) then g (gt l i) else L n ((i:Int)+1)) (done:∀ n,L (n+1) l.length=k) :
  ∀ n,l.length<n->L n 0=match l.find? p with | some x=>g x | none=>k:=by
 intro n hn
 refine z01 (fun n i (_:Unit)=>L n i) l.length (fun i _=>∀ x∈l.take i,p x=false) (fun o=>o=match l.find? p with | some x=>g x | none=>k) ?_ ?_ n () (by simp) hn
 ·intro n i _ hi hI hs
  simp only [step n i hi]
  cases e:p (gt l (i:Int)) with
  | false=>
   refine hs () ?_
   rw [z1f l i hi]
   intro x hx
   rcases List.mem_append.1 hx with h | h
   ·exact hI x h
   ·simp at h; rw [h]; exact e
  | true=>
   have:l.find? p=some (gt l (i:Int)):=by
    have h1:l=l.take i++(gt l (i:Int)::l.drop (i+1)):=by
     rw [z2k hi,List.getElem_cons_drop,List.take_append_drop]
    generalize gt l (i:Int)=y at *
    rw [h1,List.find?_append,List.find?_eq_none.2 (fun x hx=>by simp [hI x hx])]
    simp [List.find?_cons,e]
   rw [this]; rfl
 ·intro n _ hI
  simp only [done]
  rw [List.take_length] at hI
  rw [List.find?_eq_none.2 (fun x hx=>by simp [hI x hx])]
theorem y70 {α ρ:Type} (l:List α) (p:α->Bool) (r k:ρ) :(match l.find? p with | some _=>r | none=>k)=bif l.any p then r else k:=by
 induction l with
 | nil=>rfl
 | cons x l ih=>
  rw [List.find?_cons,List.any_cons]
  cases p x
  ·simpa using ih
  ·rfl
theorem z3o {α ρ:Type} [Inhabited α] (L:Nat->Int->Option ρ) (k r:Option ρ) (l:List α) (p:α->Bool)
  (step:∀ n i:Nat,i<l.length->L (n+1) i=bif p (gt l i) then r else L n ((i:Int)+1)) (done:∀ n,L (n+1) l.length=k)
  (n:Nat) (hn:l.length<n):L n 0=bif l.any p then r else k:=by
 rw [y2c L k l p (fun _=>r) step done n hn,y70]
def bet (a b c:Int):Bool:=decide (b<=a)&&decide (a<=c)
theorem z7l {a b c:Int} : bet a b c=true↔b<=a/\a<=c:=by simp [bet]
theorem zpw {a b c:Int} (h:bet a b c=true):b<=a/\a<=c:=z7l.1 h
theorem mk_t (n:Int) (b:Nat) (h0:0<=n) (h:n<=100000) (hb:b<=1000000):z3i n b:=by
 refine⟨h0,?_,by omega⟩
 have :(b:Int)*n<=1000000*100000:=Int.mul_le_mul (by omega) h h0 (by omega)
 omega
theorem y3c {x y z:Int} : min2 x y<z↔x<z\/y<z:=by unfold min2; split <;> omega
theorem yau {x y z:Int} : z<max2 x y↔z<x\/z<y:=by unfold max2; split <;> omega
end Px
end
section
namespace Px
open Go
theorem zuu {a b:Int} : cmpI a b<0↔a<b:=by unfold cmpI; (repeat' split) <;> omega
theorem zvd {a b:Int} : cmpI a b=0↔a=b:=by unfold cmpI; (repeat' split) <;> omega
theorem ycq {a b c d e:Int} : or5 a b c d e<0↔a<0\/(a=0/\(b<0\/(b=0/\(c<0\/(c=0/\(d<0\/(d=0/\e<0))))))):=by
 unfold or5
 by_cases h1:a=0
 ·by_cases h2:b=0
  ·by_cases h3:c=0
   ·by_cases h4:d=0
    ·simp [h1,h2,h3,h4]
    ·simp [h1,h2,h3,h4]
   ·simp [h1,h2,h3]
  ·simp [h1,h2]
 ·simp [h1]
theorem zb9 {a b:z6} : cfEv a b<0↔a.visit.early<b.visit.early\/(a.visit.early=b.visit.early/\(a.visit.ref.railway<b.visit.ref.railway\/(a.visit.ref.railway=b.visit.ref.railway/\(a.visit.ref.no<b.visit.ref.no\/(a.visit.ref.no=b.visit.ref.no/\
  (ordB a.second<ordB b.second\/(ordB a.second=ordB b.second/\a.report<b.report))))))):=by
 unfold cfEv
 rw [ycq,zuu,zuu,zuu,zvd,zvd,zvd]
 have e1:∀ x y:Int,(x-y<0) =(x<y):=fun x y=>propext ⟨fun h=>by omega,fun h=>by omega⟩
 have e2:∀ x y:Int,(x-y=0) =(x=y):=fun x y=>propext ⟨fun h=>by omega,fun h=>by omega⟩
 rw [e1,e1,e2]
theorem y5d:Sort.SWO (Proofs.ltOf fun a b : {y:z6 // okEv y=true}=>cfEv a.1 b.1) where
 irrefl:=fun x=>by
  simp only [Proofs.ltOf,decide_eq_false_iff_not]
  rw [zb9]
  omega
 trans:=fun x y z h1 h2=>by
  simp only [Proofs.ltOf,decide_eq_true_eq] at *
  rw [zb9] at *
  omega
 ntrans:=fun x y z h1 h2=>by
  simp only [Proofs.ltOf,decide_eq_false_iff_not] at *
  rw [zb9] at *
  omega
theorem zy8 (φ:Nat) (a b:Int):z82 φ a b=some (cmpI a b,()):=by
 unfold z82 cmpI
 simp only [bne_self_eq_false,Bool.false_eq_true,if_false,decide_eq_true_eq]
 split
 ·rfl
 ·split <;> rfl
theorem y6s (φ:Nat) (b:Bool):za8 φ b=some (ordB b,()):=by
 unfold za8 ordB
 split <;> rfl
theorem ye9 (φ:Nat) (h:6<=φ) (a b c d e:Int):zwm φ [a,b,c,d,e]=some (or5 a b c d e,()):=by
 obtain⟨n,rfl⟩:∃ n,φ=n+6:=⟨φ-6,by omega⟩
 unfold zwm or5
 simp only [zh7,List.length_cons,List.length_nil]
 have w:∀ x:Int,0<=x->x<100->W (x+1)=x+1:=fun x h1 h2=>W_id (by omega) (by omega)
 have g0:gt [a,b,c,d,e] 0=a:=rfl
 have g1:gt [a,b,c,d,e] 1=b:=rfl
 have g2:gt [a,b,c,d,e] 2=c:=rfl
 have g3:gt [a,b,c,d,e] 3=d:=rfl
 have g4:gt [a,b,c,d,e] 4=e:=rfl
 rw [w 0 (by omega) (by omega),show (0:Int)+1=1 by rfl,w 1 (by omega) (by omega),show (1:Int)+1=2 by rfl,w 2 (by omega) (by omega),show (2:Int)+1=3 by rfl,w 3 (by omega) (by omega),show (3:Int)+1=4 by rfl,w 4 (by omega) (by omega),show (4:Int)+1=5 by rfl,g0,g1,g2,g3,g4]
 simp [ck]
 repeat' (split; try rfl)
 all_goals simp_all
theorem zsm (φ:Nat) (h:6<=φ) (a b:z6) (ha:okEv a=true) (hb:okEv b=true):z87 φ a b=some (cfEv a b,()):=by
 simp only [okEv,decide_eq_true_eq] at ha hb
 unfold z87 cfEv
 simp only [zy8,y6s,Option.bind_some]
 have w1:W (ordB a.second-ordB b.second)=ordB a.second-ordB b.second:=by
  have:∀ x:Bool,0<=ordB x/\ordB x<=1:=fun x=>by cases x <;> decide
  have h1:=this a.second
  have h2:=this b.second
  exact W_id (by omega) (by omega)
 rw [w1,W_id (by omega) (by omega),ye9 φ h]
 rfl
theorem zum (a b:z6) (ha:okEv a=true) (hb:okEv b=true):z87 10 a b=some (cfEv a b,()):=zsm 10 (by omega) a b ha hb
end Px
end
section
set_option maxHeartbeats 4000000
set_option maxRecDepth 100000
namespace Px
open Go Go.RowKit Go.Proofs
def z9o (φ:Nat):H TV (RTup TT [.val 0]):=.x
def zc1 (P:Program) (φ:Nat):Env TV:=⟨P,lk [],lk [],lk []⟩
theorem zp5 (φ:Nat) (a) :(zch φ).F a=fnX TV (zc1 Tryz.prog φ) φ Tryz.f66 [0,0] [.val 0] (z9o φ) a:=by kernel_rfl
theorem zpv (φ:Nat):fnO TV (zc1 Tryz.prog φ) φ Tryz.f66 [.val 0] (z9o φ):=by
 unfold fnO
 show obl _ _ _ _ _ _ _
 unfold z9o
 repeat' (first | exact trivial |(refine⟨?_,?_⟩) |(intro _) | kernel_rfl)
theorem zqf (φ:Nat):z14 TV Tryz.prog 66 (zch φ):=
 z1d (N:=zc1 Tryz.prog φ) (zy trivial trivial trivial) (z9o φ) Tryz.func66 (by kernel_rfl) (zp5 φ) (zpv φ)
def zhq:Msp TV:=⟨3,0,[],zj6⟩
theorem zlq:y2y TV Tryz.prog 92 zhq:=fun l l' sv h=>zsn (ρ:=Tryz.lays189_ren) Tryz.lays189 h
def z9g (φ:Nat):H TV (RTup TT [.val 0]):=.x
def zbz (P:Program) (φ:Nat):Env TV:=⟨P,lk [],lk [],lk []⟩
theorem zq3 (φ:Nat) (a) :(zd4 φ).F a=fnX TV (zbz Tryz.prog φ) φ Tryz.f67 [2] [.val 0] (z9g φ) a:=by kernel_rfl
theorem zoz (φ:Nat):fnO TV (zbz Tryz.prog φ) φ Tryz.f67 [.val 0] (z9g φ):=by
 unfold fnO
 show obl _ _ _ _ _ _ _
 unfold z9g
 repeat' (first | exact trivial |(refine⟨?_,?_⟩) |(intro _) | kernel_rfl)
theorem zpj (φ:Nat):z14 TV Tryz.prog 67 (zd4 φ):=
 z1d (N:=zbz Tryz.prog φ) (zy trivial trivial trivial) (z9g φ) Tryz.func67 (by kernel_rfl) (zq3 φ) (zoz φ)
def zkn (φ:Nat):H TV (RTup TT [.val 0]):=(.seq .x (.seq .x (.seq (.seq .x (.body (.loop ⟨[(18,[(3,.val 0),(6,.val 5),(7,.val 0),(8,.val 0)])],[]⟩ (fun n z=>zh7 φ n z.1 z.2.1 z.2.2.1 z.2.2.2.1) (fun zk6=>.x)))) .x)))
def zqj (P:Program) (φ:Nat):Env TV:=⟨P,lk [],lk [],lk []⟩
theorem y6d (φ:Nat) (a) :(zr0 φ).F a=fnX TV (zqj Tryz.prog φ) φ Tryz.f65 [5] [.val 0] (zkn φ) a:=by kernel_rfl
theorem y6i (φ:Nat):fnO TV (zqj Tryz.prog φ) φ Tryz.f65 [.val 0] (zkn φ):=by
 unfold fnO
 show obl _ _ _ _ _ _ _
 unfold zkn
 repeat' (first | exact trivial |(refine⟨?_,?_⟩) |(intro _) | kernel_rfl)
theorem y7t (φ:Nat):z14 TV Tryz.prog 65 (zr0 φ):=
 z1d (N:=zqj Tryz.prog φ) (zy trivial trivial trivial) (zkn φ) Tryz.func65 (by kernel_rfl) (y6d φ) (y6i φ)
def z5t (φ:Nat):H TV (RTup TT [.val 0]):=.x
def z8v (P:Program) (φ:Nat):Env TV:=⟨P,lk [(66,zch φ),(67,zd4 φ),(65,zr0 φ)],lk [],lk []⟩
theorem zk1 (φ:Nat) (a) :(zdd φ).F a=fnX TV (z8v Tryz.prog φ) φ Tryz.f64 [4,4] [.val 0] (z5t φ) a:=by kernel_rfl
theorem zjt (φ:Nat):fnO TV (z8v Tryz.prog φ) φ Tryz.f64 [.val 0] (z5t φ):=by
 unfold fnO
 show obl _ _ _ _ _ _ _
 unfold z5t
 repeat' (first | exact trivial |(refine⟨?_,?_⟩) |(intro _) | kernel_rfl)
theorem zki (φ:Nat):z14 TV Tryz.prog 64 (zdd φ):=
 z1d (N:=z8v Tryz.prog φ) (zy ⟨zqf φ,zpj φ,y7t φ,trivial⟩ trivial trivial) (z5t φ) Tryz.func64 (by kernel_rfl) (zk1 φ) (zjt φ)
def zwy:Msp TV:=⟨103,4,[64],sortEv⟩
theorem y5g:y2y TV Tryz.prog 63 zwy:=
 y0u (V:=TV) (c:=4) (ρ:=Tryz.sortEv_ren) Tryz.sortEv Tryz.isAgg103 (by rw [show TV.sz 4=11 by kernel_rfl]; exact Tryz.sizeOf103) (by kernel_rfl) (by kernel_rfl) ⟨Tryz.f64,Tryz.func64,by kernel_rfl,by kernel_rfl⟩ y5d fun a b ha hb=>
  (zki 10 (a,b,()) (cfEv a b,()) (zum a b ha hb)).mono fun x news ⟨B,hB,h1,h2⟩=>by
   cases B with
   | nil=>exact⟨h1,h2⟩
   | cons y B=>cases hB
def z68 (φ:Nat):H TV (RTup TT [.val 30]):=.x
def za0 (P:Program) (φ:Nat):Env TV:=⟨P,lk [],lk [],lk []⟩
theorem zlm (φ:Nat) (a) :(zag φ).F a=fnX TV (za0 Tryz.prog φ) φ Tryz.f29 [] [.val 30] (z68 φ) a:=by kernel_rfl
theorem zms (φ:Nat):fnO TV (za0 Tryz.prog φ) φ Tryz.f29 [.val 30] (z68 φ):=by
 unfold fnO
 show obl _ _ _ _ _ _ _
 unfold z68
 repeat' (first | exact trivial |(refine⟨?_,?_⟩) |(intro _) | kernel_rfl)
theorem zl5 (φ:Nat):z14 TV Tryz.prog 29 (zag φ):=
 z1d (N:=za0 Tryz.prog φ) (zy trivial trivial trivial) (z68 φ) Tryz.func29 (by kernel_rfl) (zlm φ) (zms φ)
def z74 (φ:Nat):H TV (RTup TT [.val 2]):=.x
def zam (P:Program) (φ:Nat):Env TV:=⟨P,lk [],lk [],lk []⟩
theorem zme (φ:Nat) (a) :(zaj φ).F a=fnX TV (zam Tryz.prog φ) φ Tryz.f93 [6] [.val 2] (z74 φ) a:=by kernel_rfl
theorem zm2 (φ:Nat):fnO TV (zam Tryz.prog φ) φ Tryz.f93 [.val 2] (z74 φ):=by
 unfold fnO
 show obl _ _ _ _ _ _ _
 unfold z74
 repeat' (first | exact trivial |(refine⟨?_,?_⟩) |(intro _) | kernel_rfl)
theorem zlr (φ:Nat):z14 TV Tryz.prog 93 (zaj φ):=
 z1d (N:=zam Tryz.prog φ) (zy trivial trivial trivial) (z74 φ) Tryz.func93 (by kernel_rfl) (zme φ) (zm2 φ)
def z7c (φ:Nat):H TV (RTup TT [.val 0]):=(.seq .x (.seq .x (.seq .x (.seq (.seq .x (.body (.loop ⟨[(84,[(1,.ptr 0 0),(3,.val 0),(20,.val 7),(21,.val 0),(22,.val 0)])],[.box 25 [.val 10]]⟩ (fun n z=>z2r φ n z.1 z.2.1 z.2.2.1 z.2.2.2.1 z.2.2.2.2.1) (fun zk7=>.x)))) (.seq (.seq .x (.body (.loop ⟨[(84,[(3,.val 0),(31,.val 9),(32,.val 0),(33,.val 0)])],[]⟩ (fun n z=>z1k φ n z.1 z.2.1 z.2.2.1 z.2.2.2.1) (fun zk13=>.x)))) .x)))))
def z9x (P:Program) (φ:Nat):Env TV:=⟨P,lk [(93,zaj φ)],lk [],lk []⟩
theorem zlx (φ:Nat) (a) :(z3k φ).F a=fnX TV (z9x Tryz.prog φ) φ Tryz.f56 [10] [.val 0] (z7c φ) a:=by kernel_rfl
theorem zmb (φ:Nat):fnO TV (z9x Tryz.prog φ) φ Tryz.f56 [.val 0] (z7c φ):=by
 unfold fnO
 show obl _ _ _ _ _ _ _
 unfold z7c
 repeat' (first | exact trivial |(refine⟨?_,?_⟩) |(intro _) | kernel_rfl)
theorem z6n (φ:Nat):z14 TV Tryz.prog 56 (z3k φ):=
 z1d (N:=z9x Tryz.prog φ) (zy ⟨zlr φ,trivial⟩ trivial trivial) (z7c φ) Tryz.func56 (by kernel_rfl) (zlx φ) (zmb φ)
def z69 (φ:Nat):H TV (RTup TT [.val 2]):=.x
def za9 (P:Program) (φ:Nat):Env TV:=⟨P,lk [],lk [],lk []⟩
theorem zmc (φ:Nat) (a) :(z6x φ).F a=fnX TV (za9 Tryz.prog φ) φ Tryz.f58 [0,0,0] [.val 2] (z69 φ) a:=by kernel_rfl
theorem zmk (φ:Nat):fnO TV (za9 Tryz.prog φ) φ Tryz.f58 [.val 2] (z69 φ):=by
 unfold fnO
 show obl _ _ _ _ _ _ _
 unfold z69
 repeat' (first | exact trivial |(refine⟨?_,?_⟩) |(intro _) | kernel_rfl)
theorem zek (φ:Nat):z14 TV Tryz.prog 58 (z6x φ):=
 z1d (N:=za9 Tryz.prog φ) (zy trivial trivial trivial) (z69 φ) Tryz.func58 (by kernel_rfl) (zmc φ) (zmk φ)
def z9b (φ:Nat):H TV (RTup TT [.val 0]):=(.seq .x (.seq .x (.seq .x (.seq .x (.seq (.seq .x (.body (.loop ⟨[(206,[(1,.ptr 0 0),(3,.ptr 1 0),(4,.func 94 [.ptr 1 0]),(41,.val 13),(42,.val 0),(43,.val 0)])],[.box 31 [.val 20],.box 47 [.val 0]]⟩ (fun n z=>z3b φ n z.1 z.2.1 z.2.2.1 z.2.2.2.1 z.2.2.2.2.1) (fun zk7=>(.seq .x (.seq .x (.seq (.body (.seq .x (.seq (.seq .x (.body (.loop ⟨[(206,[(1,.ptr 0 0),(3,.ptr 1 0),(4,.func 94 [.ptr 1 0]),(6,.ptr 2 0),(41,.val 13),(42,.val 0),(43,.val 0),(55,.own 3),(56,.val 0),(57,.val 0)])],[.box 31 [.val 20],.box 47 [.val 0],.box 152 [.val 12],.row 3 0]⟩ (fun n z=>z1q φ (fun a0 a1 a2 a3 a4=>zk7 (a0,a1,a2,a3,a4,())) n z.1 z.2.1 z.2.2.1 z.2.2.2.1 z.2.2.2.2.1 z.2.2.2.2.2.1 z.2.2.2.2.2.2.1 z.2.2.2.2.2.2.2.1 z.2.2.2.2.2.2.2.2.1) (fun zk17=>.x)))) .x))) .x))))))) (.seq (.seq .x (.body (.loop ⟨[(206,[(1,.ptr 0 0),(3,.ptr 1 0),(4,.func 94 [.ptr 1 0]),(83,.val 15),(84,.val 0),(85,.val 0)])],[.box 31 [.val 20],.box 47 [.val 0]]⟩ (fun n z=>z0c φ n z.1 z.2.1 z.2.2.1 z.2.2.2.1 z.2.2.2.2.1) (fun zk27=>.x)))) (.seq (.seq .x (.body (.loop ⟨[(206,[(1,.ptr 0 0),(3,.ptr 1 0),(4,.func 94 [.ptr 1 0]),(120,.val 17),(121,.val 0),(122,.val 0)])],[.box 31 [.val 20],.box 47 [.val 0]]⟩ (fun n z=>z0s φ n z.1 z.2.1 z.2.2.1 z.2.2.2.1 z.2.2.2.2.1) (fun zk40=>.x)))) (.seq .x (.seq (.seq .x (.body (.loop ⟨[(206,[(3,.ptr 0 0),(4,.func 94 [.ptr 0 0]),(13,.ptr 1 0),(158,.val 19),(159,.val 0),(160,.val 0)])],[.box 47 [.val 0],.box 195 [.val 31]]⟩ (fun n z=>zp φ n z.1 z.2.1 z.2.2.1 z.2.2.2.1 z.2.2.2.2.1) (fun zk49=>.x)))) .x)))))))))
def zcf (P:Program) (φ:Nat):Env TV:=⟨P,lk [(58,z6x φ)],lk [],lk []⟩
theorem zqd (φ:Nat) (a) :(zbw φ).F a=fnX TV (zcf Tryz.prog φ) φ Tryz.f57 [20] [.val 0] (z9b φ) a:=by kernel_rfl
theorem zqc (φ:Nat):fnO TV (zcf Tryz.prog φ) φ Tryz.f57 [.val 0] (z9b φ):=by
 unfold fnO
 show obl _ _ _ _ _ _ _
 unfold z9b
 repeat' (first | exact trivial |(refine⟨?_,?_⟩) |(intro _) | kernel_rfl)
theorem zqp (φ:Nat):z14 TV Tryz.prog 57 (zbw φ):=
 z1d (N:=zcf Tryz.prog φ) (zy ⟨zek φ,trivial⟩ trivial trivial) (z9b φ) Tryz.func57 (by kernel_rfl) (zqd φ) (zqc φ)
def z5u (φ:Nat):H TV (RTup TT [.val 0]):=(.seq .x (.seq (.seq .x (.body (.loop ⟨[(45,[(1,.ptr 0 0),(9,.val 26),(10,.val 0)])],[.box 126 [.val 27]]⟩ (fun n z=>z2f φ n z.1 z.2.1 z.2.2.1) (fun zk5=>.x)))) (.seq .x (.seq (.seq .x (.body (.loop ⟨[(45,[(5,.val 0),(30,.val 5),(31,.val 0),(32,.val 0)])],[]⟩ (fun n z=>z1x φ n z.1 z.2.1 z.2.2.1 z.2.2.2.1) (fun zk10=>.x)))) .x))))
def z91 (P:Program) (φ:Nat):Env TV:=⟨P,lk [],lk [],lk []⟩
theorem zk0 (φ:Nat) (a) :(z8s φ).F a=fnX TV (z91 Tryz.prog φ) φ Tryz.f59 [27] [.val 0] (z5u φ) a:=by kernel_rfl
theorem zke (φ:Nat):fnO TV (z91 Tryz.prog φ) φ Tryz.f59 [.val 0] (z5u φ):=by
 unfold fnO
 show obl _ _ _ _ _ _ _
 unfold z5u
 repeat' (first | exact trivial |(refine⟨?_,?_⟩) |(intro _) | kernel_rfl)
theorem zkh (φ:Nat):z14 TV Tryz.prog 59 (z8s φ):=
 z1d (N:=z91 Tryz.prog φ) (zy trivial trivial trivial) (z5u φ) Tryz.func59 (by kernel_rfl) (zk0 φ) (zke φ)
def zat (φ:Nat):H TV (RTup TT [.val 11,.val 11]):=.x
def zeu (P:Program) (φ:Nat):Env TV:=⟨P,lk [],lk [],lk []⟩
theorem zrr (φ:Nat) (a) :(zax φ).F a=fnX TV (zeu Tryz.prog φ) φ Tryz.f142 [11,11] [.val 11,.val 11] (zat φ) a:=by kernel_rfl
theorem zrg (φ:Nat):fnO TV (zeu Tryz.prog φ) φ Tryz.f142 [.val 11,.val 11] (zat φ):=by
 unfold fnO
 show obl _ _ _ _ _ _ _
 unfold zat
 repeat' (first | exact trivial |(refine⟨?_,?_⟩) |(intro _) | kernel_rfl)
theorem zje (φ:Nat):z14 TV Tryz.prog 142 (zax φ):=
 z1d (N:=zeu Tryz.prog φ) (zy trivial trivial trivial) (zat φ) Tryz.func142 (by kernel_rfl) (zrr φ) (zrg φ)
def z2s (φ:Nat):H TV (RTup TT [.val 0]):=(.seq .x (.seq (.ins 1 125 (.seq .x (.seq (.join ⟨[(25,[(0,.val 11),(2,.val 0)]),(6,[])],[]⟩ (fun z=>z1i φ z.1 z.2.1) (.seq .x .x)) (.seq (.join ⟨[(25,[(0,.val 11),(2,.val 0)]),(6,[])],[]⟩ (fun z=>z1h φ z.1 z.2.1) (.seq .x .x)) (.seq (.join ⟨[(25,[(0,.val 11),(2,.val 0)]),(6,[])],[]⟩ (fun z=>z19 φ z.1 z.2.1) (.seq .x .x)) .x)))) .x) .x))
def z4v (P:Program) (φ:Nat):Env TV:=⟨P,lk [],lk [],lk []⟩
theorem zdl (φ:Nat) (a) :(z4w φ).F a=fnX TV (z4v Tryz.prog φ) φ Tryz.f162 [11] [.val 0] (z2s φ) a:=by kernel_rfl
theorem ze9 (φ:Nat):fnO TV (z4v Tryz.prog φ) φ Tryz.f162 [.val 0] (z2s φ):=by
 unfold fnO
 show obl _ _ _ _ _ _ _
 unfold z2s
 repeat' (first | exact trivial |(refine⟨?_,?_⟩) |(intro _) | kernel_rfl)
theorem ze7 (φ:Nat):z14 TV Tryz.prog 162 (z4w φ):=
 z1d (N:=z4v Tryz.prog φ) (zy trivial trivial trivial) (z2s φ) Tryz.func162 (by kernel_rfl) (zdl φ) (ze9 φ)
def zb0 (φ:Nat):H TV (RTup TT [.val 11,.val 11]):=(.seq .x (.seq .x (.seq .x (.seq .x (.seq .x (.seq .x (.seq .x (.seq .x (.seq .x (.seq .x (.seq .x (.seq .x (.seq .x (.seq .x (.seq (.join ⟨[(135,[(2,.val 11),(8,.val 11),(9,.val 11),(10,.val 11),(11,.val 11),(13,.val 11),(14,.val 11),(15,.val 11)])],[]⟩ (fun z=>z5l φ z.1 z.2.1 z.2.2.1 z.2.2.2.1 z.2.2.2.2.1 z.2.2.2.2.2.1 z.2.2.2.2.2.2.1 z.2.2.2.2.2.2.2.1) (.body (.loop ⟨[(135,[(2,.val 11),(8,.val 11),(9,.val 11),(10,.val 11),(11,.val 11),(13,.val 11),(14,.val 11),(15,.val 11),(16,.val 11)])],[]⟩ (fun n z=>z5n φ n z.1 z.2.1 z.2.2.1 z.2.2.2.1 z.2.2.2.2.1 z.2.2.2.2.2.1 z.2.2.2.2.2.2.1 z.2.2.2.2.2.2.2.1 z.2.2.2.2.2.2.2.2.1) (fun zk40=>.x)))) (.seq .x (.seq .x (.seq .x (.seq (.join ⟨[(135,[(2,.val 11),(8,.val 11),(14,.val 11),(15,.val 11),(17,.val 11),(18,.val 11)])],[]⟩ (fun z=>z5f φ z.1 z.2.1 z.2.2.1 z.2.2.2.1 z.2.2.2.2.1 z.2.2.2.2.2.1) (.body (.loop ⟨[(135,[(2,.val 11),(8,.val 11),(9,.val 11),(10,.val 11),(14,.val 11),(15,.val 11),(16,.val 11),(17,.val 11),(18,.val 11)])],[]⟩ (fun n z=>z5j φ n z.1 z.2.1 z.2.2.1 z.2.2.2.1 z.2.2.2.2.1 z.2.2.2.2.2.1 z.2.2.2.2.2.2.1 z.2.2.2.2.2.2.2.1 z.2.2.2.2.2.2.2.2.1) (fun zk30=>.x)))) .x)))))))))))))))))))
def zdm (P:Program) (φ:Nat):Env TV:=⟨P,lk [(162,z4w φ)],lk [],lk []⟩
theorem zsr (φ:Nat) (a) :(zei φ).F a=fnX TV (zdm Tryz.prog φ) φ Tryz.f153 [11,11,11] [.val 11,.val 11] (zb0 φ) a:=by kernel_rfl
theorem zs5 (φ:Nat):fnO TV (zdm Tryz.prog φ) φ Tryz.f153 [.val 11,.val 11] (zb0 φ):=by
 unfold fnO
 show obl _ _ _ _ _ _ _
 unfold zb0
 repeat' (first | exact trivial |(refine⟨?_,?_⟩) |(intro _) | kernel_rfl)
theorem zro (φ:Nat):z14 TV Tryz.prog 153 (zei φ):=
 z1d (N:=zdm Tryz.prog φ) (zy ⟨ze7 φ,trivial⟩ trivial trivial) (zb0 φ) Tryz.func153 (by kernel_rfl) (zsr φ) (zs5 φ)
def zfa (φ:Nat):H TV (RTup TT [.val 11]):=(.seq .x (.seq .x (.seq .x (.seq (.seq (.ins 1 125 (.seq .x (.seq (.join ⟨[(25,[(0,.val 11),(2,.val 0)]),(33,[(0,.val 11),(1,.val 11),(5,.func 152 [.ptr 0 0]),(6,.val 11)])],[.box 68 [.val 11]]⟩ (fun z=>zaf φ z.1 z.2.1 z.2.2.1 z.2.2.2.1 z.2.2.2.2.1 z.2.2.2.2.2.1) (.seq .x .x)) (.seq (.join ⟨[(25,[(0,.val 11),(2,.val 0)]),(33,[(0,.val 11),(1,.val 11),(5,.func 152 [.ptr 0 0]),(6,.val 11)])],[.box 68 [.val 11]]⟩ (fun z=>z8m φ z.1 z.2.1 z.2.2.1 z.2.2.2.1 z.2.2.2.2.1 z.2.2.2.2.2.1) (.seq .x .x)) (.seq (.join ⟨[(25,[(0,.val 11),(2,.val 0)]),(33,[(0,.val 11),(1,.val 11),(5,.func 152 [.ptr 0 0]),(6,.val 11)])],[.box 68 [.val 11]]⟩ (fun z=>z8o φ z.1 z.2.1 z.2.2.1 z.2.2.2.1 z.2.2.2.2.1 z.2.2.2.2.2.1) (.seq .x .x)) .x)))) .x) (.body (.loop ⟨[(33,[(0,.val 11),(1,.val 11),(5,.func 152 [.ptr 0 0]),(6,.val 11),(10,.val 0),(11,.val 0)])],[.box 68 [.val 11]]⟩ (fun n z=>z0i φ n z.1 z.2.1 z.2.2.1 z.2.2.2.1 z.2.2.2.2.1 z.2.2.2.2.2.1) (fun zk30=>(.seq .x (.seq .x (.seq (.body (.seq .x (.seq .x (.seq (.ins 2 125 (.seq .x (.seq (.join ⟨[(25,[(0,.val 11),(2,.val 0)]),(33,[(0,.val 11),(1,.val 11),(5,.func 152 [.ptr 0 0]),(6,.val 11),(7,.val 0),(10,.val 0),(11,.val 0),(18,.val 11)])],[.box 68 [.val 11]]⟩ (fun z=>z2u φ (fun a0 a1 a2 a3 a4 a5=>zk30 (a0,a1,a2,a3,a4,a5,())) z.1 z.2.1 z.2.2.1 z.2.2.2.1 z.2.2.2.2.1 z.2.2.2.2.2.1 z.2.2.2.2.2.2.1 z.2.2.2.2.2.2.2.1 z.2.2.2.2.2.2.2.2.1 z.2.2.2.2.2.2.2.2.2.1) (.seq .x .x)) (.seq (.join ⟨[(25,[(0,.val 11),(2,.val 0)]),(33,[(0,.val 11),(1,.val 11),(5,.func 152 [.ptr 0 0]),(6,.val 11),(7,.val 0),(10,.val 0),(11,.val 0),(18,.val 11)])],[.box 68 [.val 11]]⟩ (fun z=>z8f φ (fun a0 a1 a2 a3 a4 a5=>zk30 (a0,a1,a2,a3,a4,a5,())) z.1 z.2.1 z.2.2.1 z.2.2.2.1 z.2.2.2.2.1 z.2.2.2.2.2.1 z.2.2.2.2.2.2.1 z.2.2.2.2.2.2.2.1 z.2.2.2.2.2.2.2.2.1 z.2.2.2.2.2.2.2.2.2.1) (.seq .x .x)) (.seq (.join ⟨[(25,[(0,.val 11),(2,.val 0)]),(33,[(0,.val 11),(1,.val 11),(5,.func 152 [.ptr 0 0]),(6,.val 11),(7,.val 0),(10,.val 0),(11,.val 0),(18,.val 11)])],[.box 68 [.val 11]]⟩ (fun z=>z8g φ (fun a0 a1 a2 a3 a4 a5=>zk30 (a0,a1,a2,a3,a4,a5,())) z.1 z.2.1 z.2.2.1 z.2.2.2.1 z.2.2.2.2.1 z.2.2.2.2.2.1 z.2.2.2.2.2.2.1 z.2.2.2.2.2.2.2.1 z.2.2.2.2.2.2.2.2.1 z.2.2.2.2.2.2.2.2.2.1) (.seq .x .x)) .x)))) .x) .x)))) .x))))))) .x))))
def zi4 (P:Program) (φ:Nat):Env TV:=⟨P,lk [(142,zax φ),(153,zei φ)],lk [],lk []⟩
theorem zz9 (φ:Nat) (a) :(zi7 φ).F a=fnX TV (zi4 Tryz.prog φ) φ Tryz.f95 [11,11] [.val 11] (zfa φ) a:=by kernel_rfl
theorem zz5 (φ:Nat):fnO TV (zi4 Tryz.prog φ) φ Tryz.f95 [.val 11] (zfa φ):=by
 unfold fnO
 show obl _ _ _ _ _ _ _
 unfold zfa
 repeat' (first | exact trivial |(refine⟨?_,?_⟩) |(intro _) | kernel_rfl)
theorem zyu (φ:Nat):z14 TV Tryz.prog 95 (zi7 φ):=
 z1d (N:=zi4 Tryz.prog φ) (zy ⟨zje φ,zro φ,trivial⟩ trivial trivial) (zfa φ) Tryz.func95 (by kernel_rfl) (zz9 φ) (zz5 φ)
def zb5 (φ:Nat):H TV (RTup TT [.val 2]):=.x
def zem (P:Program) (φ:Nat):Env TV:=⟨P,lk [(95,zi7 φ)],lk [],lk []⟩
theorem zr5 (φ:Nat) (a) :(zeh φ).F a=fnX TV (zem Tryz.prog φ) φ Tryz.f60 [11] [.val 2] (zb5 φ) a:=by kernel_rfl
theorem zru (φ:Nat):fnO TV (zem Tryz.prog φ) φ Tryz.f60 [.val 2] (zb5 φ):=by
 unfold fnO
 show obl _ _ _ _ _ _ _
 unfold zb5
 repeat' (first | exact trivial |(refine⟨?_,?_⟩) |(intro _) | kernel_rfl)
theorem zt9 (φ:Nat):z14 TV Tryz.prog 60 (zeh φ):=
 z1d (N:=zem Tryz.prog φ) (zy ⟨zyu φ,trivial⟩ trivial trivial) (zb5 φ) Tryz.func60 (by kernel_rfl) (zr5 φ) (zru φ)
def z56 (φ:Nat):H TV (RTup TT [.val 0]):=(.seq .x (.seq .x (.seq .x (.seq .x (.seq .x (.seq .x (.seq (.seq .x (.body (.loop ⟨[(193,[(1,.ptr 0 0),(5,.val 7),(6,.val 0),(7,.val 2),(57,.val 22),(58,.val 0),(59,.val 0)])],[.box 36 [.val 30]]⟩ (fun n z=>z1j φ n z.1 z.2.1 z.2.2.1 z.2.2.2.1 z.2.2.2.2.1 z.2.2.2.2.2.1 z.2.2.2.2.2.2.1) (fun zk11=>.x)))) (.seq (.seq .x (.body (.loop ⟨[(193,[(1,.ptr 0 0),(5,.val 7),(6,.val 0),(7,.val 2),(92,.val 24),(93,.val 0),(94,.val 0)])],[.box 36 [.val 30]]⟩ (fun n z=>z10 φ n z.1 z.2.1 z.2.2.1 z.2.2.2.1 z.2.2.2.2.1 z.2.2.2.2.2.1 z.2.2.2.2.2.2.1) (fun zk20=>.x)))) (.seq (.seq .x (.body (.loop ⟨[(193,[(1,.ptr 0 0),(5,.val 7),(6,.val 0),(7,.val 2),(120,.val 15),(121,.val 0),(122,.val 0)])],[.box 36 [.val 30]]⟩ (fun n z=>z11 φ n z.1 z.2.1 z.2.2.1 z.2.2.2.1 z.2.2.2.2.1 z.2.2.2.2.2.1 z.2.2.2.2.2.2.1) (fun zk29=>.x)))) (.seq (.seq .x (.body (.loop ⟨[(193,[(1,.ptr 0 0),(6,.val 0),(7,.val 2),(135,.val 7),(136,.val 0),(137,.val 0)])],[.box 36 [.val 30]]⟩ (fun n z=>z0x φ n z.1 z.2.1 z.2.2.1 z.2.2.2.1 z.2.2.2.2.1 z.2.2.2.2.2.1) (fun zk36=>.x)))) (.seq (.seq .x (.body (.loop ⟨[(193,[(1,.ptr 0 0),(6,.val 0),(7,.val 2),(157,.val 9),(158,.val 0),(159,.val 0)])],[.box 36 [.val 30]]⟩ (fun n z=>z0z φ n z.1 z.2.1 z.2.2.1 z.2.2.2.1 z.2.2.2.2.1 z.2.2.2.2.2.1) (fun zk43=>.x)))) (.seq (.seq .x (.body (.loop ⟨[(193,[(7,.val 2),(172,.val 29),(173,.val 0),(174,.val 0)])],[]⟩ (fun n z=>z0y φ n z.1 z.2.1 z.2.2.1 z.2.2.2.1) (fun zk48=>.x)))) .x))))))))))))
def z84 (P:Program) (φ:Nat):Env TV:=⟨P,lk [(56,z3k φ),(57,zbw φ),(58,z6x φ),(59,z8s φ),(60,zeh φ)],lk [],lk []⟩
theorem zi5 (φ:Nat) (a) :(z2e φ).F a=fnX TV (z84 Tryz.prog φ) φ Tryz.f30 [30] [.val 0] (z56 φ) a:=by kernel_rfl
theorem zj4 (φ:Nat):fnO TV (z84 Tryz.prog φ) φ Tryz.f30 [.val 0] (z56 φ):=by
 unfold fnO
 show obl _ _ _ _ _ _ _
 unfold z56
 repeat' (first | exact trivial |(refine⟨?_,?_⟩) |(intro _) | kernel_rfl)
theorem z4z (φ:Nat):z14 TV Tryz.prog 30 (z2e φ):=
 z1d (N:=z84 Tryz.prog φ) (zy ⟨z6n φ,zqp φ,zek φ,zkh φ,zt9 φ,trivial⟩ trivial trivial) (z56 φ) Tryz.func30 (by kernel_rfl) (zi5 φ) (zj4 φ)
def z6w (φ:Nat):H TV (RTup TT [.val 2]):=.x
def zaa (P:Program) (φ:Nat):Env TV:=⟨P,lk [],lk [],lk []⟩
theorem zle (φ:Nat) (a) :(zad φ).F a=fnX TV (zaa Tryz.prog φ) φ Tryz.f48 [35] [.val 2] (z6w φ) a:=by kernel_rfl
theorem zli (φ:Nat):fnO TV (zaa Tryz.prog φ) φ Tryz.f48 [.val 2] (z6w φ):=by
 unfold fnO
 show obl _ _ _ _ _ _ _
 unfold z6w
 repeat' (first | exact trivial |(refine⟨?_,?_⟩) |(intro _) | kernel_rfl)
theorem zmu (φ:Nat):z14 TV Tryz.prog 48 (zad φ):=
 z1d (N:=zaa Tryz.prog φ) (zy trivial trivial trivial) (z6w φ) Tryz.func48 (by kernel_rfl) (zle φ) (zli φ)
def zc8 (φ:Nat):H TV (RTup TT [.val 2]):=(.seq .x (.seq (.seq .x (.body (.loop ⟨[(43,[(0,.val 34),(1,.val 2),(7,.val 34),(8,.val 0),(9,.val 0)])],[]⟩ (fun n z=>z5z φ n z.1 z.2.1 z.2.2.1 z.2.2.2.1 z.2.2.2.2.1) (fun zk8=>.x)))) .x))
def zga (P:Program) (φ:Nat):Env TV:=⟨P,lk [],lk [],lk []⟩
theorem zuq (φ:Nat) (a) :(zg8 φ).F a=fnX TV (zga Tryz.prog φ) φ Tryz.f121 [34,2] [.val 2] (zc8 φ) a:=by kernel_rfl
theorem zv5 (φ:Nat):fnO TV (zga Tryz.prog φ) φ Tryz.f121 [.val 2] (zc8 φ):=by
 unfold fnO
 show obl _ _ _ _ _ _ _
 unfold zc8
 repeat' (first | exact trivial |(refine⟨?_,?_⟩) |(intro _) | kernel_rfl)
theorem zug (φ:Nat):z14 TV Tryz.prog 121 (zg8 φ):=
 z1d (N:=zga Tryz.prog φ) (zy trivial trivial trivial) (zc8 φ) Tryz.func121 (by kernel_rfl) (zuq φ) (zv5 φ)
def zb3 (φ:Nat):H TV (RTup TT [.val 2]):=(.seq .x (.seq .x (.seq (.join ⟨[(46,[(5,.ptr 0 0)])],[.box 182 [.val 36]]⟩ (fun z=>zd φ z.1) (.seq .x (.cond (.ins 0 85 (.seq .x (.seq .x (.seq .x (.seq .x (.body (.seq .x (.cond .x (.seq .x (.cond (.seq (.ins 1 117 (.seq .x (.seq (.join ⟨[(66,[(0,.ptr 0 0),(1,.val 0),(4,.ptr 1 0)]),(135,[(0,.ptr 0 0)]),(46,[(5,.ptr 0 0)])],[.box 182 [.val 36],.box 148 [.val 6]]⟩ (fun z=>z3s φ z.1 z.2.1 z.2.2.1) (.seq .x .x)) .x)) .x) .x) (.seq (.join ⟨[(135,[(0,.ptr 0 0),(2,.ptr 0 9),(20,.val 0),(43,.val 2)]),(46,[(5,.ptr 0 0)])],[.box 182 [.val 36]]⟩ (fun z=>z3c φ z.1 z.2.1 z.2.2.1) (.seq .x .x)) (.cond (.seq (.ins 1 117 (.seq .x (.seq (.join ⟨[(66,[(0,.ptr 0 0),(1,.val 0),(4,.ptr 1 0)]),(135,[(0,.ptr 0 0),(2,.ptr 0 9)]),(46,[(5,.ptr 0 0)])],[.box 182 [.val 36],.box 148 [.val 6]]⟩ (fun z=>z36 φ z.1 z.2.1 z.2.2.1) (.seq .x .x)) .x)) .x) .x) (.seq .x (.cond (.seq .x (.seq .x (.seq (.ins 1 117 (.seq .x (.seq (.join ⟨[(66,[(0,.ptr 0 0),(1,.val 0),(4,.ptr 1 0)]),(135,[(0,.ptr 0 0),(2,.ptr 0 9)]),(46,[(5,.ptr 0 0)])],[.box 182 [.val 36],.box 148 [.val 6]]⟩ (fun z=>z32 φ z.1 z.2.1 z.2.2.1) (.seq .x .x)) .x)) .x) .x))) (.seq (.join ⟨[(135,[(0,.ptr 0 0),(2,.ptr 0 9),(116,.val 2)]),(46,[(5,.ptr 0 0)])],[.box 182 [.val 36]]⟩ (fun z=>z31 φ z.1 z.2.1) (.seq .x .x)) (.cond (.seq (.ins 1 117 (.seq .x (.seq (.join ⟨[(66,[(0,.ptr 0 0),(1,.val 0),(4,.ptr 1 0)]),(135,[(0,.ptr 0 0),(2,.ptr 0 9)]),(46,[(5,.ptr 0 0)])],[.box 182 [.val 36],.box 148 [.val 6]]⟩ (fun z=>z33 φ z.1 z.2.1 z.2.2.1) (.seq .x .x)) .x)) .x) .x) .x))))))))))))))) .x) (.ins 0 86 (.seq .x (.seq .x (.body (.seq .x (.cond .x (.seq .x (.cond (.seq .x (.seq (.ins 1 117 (.seq .x (.seq (.join ⟨[(66,[(0,.ptr 0 0),(1,.val 0),(4,.ptr 1 0)]),(168,[(0,.ptr 0 0),(2,.ptr 0 9)]),(46,[(5,.ptr 0 0)])],[.box 182 [.val 36],.box 148 [.val 6]]⟩ (fun z=>z3a φ z.1 z.2.1 z.2.2.1) (.seq .x .x)) .x)) .x) .x)) (.seq .x (.cond .x (.seq (.join ⟨[(168,[(0,.ptr 0 0),(2,.ptr 0 9),(9,.val 0),(91,.val 2)]),(46,[(5,.ptr 0 0)])],[.box 182 [.val 36]]⟩ (fun z=>z15 φ z.1 z.2.1 z.2.2.1) (.seq .x .x)) (.cond .x (.seq .x (.cond .x (.seq .x (.cond (.seq .x (.seq (.ins 1 117 (.seq .x (.seq (.join ⟨[(66,[(0,.ptr 0 0),(1,.val 0),(4,.ptr 1 0)]),(168,[(0,.ptr 0 0),(2,.ptr 0 9)]),(46,[(5,.ptr 0 0)])],[.box 182 [.val 36],.box 148 [.val 6]]⟩ (fun z=>z3e φ z.1 z.2.1 z.2.2.1) (.seq .x .x)) .x)) .x) .x)) .x))))))))))))))) .x)))) (.seq (.seq .x (.body (.unr 12 .x))) .x))))
def zdw (P:Program) (φ:Nat):Env TV:=⟨P,lk [(121,zg8 φ)],lk [],lk []⟩
theorem zsz (φ:Nat) (a) :(zew φ).F a=fnX TV (zdw Tryz.prog φ) φ Tryz.f49 [30,35] [.val 2] (zb3 φ) a:=by kernel_rfl
theorem zrw (φ:Nat):fnO TV (zdw Tryz.prog φ) φ Tryz.f49 [.val 2] (zb3 φ):=by
 unfold fnO
 show obl _ _ _ _ _ _ _
 unfold zb3
 repeat' (first | exact trivial |(refine⟨?_,?_⟩) |(intro _) | kernel_rfl)
theorem zs1 (φ:Nat):z14 TV Tryz.prog 49 (zew φ):=
 z1d (N:=zdw Tryz.prog φ) (zy ⟨zug φ,trivial⟩ trivial trivial) (zb3 φ) Tryz.func49 (by kernel_rfl) (zsz φ) (zrw φ)
def zc6 (φ:Nat):H TV (RTup TT [.val 0]):=.x
def zg1 (P:Program) (φ:Nat):Env TV:=⟨P,lk [(30,z2e φ),(48,zad φ),(49,zew φ)],lk [],lk []⟩
theorem zu7 (φ:Nat) (a) :(zg5 φ).F a=fnX TV (zg1 Tryz.prog φ) φ Tryz.f20 [30,35] [.val 0] (zc6 φ) a:=by kernel_rfl
theorem zuy (φ:Nat):fnO TV (zg1 Tryz.prog φ) φ Tryz.f20 [.val 0] (zc6 φ):=by
 unfold fnO
 show obl _ _ _ _ _ _ _
 unfold zc6
 repeat' (first | exact trivial |(refine⟨?_,?_⟩) |(intro _) | kernel_rfl)
theorem zv9 (φ:Nat):z14 TV Tryz.prog 20 (zg5 φ):=
 z1d (N:=zg1 Tryz.prog φ) (zy ⟨z4z φ,zmu φ,zs1 φ,trivial⟩ trivial trivial) (zc6 φ) Tryz.func20 (by kernel_rfl) (zu7 φ) (zuy φ)
def z6g (φ:Nat):H TV (RTup TT [.val 5]):=(.seq .x (.seq .x (.seq (.seq .x (.body (.loop ⟨[(26,[(2,.ptr 0 0),(5,.own 1),(8,.val 38),(9,.val 0),(10,.val 0)])],[.box 36 [.val 30],.row 3 0]⟩ (fun n z=>z27 φ n z.1 z.2.1 z.2.2.1 z.2.2.2.1 z.2.2.2.2.1) (fun zk8=>.x)))) .x)))
def z9s (P:Program) (φ:Nat):Env TV:=⟨P,lk [(20,zg5 φ)],lk [],lk []⟩
theorem zmi (φ:Nat) (a) :(za1 φ).F a=fnX TV (z9s Tryz.prog φ) φ Tryz.f61 [30,38] [.val 5] (z6g φ) a:=by kernel_rfl
theorem zlj (φ:Nat):fnO TV (z9s Tryz.prog φ) φ Tryz.f61 [.val 5] (z6g φ):=by
 unfold fnO
 show obl _ _ _ _ _ _ _
 unfold z6g
 repeat' (first | exact trivial |(refine⟨?_,?_⟩) |(intro _) | kernel_rfl)
theorem zm3 (φ:Nat):z14 TV Tryz.prog 61 (za1 φ):=
 z1d (N:=z9s Tryz.prog φ) (zy ⟨zv9 φ,trivial⟩ trivial trivial) (z6g φ) Tryz.func61 (by kernel_rfl) (zmi φ) (zlj φ)
def z4m (φ:Nat):H TV (RTup TT [.val 4]):=.x
def z6s (P:Program) (φ:Nat):Env TV:=⟨P,lk [],lk [],lk []⟩
theorem zhw (φ:Nat) (a b) :(z72 φ).F a b=fnXc TV (z6s Tryz.prog φ) φ Tryz.f96 [0,0] [.b (.val 35),.b (.val 37),.b (.val 0)] [.val 4] (z4m φ) a b:=by kernel_rfl
theorem zgj (φ:Nat):fnO TV (z6s Tryz.prog φ) φ Tryz.f96 [.val 4] (z4m φ):=by
 unfold fnO
 show obl _ _ _ _ _ _ _
 unfold z4m
 repeat' (first | exact trivial |(refine⟨?_,?_⟩) |(intro _) | kernel_rfl)
theorem zgt (φ:Nat):y5h TV Tryz.prog 96 (z72 φ):=
 ybz (N:=z6s Tryz.prog φ) (zy trivial trivial trivial) (z4m φ) Tryz.func96 (by kernel_rfl) (zhw φ) (zgj φ)
theorem zds (φ:Nat) (x14:Item) (x15:zc) (x16:Int):z0h (z1y φ x14 x15 x16) (z5v φ x14 x15 x16):=by
 unfold z1y z5v
 repeat' (first | exact z0h.one | exact z0h.nil | refine z0h.cons ?_ ?_ | refine z0h.ck ?_ | exact z0h.same (n:=2) rfl | exact z0h.same (n:=3) rfl | exact z0h.same (n:=4) rfl | exact z0h.same (n:=6) rfl | refine z0h.bind fun _=>?_)
def z5s (φ:Nat):H TV (RTup TT [.val 39]):=(.seq .x (.seq .x (.seq .x (.seq (.seq .x (.body (.seq .x (.cond .x (.seq (.join ⟨[(68,[(7,.ptr 0 0),(8,.func 96 [.ptr 0 0,.ptr 1 0,.ptr 2 0]),(16,.val 0),(35,.val 2)])],[.box 61 [.val 35],.box 63 [.val 37],.box 3 [.val 0]]⟩ (fun z=>z05 φ z.1 z.2.1 z.2.2.1 z.2.2.2.1 z.2.2.2.2.1) (.seq .x .x)) (.cond (.seq (.join ⟨[(68,[(10,.ptr 0 0),(11,.ptr 1 0)])],[.box 103 [.val 4],.box 103 [.val 4]]⟩ (fun z=>z1z φ z.1 z.2.1) (.alt ⟨[(68,[(7,.ptr 0 0),(8,.func 96 [.ptr 0 0,.ptr 1 0,.ptr 2 0])])],[.box 61 [.val 35],.box 63 [.val 37],.box 3 [.val 0]]⟩ (fun z=>z1y φ z.1 z.2.1 z.2.2.1) (fun z=>z5v φ z.1 z.2.1 z.2.2.1))) .x) (.seq (.join ⟨[(68,[(7,.ptr 0 0),(8,.func 96 [.ptr 0 0,.ptr 1 0,.ptr 2 0]),(56,.val 2)])],[.box 61 [.val 35],.box 63 [.val 37],.box 3 [.val 0]]⟩ (fun z=>z04 φ z.1 z.2.1 z.2.2.1 z.2.2.2.1) (.seq .x .x)) .x))))))) .x))))
def z8w (P:Program) (φ:Nat):Env TV:=⟨P,lk [],lk [],lk [(96,z72 φ)]⟩
theorem zjy (φ:Nat) (a) :(z8q φ).F a=fnX TV (z8w Tryz.prog φ) φ Tryz.f62 [30,37,0] [.val 39] (z5s φ) a:=by kernel_rfl
theorem zk2 (φ:Nat):fnO TV (z8w Tryz.prog φ) φ Tryz.f62 [.val 39] (z5s φ):=by
 unfold fnO
 show obl _ _ _ _ _ _ _
 unfold z5s
 repeat' (first | exact trivial |(refine⟨?_,?_⟩) |(intro _) | kernel_rfl | exact zds ..)
theorem zk3 (φ:Nat):z14 TV Tryz.prog 62 (z8q φ):=
 z1d (N:=z8w Tryz.prog φ) (zy trivial trivial ⟨zgt φ,trivial⟩) (z5s φ) Tryz.func62 (by kernel_rfl) (zjy φ) (zk2 φ)
def z8e (φ:Nat):H TV (RTup TT [.val 40]):=(.seq .x (.seq .x (.seq (.seq .x (.body (.loop ⟨[(63,[(1,.val 38),(2,.ptr 0 0),(5,.own 1),(19,.val 5),(20,.val 0),(21,.val 0)])],[.box 36 [.val 30],.nst 101 103 39 none]⟩ (fun n z=>z23 φ n z.1 z.2.1 z.2.2.1 z.2.2.2.1 z.2.2.2.2.1 z.2.2.2.2.2.1) (fun zk10=>(.seq .x (.seq .x (.seq (.body (.seq .x (.seq .x (.seq .x (.cond (.seq .x (.foc (5,none) (9,none) .x)) .x))))) .x))))))) (.seq (.seq .x (.body (.loop ⟨[(63,[(5,.own 0),(51,.own 0),(52,.val 0),(53,.val 0)])],[.nst 101 103 39 none]⟩ (fun n z=>z1e φ n z.1 z.2.1 z.2.2.1) (fun zk15=>(.seq .x (.seq .x (.seq (.body (.seq (.foc (5,none) (53,none) .x) (.seq .x (.ins 1 68 (.seq .x (.seq .x (.body (.loop ⟨[(48,[(0,.own 0),(2,.own 1),(6,.val 0),(7,.val 0)]),(63,[(5,.own 2),(51,.own 2),(52,.val 0),(53,.val 0)])],[.row 103 4,.map 0 2,.nst 101 103 39 (some 0)]⟩ (fun n z=>z0t φ (fun a0 a1 a2=>zk15 (a0,a1,a2,())) n z.1 z.2.1 z.2.2.1 z.2.2.2.1 z.2.2.2.2.1 z.2.2.2.2.2.1 z.2.2.2.2.2.2.1 z.2.2.2.2.2.2.2.1) (fun zk25=>(.seq .x (.seq .x (.seq (.body (.seq .x (.seq (.join ⟨[(48,[(0,.own 0),(2,.own 1),(3,.val 0),(6,.val 0),(7,.val 0)]),(63,[(5,.own 2),(51,.own 2),(52,.val 0),(53,.val 0)])],[.row 103 4,.map 0 2,.nst 101 103 39 (some 0)]⟩ (fun z=>z2q φ (fun a0 a1 a2 a3 a4 a5 a6 a7=>zk25 (a0,a1,a2,a3,a4,a5,a6,a7,())) z.1 z.2.1 z.2.2.1 z.2.2.2.1 z.2.2.2.2.1 z.2.2.2.2.2.1 z.2.2.2.2.2.2.1 z.2.2.2.2.2.2.2.1 z.2.2.2.2.2.2.2.2.1) (.seq .x .x)) .x))) .x)))))))) .x)))) .x))))))) .x))))
def zba (P:Program) (φ:Nat):Env TV:=⟨P,lk [(61,za1 φ),(62,z8q φ)],lk [(63,zwy)],lk []⟩
theorem zng (φ:Nat) (a) :(z5m φ).F a=fnX TV (zba Tryz.prog φ) φ Tryz.f31 [30,38] [.val 40] (z8e φ) a:=by kernel_rfl
theorem zn6 (φ:Nat):fnO TV (zba Tryz.prog φ) φ Tryz.f31 [.val 40] (z8e φ):=by
 unfold fnO
 show obl _ _ _ _ _ _ _
 unfold z8e
 repeat' (first | exact trivial |(refine⟨?_,?_⟩) |(intro _) | kernel_rfl)
theorem zbc (φ:Nat):z14 TV Tryz.prog 31 (z5m φ):=
 z1d (N:=zba Tryz.prog φ) (zy ⟨zm3 φ,zk3 φ,trivial⟩ ⟨y5g,trivial⟩ trivial) (z8e φ) Tryz.func31 (by kernel_rfl) (zng φ) (zn6 φ)
def z9c (φ:Nat):H TV (RTup TT [.val 41]):=(.seq .x (.seq .x (.seq .x (.seq (.seq .x (.body (.loop ⟨[(43,[(7,.own 0),(30,.val 39),(31,.val 0),(32,.val 0)])],[.row 91 3]⟩ (fun n z=>za2 φ n z.1 z.2.1 z.2.2.1 z.2.2.2.1) (fun zk10=>.x)))) .x))))
def zbu (P:Program) (φ:Nat):Env TV:=⟨P,lk [(30,z2e φ),(31,z5m φ)],lk [],lk []⟩
theorem zqe (φ:Nat) (a) :(zcn φ).F a=fnX TV (zbu Tryz.prog φ) φ Tryz.f16 [30,38,0] [.val 41] (z9c φ) a:=by kernel_rfl
theorem zqy (φ:Nat):fnO TV (zbu Tryz.prog φ) φ Tryz.f16 [.val 41] (z9c φ):=by
 unfold fnO
 show obl _ _ _ _ _ _ _
 unfold z9c
 repeat' (first | exact trivial |(refine⟨?_,?_⟩) |(intro _) | kernel_rfl)
theorem zpm (φ:Nat):z14 TV Tryz.prog 16 (zcn φ):=
 z1d (N:=zbu Tryz.prog φ) (zy ⟨z4z φ,zbc φ,trivial⟩ trivial trivial) (z9c φ) Tryz.func16 (by kernel_rfl) (zqe φ) (zqy φ)
def z54 (φ:Nat):H TV (RTup TT [.val 0,.val 0]):=(.seq .x (.seq (.ins 4 53 (.seq .x (.seq .x (.seq (.seq .x (.body (.loop ⟨[(77,[(2,.ptr 0 0),(4,.ptr 1 0),(19,.own 2),(20,.val 0),(21,.val 0)]),(30,[(1,.val 0),(2,.val 0),(3,.ptr 3 0)])],[.box 25 [.val 10],.box 142 [.own 4,.raw (.map none)],.row 3 0,.box 25 [.val 10],.row 66 5]⟩ (fun n z=>z09 φ n z.1 z.2.1 z.2.2.1 z.2.2.2.1 z.2.2.2.2.1 z.2.2.2.2.2.1 z.2.2.2.2.2.2.1 z.2.2.2.2.2.2.2.1) (fun zk13=>.x)))) (.seq .x (.seq .x (.seq (.seq .x (.body (.loop ⟨[(77,[(4,.ptr 0 0),(8,.func 91 [.ptr 0 0,.ptr 1 0]),(44,.val 9),(45,.val 0),(46,.val 0)]),(30,[(1,.val 0),(2,.val 0),(3,.ptr 2 0)])],[.box 142 [.own 3,.own 4],.box 25 [.val 10],.box 25 [.val 10],.nst 66 3 5 none,.map 42 0]⟩ (fun n z=>zl φ n z.1 z.2.1 z.2.2.1 z.2.2.2.1 z.2.2.2.2.1 z.2.2.2.2.2.1 z.2.2.2.2.2.2.1 z.2.2.2.2.2.2.2.1 z.2.2.2.2.2.2.2.2.1) (fun zk23=>(.seq .x (.seq .x (.seq (.body (.seq .x (.seq (.ins 6 91 (.seq .x (.seq .x (.seq (.join ⟨[(56,[(2,.val 0),(3,.ptr 0 0),(4,.ptr 1 0),(8,.ptr 2 0),(9,.val 0),(10,.val 2)]),(77,[(4,.ptr 0 0),(8,.func 91 [.ptr 0 0,.ptr 1 0]),(9,.val 0),(10,.ptr 3 0),(44,.val 9),(45,.val 0),(46,.val 0)]),(30,[(1,.val 0),(2,.val 0),(3,.ptr 4 0)])],[.box 142 [.own 5,.own 6],.box 25 [.val 10],.box 190 [.val 42],.box 150 [.val 8],.box 25 [.val 10],.nst 66 3 5 none,.map 42 0]⟩ (fun z=>z2h φ (fun a0 a1 a2 a3 a4 a5 a6 a7 a8=>zk23 (a0,a1,a2,a3,a4,a5,a6,a7,a8,())) z.1 z.2.1 z.2.2.1 z.2.2.2.1 z.2.2.2.2.1 z.2.2.2.2.2.1 z.2.2.2.2.2.2.1 z.2.2.2.2.2.2.2.1 z.2.2.2.2.2.2.2.2.1 z.2.2.2.2.2.2.2.2.2.1 z.2.2.2.2.2.2.2.2.2.2.1 z.2.2.2.2.2.2.2.2.2.2.2.1 z.2.2.2.2.2.2.2.2.2.2.2.2.1 z.2.2.2.2.2.2.2.2.2.2.2.2.2.1 z.2.2.2.2.2.2.2.2.2.2.2.2.2.2.1) (.seq .x (.cond (.foc (3,some 0) (0,none) .x) .x))) .x))) .x) (.ins 6 91 (.seq .x (.seq .x (.seq (.join ⟨[(56,[(2,.val 0),(3,.ptr 0 0),(4,.ptr 1 0),(8,.ptr 2 0),(9,.val 0),(10,.val 2)]),(77,[(4,.ptr 0 0),(8,.func 91 [.ptr 0 0,.ptr 1 0]),(44,.val 9),(45,.val 0),(46,.val 0)]),(30,[(1,.val 0),(2,.val 0),(3,.ptr 3 0)])],[.box 142 [.own 4,.own 5],.box 25 [.val 10],.box 190 [.val 42],.box 25 [.val 10],.nst 66 3 5 none,.map 42 0]⟩ (fun z=>z2m φ (fun a0 a1 a2 a3 a4 a5 a6 a7 a8=>zk23 (a0,a1,a2,a3,a4,a5,a6,a7,a8,())) z.1 z.2.1 z.2.2.1 z.2.2.2.1 z.2.2.2.2.1 z.2.2.2.2.2.1 z.2.2.2.2.2.2.1 z.2.2.2.2.2.2.2.1 z.2.2.2.2.2.2.2.2.1 z.2.2.2.2.2.2.2.2.2.1 z.2.2.2.2.2.2.2.2.2.2.1 z.2.2.2.2.2.2.2.2.2.2.2.1 z.2.2.2.2.2.2.2.2.2.2.2.2.1) (.seq .x (.cond (.foc (3,some 0) (0,none) .x) .x))) .x))) .x)))) .x))))))) (.seq (.seq .x (.body (.loop ⟨[(77,[(4,.ptr 0 0),(67,.own 1),(68,.val 0),(69,.val 0)]),(30,[(1,.val 0),(2,.val 0),(3,.ptr 2 0)])],[.box 142 [.own 1,.own 3],.nst 66 3 5 none,.box 25 [.val 10],.map 42 0]⟩ (fun n z=>z0v φ n z.1 z.2.1 z.2.2.1 z.2.2.2.1 z.2.2.2.2.1 z.2.2.2.2.2.1 z.2.2.2.2.2.2.1) (fun zk75=>(.seq .x (.seq .x (.seq (.body (.seq (.foc (67,none) (69,none) .x) .x)) .x))))))) .x))))))) .x) (.seq .x (.seq (.seq (.ins 3 54 (.seq .x (.seq .x (.seq .x (.seq (.seq .x (.body (.loop ⟨[(118,[(2,.val 0),(3,.ptr 0 0),(4,.ptr 1 0),(7,.own 2),(8,.own 3),(23,.val 0),(24,.val 0)]),(30,[(2,.val 0)])],[.box 25 [.val 10],.box 142 [.own 4,.own 5],.row 3 0,.fix 4 2,.nst 66 3 5 none,.map 42 0]⟩ (fun n z=>zw φ n z.1 z.2.1 z.2.2.1 z.2.2.2.1 z.2.2.2.2.1 z.2.2.2.2.2.1 z.2.2.2.2.2.2.1 z.2.2.2.2.2.2.2.1 z.2.2.2.2.2.2.2.2.1) (fun zk86=>.x)))) (.seq .x (.body (.loop ⟨[(118,[(3,.ptr 0 0),(4,.ptr 1 0),(7,.own 2),(8,.own 3)]),(30,[(2,.val 0)])],[.box 25 [.val 10],.box 142 [.own 4,.own 5],.row 3 0,.fix 4 2,.nst 66 3 5 none,.map 42 0]⟩ (fun n z=>zn φ n z.1 z.2.1 z.2.2.1 z.2.2.2.1 z.2.2.2.2.1 z.2.2.2.2.2.1) (fun zk93=>(.body (.seq .x (.seq (.seq .x (.body (.loop ⟨[(118,[(3,.ptr 0 0),(4,.ptr 1 0),(7,.own 2),(8,.own 3),(10,.val 0),(35,.val 0),(36,.val 0)]),(30,[(2,.val 0)])],[.box 25 [.val 10],.box 142 [.own 4,.own 5],.row 3 0,.fix 4 2,.nst 66 3 5 none,.map 42 0]⟩ (fun n z=>z0p φ (fun a0 a1 a2 a3 a4 a5=>zk93 (a0,a1,a2,a3,a4,a5,())) n z.1 z.2.1 z.2.2.1 z.2.2.2.1 z.2.2.2.2.1 z.2.2.2.2.2.1 z.2.2.2.2.2.2.1 z.2.2.2.2.2.2.2.1 z.2.2.2.2.2.2.2.2.1) (fun zk103=>.x)))) (.seq .x (.seq .x (.seq (.foc (4,some 0) (10,none) .x) (.body (.loop ⟨[(118,[(3,.ptr 0 0),(4,.ptr 1 0),(7,.own 2),(8,.own 3),(10,.val 0),(78,.own 4),(79,.val 0),(80,.val 0)]),(30,[(2,.val 0)])],[.box 25 [.val 10],.box 142 [.own 5,.own 6],.row 3 0,.fix 4 2,.row 3 0,.nst 66 3 5 (some 4),.map 42 0]⟩ (fun n z=>z0q φ (fun a0 a1 a2 a3 a4 a5=>zk93 (a0,a1,a2,a3,a4,a5,())) n z.1 z.2.1 z.2.2.1 z.2.2.2.1 z.2.2.2.2.1 z.2.2.2.2.2.1 z.2.2.2.2.2.2.1 z.2.2.2.2.2.2.2.1 z.2.2.2.2.2.2.2.2.1 z.2.2.2.2.2.2.2.2.2.1 z.2.2.2.2.2.2.2.2.2.2.1) (fun zk115=>.x))))))))))))))))) .x) .x) .x))))
def z7p (P:Program) (φ:Nat):Env TV:=⟨P,lk [(56,z3k φ)],lk [(92,zhq)],lk []⟩
theorem zin (φ:Nat) (a) :(z5c φ).F a=fnX TV (z7p Tryz.prog φ) φ Tryz.f27 [10,0,0] [.val 0,.val 0] (z54 φ) a:=by kernel_rfl
theorem ziz (φ:Nat):fnO TV (z7p Tryz.prog φ) φ Tryz.f27 [.val 0,.val 0] (z54 φ):=by
 unfold fnO
 show obl _ _ _ _ _ _ _
 unfold z54
 repeat' (first | exact trivial |(refine⟨?_,?_⟩) |(intro _) | kernel_rfl)
theorem zbo (φ:Nat):z14 TV Tryz.prog 27 (z5c φ):=
 z1d (N:=z7p Tryz.prog φ) (zy ⟨z6n φ,trivial⟩ ⟨zlq,trivial⟩ trivial) (z54 φ) Tryz.func27 (by kernel_rfl) (zin φ) (ziz φ)
def z8b (φ:Nat):H TV (RTup TT [.val 0]):=.x
def zbe (P:Program) (φ:Nat):Env TV:=⟨P,lk [(27,z5c φ)],lk [],lk []⟩
theorem znk (φ:Nat) (a) :(zb8 φ).F a=fnX TV (zbe Tryz.prog φ) φ Tryz.f33 [10,3,3] [.val 0] (z8b φ) a:=by kernel_rfl
theorem zn0 (φ:Nat):fnO TV (zbe Tryz.prog φ) φ Tryz.f33 [.val 0] (z8b φ):=by
 unfold fnO
 show obl _ _ _ _ _ _ _
 unfold z8b
 repeat' (first | exact trivial |(refine⟨?_,?_⟩) |(intro _) | kernel_rfl)
theorem znp (φ:Nat):z14 TV Tryz.prog 33 (zb8 φ):=
 z1d (N:=zbe Tryz.prog φ) (zy ⟨zbo φ,trivial⟩ trivial trivial) (z8b φ) Tryz.func33 (by kernel_rfl) (znk φ) (zn0 φ)
def z9a (φ:Nat):H TV (RTup TT [.val 49,.val 0]):=(.seq .x (.seq .x (.seq .x (.seq .x (.seq .x (.seq (.seq .x (.body (.loop ⟨[(257,[(2,.ptr 0 0),(4,.ptr 1 0),(7,.val 40),(8,.ptr 2 0),(9,.own 3),(40,.val 40),(41,.val 0),(42,.val 0)])],[.box 36 [.val 30],.box 46 [.val 0,.own 4,.own 5,.own 6],.box 99 [.val 0,.own 7,.own 8,.own 9],.map 0 0,.row 94 43,.row 108 45,.row 87 47,.row 94 43,.row 108 45,.row 87 47]⟩ (fun n z=>z1s φ n z.1 z.2.1 z.2.2.1 z.2.2.2.1 z.2.2.2.2.1 z.2.2.2.2.2.1 z.2.2.2.2.2.2.1 z.2.2.2.2.2.2.2.1 z.2.2.2.2.2.2.2.2.1 z.2.2.2.2.2.2.2.2.2.1 z.2.2.2.2.2.2.2.2.2.2.1 z.2.2.2.2.2.2.2.2.2.2.2.1 z.2.2.2.2.2.2.2.2.2.2.2.2.1 z.2.2.2.2.2.2.2.2.2.2.2.2.2.1) (fun zk19=>(.seq .x (.seq .x (.seq (.body (.seq .x (.seq .x (.body (.loop ⟨[(257,[(2,.ptr 0 0),(4,.ptr 1 0),(7,.val 40),(8,.ptr 2 0),(9,.own 3),(40,.val 40),(41,.val 0),(42,.val 0),(46,.val 39),(47,.val 0),(48,.val 0)])],[.box 36 [.val 30],.box 46 [.val 0,.own 4,.own 5,.own 6],.box 99 [.val 0,.own 7,.own 8,.own 9],.map 0 0,.row 94 43,.row 108 45,.row 87 47,.row 94 43,.row 108 45,.row 87 47]⟩ (fun n z=>z1p φ (fun a0 a1 a2 a3 a4 a5 a6 a7 a8 a9 a10 a11 a12 a13=>zk19 (a0,a1,a2,a3,a4,a5,a6,a7,a8,a9,a10,a11,a12,a13,())) n z.1 z.2.1 z.2.2.1 z.2.2.2.1 z.2.2.2.2.1 z.2.2.2.2.2.1 z.2.2.2.2.2.2.1 z.2.2.2.2.2.2.2.1 z.2.2.2.2.2.2.2.2.1 z.2.2.2.2.2.2.2.2.2.1 z.2.2.2.2.2.2.2.2.2.2.1 z.2.2.2.2.2.2.2.2.2.2.2.1 z.2.2.2.2.2.2.2.2.2.2.2.2.1 z.2.2.2.2.2.2.2.2.2.2.2.2.2.1 z.2.2.2.2.2.2.2.2.2.2.2.2.2.2.1 z.2.2.2.2.2.2.2.2.2.2.2.2.2.2.2.1 z.2.2.2.2.2.2.2.2.2.2.2.2.2.2.2.2.1) (fun zk37=>.x)))))) .x))))))) (.seq (.seq .x (.body (.loop ⟨[(257,[(2,.ptr 0 0),(4,.ptr 1 0),(7,.val 40),(8,.ptr 2 0),(9,.own 3),(61,.val 22),(62,.val 0),(63,.val 0)])],[.box 36 [.val 30],.box 46 [.val 0,.own 4,.own 5,.own 6],.box 99 [.val 0,.own 7,.own 8,.own 9],.map 0 0,.row 94 43,.row 108 45,.row 87 47,.row 94 43,.row 108 45,.row 87 47]⟩ (fun n z=>z1a φ n z.1 z.2.1 z.2.2.1 z.2.2.2.1 z.2.2.2.2.1 z.2.2.2.2.2.1 z.2.2.2.2.2.2.1 z.2.2.2.2.2.2.2.1 z.2.2.2.2.2.2.2.2.1 z.2.2.2.2.2.2.2.2.2.1 z.2.2.2.2.2.2.2.2.2.2.1 z.2.2.2.2.2.2.2.2.2.2.2.1 z.2.2.2.2.2.2.2.2.2.2.2.2.1 z.2.2.2.2.2.2.2.2.2.2.2.2.2.1) (fun zk52=>(.seq .x (.seq .x (.seq (.body (.seq .x (.seq .x (.seq .x (.cond (.seq .x (.seq (.ins 20 32 (.seq .x (.seq .x (.body (.loop ⟨[(39,[(0,.ptr 0 0),(4,.ptr 1 0),(8,.own 2),(9,.val 0),(10,.val 0)]),(257,[(2,.ptr 3 0),(4,.ptr 4 0),(7,.val 40),(8,.ptr 0 0),(9,.own 5),(61,.val 22),(62,.val 0),(63,.val 0),(82,.ptr 0 0),(83,.val 45),(84,.ptr 0 0),(85,.ptr 0 0),(86,.ptr 0 0),(87,.ptr 0 0),(88,.val 0),(89,.ptr 6 1),(90,.val 0),(91,.val 0),(92,.val 43),(93,.ptr 0 0),(94,.ptr 0 0),(95,.ptr 0 0),(96,.ptr 0 0),(97,.val 0),(98,.ptr 6 2),(99,.val 0),(100,.val 43),(101,.own 2)])],[.box 99 [.val 0,.own 7,.own 8,.own 9],.box 108 [.val 45],.row 94 43,.box 36 [.val 30],.box 46 [.val 0,.own 10,.own 11,.own 12],.map 0 0,.box 105 [.val 21],.row 94 43,.row 108 45,.row 87 47,.row 94 43,.row 108 45,.row 87 47]⟩ (fun n z=>z2j φ (fun a0 a1 a2 a3 a4 a5 a6 a7 a8 a9 a10 a11 a12 a13=>zk52 (a0,a1,a2,a3,a4,a5,a6,a7,a8,a9,a10,a11,a12,a13,())) n z.1 z.2.1 z.2.2.1 z.2.2.2.1 z.2.2.2.2.1 z.2.2.2.2.2.1 z.2.2.2.2.2.2.1 z.2.2.2.2.2.2.2.1 z.2.2.2.2.2.2.2.2.1 z.2.2.2.2.2.2.2.2.2.1 z.2.2.2.2.2.2.2.2.2.2.1 z.2.2.2.2.2.2.2.2.2.2.2.1 z.2.2.2.2.2.2.2.2.2.2.2.2.1 z.2.2.2.2.2.2.2.2.2.2.2.2.2.1 z.2.2.2.2.2.2.2.2.2.2.2.2.2.2.1 z.2.2.2.2.2.2.2.2.2.2.2.2.2.2.2.1 z.2.2.2.2.2.2.2.2.2.2.2.2.2.2.2.2.1 z.2.2.2.2.2.2.2.2.2.2.2.2.2.2.2.2.2.1 z.2.2.2.2.2.2.2.2.2.2.2.2.2.2.2.2.2.2.1 z.2.2.2.2.2.2.2.2.2.2.2.2.2.2.2.2.2.2.2.1 z.2.2.2.2.2.2.2.2.2.2.2.2.2.2.2.2.2.2.2.2.1 z.2.2.2.2.2.2.2.2.2.2.2.2.2.2.2.2.2.2.2.2.2.1 z.2.2.2.2.2.2.2.2.2.2.2.2.2.2.2.2.2.2.2.2.2.2.1 z.2.2.2.2.2.2.2.2.2.2.2.2.2.2.2.2.2.2.2.2.2.2.2.1 z.2.2.2.2.2.2.2.2.2.2.2.2.2.2.2.2.2.2.2.2.2.2.2.2.1 z.2.2.2.2.2.2.2.2.2.2.2.2.2.2.2.2.2.2.2.2.2.2.2.2.2.1 z.2.2.2.2.2.2.2.2.2.2.2.2.2.2.2.2.2.2.2.2.2.2.2.2.2.2.1) (fun zk80=>.x))))) .x) .x)) .x))))) .x))))))) (.seq (.seq .x (.body (.loop ⟨[(257,[(2,.ptr 0 0),(4,.ptr 1 0),(8,.ptr 2 0),(9,.own 3),(113,.val 40),(114,.val 0),(115,.val 0)])],[.box 36 [.val 30],.box 46 [.val 0,.own 4,.own 5,.own 6],.box 99 [.val 0,.own 7,.own 8,.own 9],.map 0 0,.row 94 43,.row 108 45,.row 87 47,.row 94 43,.row 108 45,.row 87 47]⟩ (fun n z=>z1t φ n z.1 z.2.1 z.2.2.1 z.2.2.2.1 z.2.2.2.2.1 z.2.2.2.2.2.1 z.2.2.2.2.2.2.1 z.2.2.2.2.2.2.2.1 z.2.2.2.2.2.2.2.2.1 z.2.2.2.2.2.2.2.2.2.1 z.2.2.2.2.2.2.2.2.2.2.1 z.2.2.2.2.2.2.2.2.2.2.2.1 z.2.2.2.2.2.2.2.2.2.2.2.2.1) (fun zk94=>(.seq .x (.seq .x (.seq (.body (.seq .x (.seq .x (.body (.loop ⟨[(257,[(2,.ptr 0 0),(4,.ptr 1 0),(8,.ptr 2 0),(9,.own 3),(19,.val 39),(113,.val 40),(114,.val 0),(115,.val 0),(119,.val 39),(120,.val 0),(121,.val 0)])],[.box 36 [.val 30],.box 46 [.val 0,.own 4,.own 5,.own 6],.box 99 [.val 0,.own 7,.own 8,.own 9],.map 0 0,.row 94 43,.row 108 45,.row 87 47,.row 94 43,.row 108 45,.row 87 47]⟩ (fun n z=>z0b φ (fun a0 a1 a2 a3 a4 a5 a6 a7 a8 a9 a10 a11 a12=>zk94 (a0,a1,a2,a3,a4,a5,a6,a7,a8,a9,a10,a11,a12,())) n z.1 z.2.1 z.2.2.1 z.2.2.2.1 z.2.2.2.2.1 z.2.2.2.2.2.1 z.2.2.2.2.2.2.1 z.2.2.2.2.2.2.2.1 z.2.2.2.2.2.2.2.2.1 z.2.2.2.2.2.2.2.2.2.1 z.2.2.2.2.2.2.2.2.2.2.1 z.2.2.2.2.2.2.2.2.2.2.2.1 z.2.2.2.2.2.2.2.2.2.2.2.2.1 z.2.2.2.2.2.2.2.2.2.2.2.2.2.1 z.2.2.2.2.2.2.2.2.2.2.2.2.2.2.1 z.2.2.2.2.2.2.2.2.2.2.2.2.2.2.2.1 z.2.2.2.2.2.2.2.2.2.2.2.2.2.2.2.2.1) (fun zk112=>(.seq .x (.seq .x (.seq (.body (.seq .x (.seq .x (.seq .x (.seq .x (.seq (.join ⟨[(257,[(2,.ptr 0 0),(4,.ptr 1 0),(8,.ptr 2 0),(9,.own 3),(19,.val 39),(20,.val 0),(21,.ptr 4 0),(22,.val 0),(113,.val 40),(114,.val 0),(115,.val 0),(119,.val 39),(120,.val 0),(121,.val 0)])],[.box 36 [.val 30],.box 46 [.val 0,.own 5,.own 6,.own 7],.box 99 [.val 0,.own 8,.own 9,.own 10],.map 0 0,.box 103 [.val 4],.row 94 43,.row 108 45,.row 87 47,.row 94 43,.row 108 45,.row 87 47]⟩ (fun z=>z0u φ (fun a0 a1 a2 a3 a4 a5 a6 a7 a8 a9 a10 a11 a12 a13 a14 a15 a16=>zk112 (a0,a1,a2,a3,a4,a5,a6,a7,a8,a9,a10,a11,a12,a13,a14,a15,a16,())) z.1 z.2.1 z.2.2.1 z.2.2.2.1 z.2.2.2.2.1 z.2.2.2.2.2.1 z.2.2.2.2.2.2.1 z.2.2.2.2.2.2.2.1 z.2.2.2.2.2.2.2.2.1 z.2.2.2.2.2.2.2.2.2.1 z.2.2.2.2.2.2.2.2.2.2.1 z.2.2.2.2.2.2.2.2.2.2.2.1 z.2.2.2.2.2.2.2.2.2.2.2.2.1 z.2.2.2.2.2.2.2.2.2.2.2.2.2.1 z.2.2.2.2.2.2.2.2.2.2.2.2.2.2.1 z.2.2.2.2.2.2.2.2.2.2.2.2.2.2.2.1 z.2.2.2.2.2.2.2.2.2.2.2.2.2.2.2.2.1 z.2.2.2.2.2.2.2.2.2.2.2.2.2.2.2.2.2.1 z.2.2.2.2.2.2.2.2.2.2.2.2.2.2.2.2.2.2.1 z.2.2.2.2.2.2.2.2.2.2.2.2.2.2.2.2.2.2.2.1) (.seq .x (.cond (.ins 10 32 (.seq .x (.seq .x (.body (.loop ⟨[(39,[(0,.ptr 0 0),(4,.ptr 1 0),(8,.own 2),(9,.val 0),(10,.val 0)]),(257,[(2,.ptr 3 0),(4,.ptr 4 0),(8,.ptr 0 0),(9,.own 5),(19,.val 39),(20,.val 0),(21,.ptr 6 0),(22,.val 0),(113,.val 40),(114,.val 0),(115,.val 0),(119,.val 39),(120,.val 0),(121,.val 0)])],[.box 99 [.val 0,.own 7,.own 8,.own 9],.box 108 [.val 45],.row 94 43,.box 36 [.val 30],.box 46 [.val 0,.own 10,.own 11,.own 12],.map 0 0,.box 103 [.val 4],.row 94 43,.row 108 45,.row 87 47,.row 94 43,.row 108 45,.row 87 47]⟩ (fun n z=>z24 φ (fun a0 a1 a2 a3 a4 a5 a6 a7 a8 a9 a10 a11 a12 a13 a14 a15 a16=>zk112 (a0,a1,a2,a3,a4,a5,a6,a7,a8,a9,a10,a11,a12,a13,a14,a15,a16,())) n z.1 z.2.1 z.2.2.1 z.2.2.2.1 z.2.2.2.2.1 z.2.2.2.2.2.1 z.2.2.2.2.2.2.1 z.2.2.2.2.2.2.2.1 z.2.2.2.2.2.2.2.2.1 z.2.2.2.2.2.2.2.2.2.1 z.2.2.2.2.2.2.2.2.2.2.1 z.2.2.2.2.2.2.2.2.2.2.2.1 z.2.2.2.2.2.2.2.2.2.2.2.2.1 z.2.2.2.2.2.2.2.2.2.2.2.2.2.1 z.2.2.2.2.2.2.2.2.2.2.2.2.2.2.1 z.2.2.2.2.2.2.2.2.2.2.2.2.2.2.2.1 z.2.2.2.2.2.2.2.2.2.2.2.2.2.2.2.2.1 z.2.2.2.2.2.2.2.2.2.2.2.2.2.2.2.2.2.1 z.2.2.2.2.2.2.2.2.2.2.2.2.2.2.2.2.2.2.1 z.2.2.2.2.2.2.2.2.2.2.2.2.2.2.2.2.2.2.2.1 z.2.2.2.2.2.2.2.2.2.2.2.2.2.2.2.2.2.2.2.2.1 z.2.2.2.2.2.2.2.2.2.2.2.2.2.2.2.2.2.2.2.2.2.1 z.2.2.2.2.2.2.2.2.2.2.2.2.2.2.2.2.2.2.2.2.2.2.1 z.2.2.2.2.2.2.2.2.2.2.2.2.2.2.2.2.2.2.2.2.2.2.2.1) (fun zk195=>.x))))) .x) (.seq .x (.ins 16 32 (.seq .x (.seq .x (.body (.loop ⟨[(39,[(0,.ptr 0 0),(4,.ptr 1 0),(8,.own 2),(9,.val 0),(10,.val 0)]),(257,[(2,.ptr 3 0),(4,.ptr 4 0),(8,.ptr 0 0),(9,.own 5),(19,.val 39),(20,.val 0),(21,.ptr 6 0),(22,.val 0),(113,.val 40),(114,.val 0),(115,.val 0),(119,.val 39),(120,.val 0),(121,.val 0)])],[.box 99 [.val 0,.own 7,.own 8,.own 9],.box 108 [.val 45],.row 94 43,.box 36 [.val 30],.box 46 [.val 0,.own 10,.own 11,.own 12],.map 0 0,.box 103 [.val 4],.row 94 43,.row 108 45,.row 87 47,.row 94 43,.row 108 45,.row 87 47]⟩ (fun n z=>z20 φ (fun a0 a1 a2 a3 a4 a5 a6 a7 a8 a9 a10 a11 a12 a13 a14 a15 a16=>zk112 (a0,a1,a2,a3,a4,a5,a6,a7,a8,a9,a10,a11,a12,a13,a14,a15,a16,())) n z.1 z.2.1 z.2.2.1 z.2.2.2.1 z.2.2.2.2.1 z.2.2.2.2.2.1 z.2.2.2.2.2.2.1 z.2.2.2.2.2.2.2.1 z.2.2.2.2.2.2.2.2.1 z.2.2.2.2.2.2.2.2.2.1 z.2.2.2.2.2.2.2.2.2.2.1 z.2.2.2.2.2.2.2.2.2.2.2.1 z.2.2.2.2.2.2.2.2.2.2.2.2.1 z.2.2.2.2.2.2.2.2.2.2.2.2.2.1 z.2.2.2.2.2.2.2.2.2.2.2.2.2.2.1 z.2.2.2.2.2.2.2.2.2.2.2.2.2.2.2.1 z.2.2.2.2.2.2.2.2.2.2.2.2.2.2.2.2.1 z.2.2.2.2.2.2.2.2.2.2.2.2.2.2.2.2.2.1 z.2.2.2.2.2.2.2.2.2.2.2.2.2.2.2.2.2.2.1 z.2.2.2.2.2.2.2.2.2.2.2.2.2.2.2.2.2.2.2.1 z.2.2.2.2.2.2.2.2.2.2.2.2.2.2.2.2.2.2.2.2.1 z.2.2.2.2.2.2.2.2.2.2.2.2.2.2.2.2.2.2.2.2.2.1 z.2.2.2.2.2.2.2.2.2.2.2.2.2.2.2.2.2.2.2.2.2.2.1 z.2.2.2.2.2.2.2.2.2.2.2.2.2.2.2.2.2.2.2.2.2.2.2.1) (fun zk220=>.x))))) .x))))) (.seq .x (.cond (.seq .x (.ins 19 32 (.seq .x (.seq .x (.body (.loop ⟨[(39,[(0,.ptr 0 0),(4,.ptr 1 0),(8,.own 2),(9,.val 0),(10,.val 0)]),(257,[(2,.ptr 3 0),(4,.ptr 4 0),(8,.ptr 0 0),(9,.own 5),(19,.val 39),(113,.val 40),(114,.val 0),(115,.val 0),(119,.val 39),(120,.val 0),(121,.val 0),(215,.ptr 0 0),(216,.ptr 6 2),(217,.val 1),(218,.ptr 7 0),(219,.ptr 7 2),(220,.val 1),(221,.val 45),(222,.val 0),(223,.val 0),(224,.val 0),(225,.ptr 3 0),(226,.val 10),(227,.val 3),(228,.ptr 7 0),(229,.val 3),(230,.val 0),(231,.val 0),(232,.val 43),(233,.own 2)])],[.box 99 [.val 0,.own 8,.own 9,.own 10],.box 108 [.val 45],.row 94 43,.box 36 [.val 30],.box 46 [.val 0,.own 11,.own 12,.own 13],.map 0 0,.box 91 [.val 3],.box 103 [.val 4],.row 94 43,.row 108 45,.row 87 47,.row 94 43,.row 108 45,.row 87 47]⟩ (fun n z=>z21 φ (fun a0 a1 a2 a3 a4 a5 a6 a7 a8 a9 a10 a11 a12 a13 a14 a15 a16=>zk112 (a0,a1,a2,a3,a4,a5,a6,a7,a8,a9,a10,a11,a12,a13,a14,a15,a16,())) n z.1 z.2.1 z.2.2.1 z.2.2.2.1 z.2.2.2.2.1 z.2.2.2.2.2.1 z.2.2.2.2.2.2.1 z.2.2.2.2.2.2.2.1 z.2.2.2.2.2.2.2.2.1 z.2.2.2.2.2.2.2.2.2.1 z.2.2.2.2.2.2.2.2.2.2.1 z.2.2.2.2.2.2.2.2.2.2.2.1 z.2.2.2.2.2.2.2.2.2.2.2.2.1 z.2.2.2.2.2.2.2.2.2.2.2.2.2.1 z.2.2.2.2.2.2.2.2.2.2.2.2.2.2.1 z.2.2.2.2.2.2.2.2.2.2.2.2.2.2.2.1 z.2.2.2.2.2.2.2.2.2.2.2.2.2.2.2.2.1 z.2.2.2.2.2.2.2.2.2.2.2.2.2.2.2.2.2.1 z.2.2.2.2.2.2.2.2.2.2.2.2.2.2.2.2.2.2.1 z.2.2.2.2.2.2.2.2.2.2.2.2.2.2.2.2.2.2.2.1 z.2.2.2.2.2.2.2.2.2.2.2.2.2.2.2.2.2.2.2.2.1 z.2.2.2.2.2.2.2.2.2.2.2.2.2.2.2.2.2.2.2.2.2.1 z.2.2.2.2.2.2.2.2.2.2.2.2.2.2.2.2.2.2.2.2.2.2.1 z.2.2.2.2.2.2.2.2.2.2.2.2.2.2.2.2.2.2.2.2.2.2.2.1 z.2.2.2.2.2.2.2.2.2.2.2.2.2.2.2.2.2.2.2.2.2.2.2.2.1 z.2.2.2.2.2.2.2.2.2.2.2.2.2.2.2.2.2.2.2.2.2.2.2.2.2.1 z.2.2.2.2.2.2.2.2.2.2.2.2.2.2.2.2.2.2.2.2.2.2.2.2.2.2.1 z.2.2.2.2.2.2.2.2.2.2.2.2.2.2.2.2.2.2.2.2.2.2.2.2.2.2.2.1 z.2.2.2.2.2.2.2.2.2.2.2.2.2.2.2.2.2.2.2.2.2.2.2.2.2.2.2.2.1 z.2.2.2.2.2.2.2.2.2.2.2.2.2.2.2.2.2.2.2.2.2.2.2.2.2.2.2.2.2.1 z.2.2.2.2.2.2.2.2.2.2.2.2.2.2.2.2.2.2.2.2.2.2.2.2.2.2.2.2.2.2.1 z.2.2.2.2.2.2.2.2.2.2.2.2.2.2.2.2.2.2.2.2.2.2.2.2.2.2.2.2.2.2.2.1 z.2.2.2.2.2.2.2.2.2.2.2.2.2.2.2.2.2.2.2.2.2.2.2.2.2.2.2.2.2.2.2.2.1 z.2.2.2.2.2.2.2.2.2.2.2.2.2.2.2.2.2.2.2.2.2.2.2.2.2.2.2.2.2.2.2.2.2.1 z.2.2.2.2.2.2.2.2.2.2.2.2.2.2.2.2.2.2.2.2.2.2.2.2.2.2.2.2.2.2.2.2.2.2.1) (fun zk170=>.x))))) .x)) .x)))))))) .x))))))))) .x))))))) .x))))))))
def zby (P:Program) (φ:Nat):Env TV:=⟨P,lk [(30,z2e φ),(31,z5m φ),(33,zb8 φ)],lk [],lk []⟩
theorem zq7 (φ:Nat) (a) :(z9m φ).F a=fnX TV (zby Tryz.prog φ) φ Tryz.f10 [30,38] [.val 49,.val 0] (z9a φ) a:=by kernel_rfl
theorem zoy (φ:Nat):fnO TV (zby Tryz.prog φ) φ Tryz.f10 [.val 49,.val 0] (z9a φ):=by
 unfold fnO
 show obl _ _ _ _ _ _ _
 unfold z9a
 repeat' (first | exact trivial |(refine⟨?_,?_⟩) |(intro _) | kernel_rfl)
theorem zh5 (φ:Nat):z14 TV Tryz.prog 10 (z9m φ):=
 z1d (N:=zby Tryz.prog φ) (zy ⟨z4z φ,zbc φ,znp φ,trivial⟩ trivial trivial) (z9a φ) Tryz.func10 (by kernel_rfl) (zq7 φ) (zoy φ)
end Px
end
section
set_option maxHeartbeats 4000000
set_option maxRecDepth 100000
namespace Px
open Go Go.RowKit Go.Proofs
def z6j (φ:Nat):H TV (RTup TT [.val 5,.val 0]):=(.seq .x (.seq (.ins 4 53 (.seq .x (.seq .x (.seq (.seq .x (.body (.loop ⟨[(77,[(2,.ptr 0 0),(4,.ptr 1 0),(19,.own 2),(20,.val 0),(21,.val 0)]),(75,[(1,.val 0),(2,.val 0),(3,.ptr 3 0)])],[.box 25 [.val 10],.box 142 [.own 4,.raw (.map none)],.row 3 0,.box 25 [.val 10],.row 66 5]⟩ (fun n z=>z80 φ n z.1 z.2.1 z.2.2.1 z.2.2.2.1 z.2.2.2.2.1 z.2.2.2.2.2.1 z.2.2.2.2.2.2.1 z.2.2.2.2.2.2.2.1) (fun zk13=>.x)))) (.seq .x (.seq .x (.seq (.seq .x (.body (.loop ⟨[(77,[(4,.ptr 0 0),(8,.func 91 [.ptr 0 0,.ptr 1 0]),(44,.val 9),(45,.val 0),(46,.val 0)]),(75,[(1,.val 0),(2,.val 0),(3,.ptr 2 0)])],[.box 142 [.own 3,.own 4],.box 25 [.val 10],.box 25 [.val 10],.nst 66 3 5 none,.map 42 0]⟩ (fun n z=>z5b φ n z.1 z.2.1 z.2.2.1 z.2.2.2.1 z.2.2.2.2.1 z.2.2.2.2.2.1 z.2.2.2.2.2.2.1 z.2.2.2.2.2.2.2.1 z.2.2.2.2.2.2.2.2.1) (fun zk23=>(.seq .x (.seq .x (.seq (.body (.seq .x (.seq (.ins 6 91 (.seq .x (.seq .x (.seq (.join ⟨[(56,[(2,.val 0),(3,.ptr 0 0),(4,.ptr 1 0),(8,.ptr 2 0),(9,.val 0),(10,.val 2)]),(77,[(4,.ptr 0 0),(8,.func 91 [.ptr 0 0,.ptr 1 0]),(9,.val 0),(10,.ptr 3 0),(44,.val 9),(45,.val 0),(46,.val 0)]),(75,[(1,.val 0),(2,.val 0),(3,.ptr 4 0)])],[.box 142 [.own 5,.own 6],.box 25 [.val 10],.box 190 [.val 42],.box 150 [.val 8],.box 25 [.val 10],.nst 66 3 5 none,.map 42 0]⟩ (fun z=>z7z φ (fun a0 a1 a2 a3 a4 a5 a6 a7 a8=>zk23 (a0,a1,a2,a3,a4,a5,a6,a7,a8,())) z.1 z.2.1 z.2.2.1 z.2.2.2.1 z.2.2.2.2.1 z.2.2.2.2.2.1 z.2.2.2.2.2.2.1 z.2.2.2.2.2.2.2.1 z.2.2.2.2.2.2.2.2.1 z.2.2.2.2.2.2.2.2.2.1 z.2.2.2.2.2.2.2.2.2.2.1 z.2.2.2.2.2.2.2.2.2.2.2.1 z.2.2.2.2.2.2.2.2.2.2.2.2.1 z.2.2.2.2.2.2.2.2.2.2.2.2.2.1 z.2.2.2.2.2.2.2.2.2.2.2.2.2.2.1) (.seq .x (.cond (.foc (3,some 0) (0,none) .x) .x))) .x))) .x) (.ins 6 91 (.seq .x (.seq .x (.seq (.join ⟨[(56,[(2,.val 0),(3,.ptr 0 0),(4,.ptr 1 0),(8,.ptr 2 0),(9,.val 0),(10,.val 2)]),(77,[(4,.ptr 0 0),(8,.func 91 [.ptr 0 0,.ptr 1 0]),(44,.val 9),(45,.val 0),(46,.val 0)]),(75,[(1,.val 0),(2,.val 0),(3,.ptr 3 0)])],[.box 142 [.own 4,.own 5],.box 25 [.val 10],.box 190 [.val 42],.box 25 [.val 10],.nst 66 3 5 none,.map 42 0]⟩ (fun z=>z7s φ (fun a0 a1 a2 a3 a4 a5 a6 a7 a8=>zk23 (a0,a1,a2,a3,a4,a5,a6,a7,a8,())) z.1 z.2.1 z.2.2.1 z.2.2.2.1 z.2.2.2.2.1 z.2.2.2.2.2.1 z.2.2.2.2.2.2.1 z.2.2.2.2.2.2.2.1 z.2.2.2.2.2.2.2.2.1 z.2.2.2.2.2.2.2.2.2.1 z.2.2.2.2.2.2.2.2.2.2.1 z.2.2.2.2.2.2.2.2.2.2.2.1 z.2.2.2.2.2.2.2.2.2.2.2.2.1) (.seq .x (.cond (.foc (3,some 0) (0,none) .x) .x))) .x))) .x)))) .x))))))) (.seq (.seq .x (.body (.loop ⟨[(77,[(4,.ptr 0 0),(67,.own 1),(68,.val 0),(69,.val 0)]),(75,[(1,.val 0),(2,.val 0),(3,.ptr 2 0)])],[.box 142 [.own 1,.own 3],.nst 66 3 5 none,.box 25 [.val 10],.map 42 0]⟩ (fun n z=>z83 φ n z.1 z.2.1 z.2.2.1 z.2.2.2.1 z.2.2.2.2.1 z.2.2.2.2.2.1 z.2.2.2.2.2.2.1) (fun zk75=>(.seq .x (.seq .x (.seq (.body (.seq (.foc (67,none) (69,none) .x) .x)) .x))))))) .x))))))) .x) (.seq .x (.seq (.ins 3 54 (.seq .x (.seq .x (.seq .x (.seq (.seq .x (.body (.loop ⟨[(118,[(2,.val 0),(3,.ptr 0 0),(4,.ptr 1 0),(7,.own 2),(8,.own 3),(23,.val 0),(24,.val 0)]),(75,[(1,.val 0),(2,.val 0),(3,.ptr 4 0),(8,.ptr 5 0)])],[.box 25 [.val 10],.box 142 [.own 6,.own 7],.row 3 0,.fix 4 2,.box 25 [.val 10],.box 142 [.own 6,.own 7],.nst 66 3 5 none,.map 42 0]⟩ (fun n z=>z7j φ n z.1 z.2.1 z.2.2.1 z.2.2.2.1 z.2.2.2.2.1 z.2.2.2.2.2.1 z.2.2.2.2.2.2.1 z.2.2.2.2.2.2.2.1 z.2.2.2.2.2.2.2.2.1 z.2.2.2.2.2.2.2.2.2.1 z.2.2.2.2.2.2.2.2.2.2.1) (fun zk88=>.x)))) (.seq .x (.body (.loop ⟨[(118,[(3,.ptr 0 0),(4,.ptr 1 0),(7,.own 2),(8,.own 3)]),(75,[(1,.val 0),(2,.val 0),(3,.ptr 4 0),(8,.ptr 5 0)])],[.box 25 [.val 10],.box 142 [.own 6,.own 7],.row 3 0,.fix 4 2,.box 25 [.val 10],.box 142 [.own 6,.own 7],.nst 66 3 5 none,.map 42 0]⟩ (fun n z=>z7y φ n z.1 z.2.1 z.2.2.1 z.2.2.2.1 z.2.2.2.2.1 z.2.2.2.2.2.1 z.2.2.2.2.2.2.1 z.2.2.2.2.2.2.2.1) (fun zk97=>(.body (.seq .x (.seq (.seq .x (.body (.loop ⟨[(118,[(3,.ptr 0 0),(4,.ptr 1 0),(7,.own 2),(8,.own 3),(10,.val 0),(35,.val 0),(36,.val 0)]),(75,[(1,.val 0),(2,.val 0),(3,.ptr 4 0),(8,.ptr 5 0)])],[.box 25 [.val 10],.box 142 [.own 6,.own 7],.row 3 0,.fix 4 2,.box 25 [.val 10],.box 142 [.own 6,.own 7],.nst 66 3 5 none,.map 42 0]⟩ (fun n z=>z4h φ (fun a0 a1 a2 a3 a4 a5 a6 a7=>zk97 (a0,a1,a2,a3,a4,a5,a6,a7,())) n z.1 z.2.1 z.2.2.1 z.2.2.2.1 z.2.2.2.2.1 z.2.2.2.2.2.1 z.2.2.2.2.2.2.1 z.2.2.2.2.2.2.2.1 z.2.2.2.2.2.2.2.2.1 z.2.2.2.2.2.2.2.2.2.1 z.2.2.2.2.2.2.2.2.2.2.1) (fun zk109=>.x)))) (.seq .x (.seq .x (.seq (.foc (4,some 0) (10,none) .x) (.body (.loop ⟨[(118,[(3,.ptr 0 0),(4,.ptr 1 0),(7,.own 2),(8,.own 3),(10,.val 0),(78,.own 4),(79,.val 0),(80,.val 0)]),(75,[(1,.val 0),(2,.val 0),(3,.ptr 5 0),(8,.ptr 6 0)])],[.box 25 [.val 10],.box 142 [.own 7,.own 8],.row 3 0,.fix 4 2,.row 3 0,.box 25 [.val 10],.box 142 [.own 7,.own 8],.nst 66 3 5 (some 4),.map 42 0]⟩ (fun n z=>z4n φ (fun a0 a1 a2 a3 a4 a5 a6 a7=>zk97 (a0,a1,a2,a3,a4,a5,a6,a7,())) n z.1 z.2.1 z.2.2.1 z.2.2.2.1 z.2.2.2.2.1 z.2.2.2.2.2.1 z.2.2.2.2.2.2.1 z.2.2.2.2.2.2.2.1 z.2.2.2.2.2.2.2.2.1 z.2.2.2.2.2.2.2.2.2.1 z.2.2.2.2.2.2.2.2.2.2.1 z.2.2.2.2.2.2.2.2.2.2.2.1 z.2.2.2.2.2.2.2.2.2.2.2.2.1) (fun zk151=>.x))))))))))))))))) .x) (.seq .x (.seq .x (.seq (.body (.loop ⟨[(75,[(1,.val 0),(2,.val 0),(3,.ptr 0 0),(6,.own 1),(8,.ptr 2 0),(9,.own 3)])],[.box 25 [.val 10],.row 3 0,.box 142 [.own 4,.own 5],.row 3 0,.nst 66 3 5 none,.map 42 0]⟩ (fun n z=>z6b φ n z.1 z.2.1 z.2.2.1 z.2.2.2.1 z.2.2.2.2.1 z.2.2.2.2.2.1 z.2.2.2.2.2.2.1) (fun zk117=>(.seq .x (.body (.seq (.join ⟨[(75,[(1,.val 0),(2,.val 0),(3,.ptr 0 0),(6,.own 1),(8,.ptr 2 0),(9,.own 3)])],[.box 25 [.val 10],.row 3 0,.box 142 [.own 4,.own 5],.row 3 0,.nst 66 3 5 none,.map 42 0]⟩ (fun z=>z78 φ (fun a0 a1 a2 a3 a4 a5 a6=>zk117 (a0,a1,a2,a3,a4,a5,a6,())) z.1 z.2.1 z.2.2.1 z.2.2.2.1 z.2.2.2.2.1 z.2.2.2.2.2.1 z.2.2.2.2.2.2.1) (.seq (.foc (8,some 0) (1,none) .x) (.body (.loop ⟨[(75,[(1,.val 0),(2,.val 0),(3,.ptr 0 0),(6,.own 1),(8,.ptr 2 0),(9,.own 3),(41,.own 4),(42,.val 0),(43,.val 0)])],[.box 25 [.val 10],.row 3 0,.box 142 [.own 5,.own 6],.row 3 0,.row 3 0,.nst 66 3 5 (some 4),.map 42 0]⟩ (fun n z=>z6u φ (fun a0 a1 a2 a3 a4 a5 a6=>zk117 (a0,a1,a2,a3,a4,a5,a6,())) n z.1 z.2.1 z.2.2.1 z.2.2.2.1 z.2.2.2.2.1 z.2.2.2.2.2.1 z.2.2.2.2.2.2.1 z.2.2.2.2.2.2.2.1 z.2.2.2.2.2.2.2.2.1 z.2.2.2.2.2.2.2.2.2.1 z.2.2.2.2.2.2.2.2.2.2.1) (fun zk137=>.x))))) .x)))))) .x)))))))
def zae (P:Program) (φ:Nat):Env TV:=⟨P,lk [(56,z3k φ)],lk [(92,zhq)],lk []⟩
theorem zlw (φ:Nat) (a) :(zac φ).F a=fnX TV (zae Tryz.prog φ) φ Tryz.f74 [10,0,0] [.val 5,.val 0] (z6j φ) a:=by kernel_rfl
theorem zlz (φ:Nat):fnO TV (zae Tryz.prog φ) φ Tryz.f74 [.val 5,.val 0] (z6j φ):=by
 unfold fnO
 show obl _ _ _ _ _ _ _
 unfold z6j
 repeat' (first | exact trivial |(refine⟨?_,?_⟩) |(intro _) | kernel_rfl)
theorem zm1 (φ:Nat):z14 TV Tryz.prog 74 (zac φ):=
 z1d (N:=zae Tryz.prog φ) (zy ⟨z6n φ,trivial⟩ ⟨zlq,trivial⟩ trivial) (z6j φ) Tryz.func74 (by kernel_rfl) (zlw φ) (zlz φ)
def z5r (φ:Nat):H TV (RTup TT [.val 52,.val 0]):=(.seq .x (.seq (.ins 2 53 (.seq .x (.seq .x (.seq (.seq .x (.body (.loop ⟨[(77,[(2,.ptr 0 0),(4,.ptr 1 0),(19,.val 5),(20,.val 0),(21,.val 0)]),(81,[(1,.val 5),(2,.ptr 2 0),(4,.own 3)])],[.box 25 [.val 10],.box 142 [.own 4,.raw (.map none)],.box 25 [.val 10],.row 172 51,.row 66 5]⟩ (fun n z=>z6y φ n z.1 z.2.1 z.2.2.1 z.2.2.2.1 z.2.2.2.2.1 z.2.2.2.2.2.1 z.2.2.2.2.2.2.1 z.2.2.2.2.2.2.2.1) (fun zk12=>.x)))) (.seq .x (.seq .x (.seq (.seq .x (.body (.loop ⟨[(77,[(4,.ptr 0 0),(8,.func 91 [.ptr 0 0,.ptr 1 0]),(44,.val 9),(45,.val 0),(46,.val 0)]),(81,[(1,.val 5),(2,.ptr 2 0),(4,.own 3)])],[.box 142 [.own 4,.own 5],.box 25 [.val 10],.box 25 [.val 10],.row 172 51,.nst 66 3 5 none,.map 42 0]⟩ (fun n z=>z4q φ n z.1 z.2.1 z.2.2.1 z.2.2.2.1 z.2.2.2.2.1 z.2.2.2.2.2.1 z.2.2.2.2.2.2.1 z.2.2.2.2.2.2.2.1 z.2.2.2.2.2.2.2.2.1) (fun zk22=>(.seq .x (.seq .x (.seq (.body (.seq .x (.seq (.ins 6 91 (.seq .x (.seq .x (.seq (.join ⟨[(56,[(2,.val 0),(3,.ptr 0 0),(4,.ptr 1 0),(8,.ptr 2 0),(9,.val 0),(10,.val 2)]),(77,[(4,.ptr 0 0),(8,.func 91 [.ptr 0 0,.ptr 1 0]),(9,.val 0),(10,.ptr 3 0),(44,.val 9),(45,.val 0),(46,.val 0)]),(81,[(1,.val 5),(2,.ptr 4 0),(4,.own 5)])],[.box 142 [.own 6,.own 7],.box 25 [.val 10],.box 190 [.val 42],.box 150 [.val 8],.box 25 [.val 10],.row 172 51,.nst 66 3 5 none,.map 42 0]⟩ (fun z=>z6f φ (fun a0 a1 a2 a3 a4 a5 a6 a7 a8=>zk22 (a0,a1,a2,a3,a4,a5,a6,a7,a8,())) z.1 z.2.1 z.2.2.1 z.2.2.2.1 z.2.2.2.2.1 z.2.2.2.2.2.1 z.2.2.2.2.2.2.1 z.2.2.2.2.2.2.2.1 z.2.2.2.2.2.2.2.2.1 z.2.2.2.2.2.2.2.2.2.1 z.2.2.2.2.2.2.2.2.2.2.1 z.2.2.2.2.2.2.2.2.2.2.2.1 z.2.2.2.2.2.2.2.2.2.2.2.2.1 z.2.2.2.2.2.2.2.2.2.2.2.2.2.1 z.2.2.2.2.2.2.2.2.2.2.2.2.2.2.1) (.seq .x (.cond (.foc (3,some 0) (0,none) .x) .x))) .x))) .x) (.ins 6 91 (.seq .x (.seq .x (.seq (.join ⟨[(56,[(2,.val 0),(3,.ptr 0 0),(4,.ptr 1 0),(8,.ptr 2 0),(9,.val 0),(10,.val 2)]),(77,[(4,.ptr 0 0),(8,.func 91 [.ptr 0 0,.ptr 1 0]),(44,.val 9),(45,.val 0),(46,.val 0)]),(81,[(1,.val 5),(2,.ptr 3 0),(4,.own 4)])],[.box 142 [.own 5,.own 6],.box 25 [.val 10],.box 190 [.val 42],.box 25 [.val 10],.row 172 51,.nst 66 3 5 none,.map 42 0]⟩ (fun z=>z6p φ (fun a0 a1 a2 a3 a4 a5 a6 a7 a8=>zk22 (a0,a1,a2,a3,a4,a5,a6,a7,a8,())) z.1 z.2.1 z.2.2.1 z.2.2.2.1 z.2.2.2.2.1 z.2.2.2.2.2.1 z.2.2.2.2.2.2.1 z.2.2.2.2.2.2.2.1 z.2.2.2.2.2.2.2.2.1 z.2.2.2.2.2.2.2.2.2.1 z.2.2.2.2.2.2.2.2.2.2.1 z.2.2.2.2.2.2.2.2.2.2.2.1 z.2.2.2.2.2.2.2.2.2.2.2.2.1) (.seq .x (.cond (.foc (3,some 0) (0,none) .x) .x))) .x))) .x)))) .x))))))) (.seq (.seq .x (.body (.loop ⟨[(77,[(4,.ptr 0 0),(67,.own 1),(68,.val 0),(69,.val 0)]),(81,[(1,.val 5),(2,.ptr 2 0),(4,.own 3)])],[.box 142 [.own 1,.own 4],.nst 66 3 5 none,.box 25 [.val 10],.row 172 51,.map 42 0]⟩ (fun n z=>z6h φ n z.1 z.2.1 z.2.2.1 z.2.2.2.1 z.2.2.2.2.1 z.2.2.2.2.2.1 z.2.2.2.2.2.2.1) (fun zk74=>(.seq .x (.seq .x (.seq (.body (.seq (.foc (67,none) (69,none) .x) .x)) .x))))))) .x))))))) .x) (.seq .x (.seq .x (.seq (.seq .x (.body (.loop ⟨[(81,[(1,.val 5),(2,.ptr 0 0),(4,.own 1),(6,.ptr 2 0),(7,.own 3),(8,.val 0)])],[.box 25 [.val 10],.row 172 51,.box 142 [.own 4,.own 5],.map 0 0,.nst 66 3 5 none,.map 42 0]⟩ (fun n z=>z6e φ n z.1 z.2.1 z.2.2.1 z.2.2.2.1 z.2.2.2.2.1 z.2.2.2.2.2.1 z.2.2.2.2.2.2.1) (fun zk83=>.x)))) (.seq (.seq .x (.body (.loop ⟨[(81,[(4,.own 0),(7,.own 1),(63,.val 0)])],[.row 172 51,.map 0 0]⟩ (fun n z=>z4k φ n z.1 z.2.1 z.2.2.1) (fun zk87=>.x)))) .x))))))
def z8r (P:Program) (φ:Nat):Env TV:=⟨P,lk [(56,z3k φ)],lk [(92,zhq)],lk []⟩
theorem zkd (φ:Nat) (a) :(z8x φ).F a=fnX TV (z8r Tryz.prog φ) φ Tryz.f75 [10,5] [.val 52,.val 0] (z5r φ) a:=by kernel_rfl
theorem zjv (φ:Nat):fnO TV (z8r Tryz.prog φ) φ Tryz.f75 [.val 52,.val 0] (z5r φ):=by
 unfold fnO
 show obl _ _ _ _ _ _ _
 unfold z5r
 repeat' (first | exact trivial |(refine⟨?_,?_⟩) |(intro _) | kernel_rfl)
theorem zkf (φ:Nat):z14 TV Tryz.prog 75 (z8x φ):=
 z1d (N:=z8r Tryz.prog φ) (zy ⟨z6n φ,trivial⟩ ⟨zlq,trivial⟩ trivial) (z5r φ) Tryz.func75 (by kernel_rfl) (zkd φ) (zjv φ)
def z85 (φ:Nat):H TV (RTup TT [.val 0]):=(.seq .x (.seq .x (.seq .x (.seq .x (.seq .x (.seq (.seq .x (.body (.loop ⟨[(41,[(11,.val 0),(29,.val 52),(30,.val 0),(31,.val 0)])],[]⟩ (fun n z=>z8y φ n z.1 z.2.1 z.2.2.1 z.2.2.2.1) (fun zk10=>.x)))) .x))))))
def zbb (P:Program) (φ:Nat):Env TV:=⟨P,lk [(74,zac φ),(75,z8x φ)],lk [],lk []⟩
theorem znc (φ:Nat) (a) :(zbd φ).F a=fnX TV (zbb Tryz.prog φ) φ Tryz.f39 [10,0,0] [.val 0] (z85 φ) a:=by kernel_rfl
theorem zn2 (φ:Nat):fnO TV (zbb Tryz.prog φ) φ Tryz.f39 [.val 0] (z85 φ):=by
 unfold fnO
 show obl _ _ _ _ _ _ _
 unfold z85
 repeat' (first | exact trivial |(refine⟨?_,?_⟩) |(intro _) | kernel_rfl)
theorem znj (φ:Nat):z14 TV Tryz.prog 39 (zbd φ):=
 z1d (N:=zbb Tryz.prog φ) (zy ⟨zm1 φ,zkf φ,trivial⟩ trivial trivial) (z85 φ) Tryz.func39 (by kernel_rfl) (znc φ) (zn2 φ)
theorem zlt (φ:Nat) (k12 :(Int->(List z6)->Int->Pool->Span->Option (Int×Int×Unit))) (x22:Int) (x23 :(List z6)) (x24:Int) (x25:Pool) (x26:Span):z0h (zb6 φ k12 x22 x23 x24 x25 x26) (zd3 φ k12 x22 x23 x24 x25 x26):=by
 unfold zb6 zd3
 repeat' (first | exact z0h.one | exact z0h.nil | refine z0h.cons ?_ ?_ | refine z0h.ck ?_ | exact z0h.same (n:=2) rfl | exact z0h.same (n:=3) rfl | exact z0h.same (n:=4) rfl | exact z0h.same (n:=6) rfl | refine z0h.bind fun _=>?_)
def zf2 (φ:Nat):H TV (RTup TT [.val 0,.val 0]):=(.seq .x (.seq .x (.seq .x (.seq .x (.seq .x (.seq (.seq .x (.body (.loop ⟨[(93,[(4,.ptr 0 0),(7,.ptr 1 0),(11,.val 0),(12,.val 39),(13,.val 0)])],[.box 36 [.val 30],.box 39 [.val 25]]⟩ (fun n z=>zen φ n z.1 z.2.1 z.2.2.1 z.2.2.2.1 z.2.2.2.2.1) (fun zk12=>(.seq .x (.seq (.body (.seq (.join ⟨[(93,[(4,.ptr 0 0),(7,.ptr 1 0),(11,.val 0),(12,.val 39),(13,.val 0),(14,.ptr 2 0),(15,.ptr 3 0)])],[.box 36 [.val 30],.box 39 [.val 25],.box 91 [.val 3],.box 91 [.val 3]]⟩ (fun z=>zb1 φ (fun a0 a1 a2 a3 a4=>zk12 (a0,a1,a2,a3,a4,())) z.1 z.2.1 z.2.2.1 z.2.2.2.1 z.2.2.2.2.1 z.2.2.2.2.2.1 z.2.2.2.2.2.2.1) (.alt ⟨[(93,[(4,.ptr 0 0),(7,.ptr 1 0),(11,.val 0),(12,.val 39),(13,.val 0)])],[.box 36 [.val 30],.box 39 [.val 25]]⟩ (fun z=>zb6 φ (fun a0 a1 a2 a3 a4=>zk12 (a0,a1,a2,a3,a4,())) z.1 z.2.1 z.2.2.1 z.2.2.2.1 z.2.2.2.2.1) (fun z=>zd3 φ (fun a0 a1 a2 a3 a4=>zk12 (a0,a1,a2,a3,a4,())) z.1 z.2.1 z.2.2.1 z.2.2.2.1 z.2.2.2.2.1))) .x)) .x)))))) .x))))))
def zie (P:Program) (φ:Nat):Env TV:=⟨P,lk [(30,z2e φ),(31,z5m φ),(39,zbd φ)],lk [],lk []⟩
theorem zxz (φ:Nat) (a) :(zi6 φ).F a=fnX TV (zie Tryz.prog φ) φ Tryz.f12 [30,38,0,25] [.val 0,.val 0] (zf2 φ) a:=by kernel_rfl
theorem zyh (φ:Nat):fnO TV (zie Tryz.prog φ) φ Tryz.f12 [.val 0,.val 0] (zf2 φ):=by
 unfold fnO
 show obl _ _ _ _ _ _ _
 unfold zf2
 repeat' (first | exact trivial |(refine⟨?_,?_⟩) |(intro _) | kernel_rfl | exact zlt ..)
theorem zza (φ:Nat):z14 TV Tryz.prog 12 (zi6 φ):=
 z1d (N:=zie Tryz.prog φ) (zy ⟨z4z φ,zbc φ,znj φ,trivial⟩ trivial trivial) (zf2 φ) Tryz.func12 (by kernel_rfl) (zxz φ) (zyh φ)
def z4j (φ:Nat):H TV (RTup TT [.val 2]):=(.seq .x (.seq .x (.seq (.seq .x (.body (.loop ⟨[(26,[(0,.val 41),(1,.val 41),(5,.val 0)])],[]⟩ (fun n z=>z5y φ n z.1 z.2.1 z.2.2.1) (fun zk6=>.x)))) .x)))
def z6l (P:Program) (φ:Nat):Env TV:=⟨P,lk [],lk [],lk []⟩
theorem zgr (φ:Nat) (a) :(z6t φ).F a=fnX TV (z6l Tryz.prog φ) φ Tryz.f15 [41,41] [.val 2] (z4j φ) a:=by kernel_rfl
theorem zgw (φ:Nat):fnO TV (z6l Tryz.prog φ) φ Tryz.f15 [.val 2] (z4j φ):=by
 unfold fnO
 show obl _ _ _ _ _ _ _
 unfold z4j
 repeat' (first | exact trivial |(refine⟨?_,?_⟩) |(intro _) | kernel_rfl)
theorem zhs (φ:Nat):z14 TV Tryz.prog 15 (z6t φ):=
 z1d (N:=z6l Tryz.prog φ) (zy trivial trivial trivial) (z4j φ) Tryz.func15 (by kernel_rfl) (zgr φ) (zgw φ)
def zaq (φ:Nat):H TV (RTup TT [.val 2]):=.x
def zea (P:Program) (φ:Nat):Env TV:=⟨P,lk [(29,zag φ),(16,zcn φ),(10,z9m φ),(12,zi6 φ),(15,z6t φ)],lk [],lk []⟩
theorem zsj (φ:Nat) (a) :(zdq φ).F a=fnX TV (zea Tryz.prog φ) φ Tryz.f8 [] [.val 2] (zaq φ) a:=by kernel_rfl
theorem zt1 (φ:Nat):fnO TV (zea Tryz.prog φ) φ Tryz.f8 [.val 2] (zaq φ):=by
 unfold fnO
 show obl _ _ _ _ _ _ _
 unfold zaq
 repeat' (first | exact trivial |(refine⟨?_,?_⟩) |(intro _) | kernel_rfl)
theorem ztn (φ:Nat):z14 TV Tryz.prog 8 (zdq φ):=
 z1d (N:=zea Tryz.prog φ) (zy ⟨zl5 φ,zpm φ,zh5 φ,zza φ,zhs φ,trivial⟩ trivial trivial) (zaq φ) Tryz.func8 (by kernel_rfl) (zsj φ) (zt1 φ)
def z4x (φ:Nat):H TV (RTup TT [.val 2]):=(.seq .x (.seq .x (.seq (.seq .x (.body (.loop ⟨[(65,[(1,.ptr 0 0),(3,.val 0)])],[.box 36 [.val 30]]⟩ (fun n z=>z16 φ n z.1 z.2.1) (fun zk4=>.x)))) .x)))
def z7k (P:Program) (φ:Nat):Env TV:=⟨P,lk [],lk [],lk []⟩
theorem zik (φ:Nat) (a) :(z7x φ).F a=fnX TV (z7k Tryz.prog φ) φ Tryz.f21 [30] [.val 2] (z4x φ) a:=by kernel_rfl
theorem zj0 (φ:Nat):fnO TV (z7k Tryz.prog φ) φ Tryz.f21 [.val 2] (z4x φ):=by
 unfold fnO
 show obl _ _ _ _ _ _ _
 unfold z4x
 repeat' (first | exact trivial |(refine⟨?_,?_⟩) |(intro _) | kernel_rfl)
theorem zii (φ:Nat):z14 TV Tryz.prog 21 (z7x φ):=
 z1d (N:=z7k Tryz.prog φ) (zy trivial trivial trivial) (z4x φ) Tryz.func21 (by kernel_rfl) (zik φ) (zj0 φ)
def z75 (φ:Nat):H TV (RTup TT [.val 2]):=.x
def z9y (P:Program) (φ:Nat):Env TV:=⟨P,lk [],lk [],lk []⟩
theorem zmv (φ:Nat) (a) :(z6q φ).F a=fnX TV (z9y Tryz.prog φ) φ Tryz.f112 [0,0,0] [.val 2] (z75 φ) a:=by kernel_rfl
theorem zml (φ:Nat):fnO TV (z9y Tryz.prog φ) φ Tryz.f112 [.val 2] (z75 φ):=by
 unfold fnO
 show obl _ _ _ _ _ _ _
 unfold z75
 repeat' (first | exact trivial |(refine⟨?_,?_⟩) |(intro _) | kernel_rfl)
theorem zdn (φ:Nat):z14 TV Tryz.prog 112 (z6q φ):=
 z1d (N:=z9y Tryz.prog φ) (zy trivial trivial trivial) (z75 φ) Tryz.func112 (by kernel_rfl) (zmv φ) (zml φ)
def z9n (φ:Nat):H TV (RTup TT [.val 2]):=.x
def zd9 (P:Program) (φ:Nat):Env TV:=⟨P,lk [(112,z6q φ)],lk [],lk []⟩
theorem zp3 (φ:Nat) (a) :(zd1 φ).F a=fnX TV (zd9 Tryz.prog φ) φ Tryz.f78 [6] [.val 2] (z9n φ) a:=by kernel_rfl
theorem zph (φ:Nat):fnO TV (zd9 Tryz.prog φ) φ Tryz.f78 [.val 2] (z9n φ):=by
 unfold fnO
 show obl _ _ _ _ _ _ _
 unfold z9n
 repeat' (first | exact trivial |(refine⟨?_,?_⟩) |(intro _) | kernel_rfl)
theorem zpr (φ:Nat):z14 TV Tryz.prog 78 (zd1 φ):=
 z1d (N:=zd9 Tryz.prog φ) (zy ⟨zdn φ,trivial⟩ trivial trivial) (z9n φ) Tryz.func78 (by kernel_rfl) (zp3 φ) (zph φ)
def zaw (φ:Nat):H TV (RTup TT [.val 2]):=.x
def zee (P:Program) (φ:Nat):Env TV:=⟨P,lk [(112,z6q φ)],lk [],lk []⟩
theorem ztp (φ:Nat) (a) :(zet φ).F a=fnX TV (zee Tryz.prog φ) φ Tryz.f79 [8,0] [.val 2] (zaw φ) a:=by kernel_rfl
theorem ztl (φ:Nat):fnO TV (zee Tryz.prog φ) φ Tryz.f79 [.val 2] (zaw φ):=by
 unfold fnO
 show obl _ _ _ _ _ _ _
 unfold zaw
 repeat' (first | exact trivial |(refine⟨?_,?_⟩) |(intro _) | kernel_rfl)
theorem zts (φ:Nat):z14 TV Tryz.prog 79 (zet φ):=
 z1d (N:=zee Tryz.prog φ) (zy ⟨zdn φ,trivial⟩ trivial trivial) (zaw φ) Tryz.func79 (by kernel_rfl) (ztp φ) (ztl φ)
def z98 (φ:Nat):H TV (RTup TT [.val 0]):=(.seq .x (.seq .x (.seq (.seq .x (.body (.loop ⟨[(46,[(1,.ptr 0 0),(3,.val 0)])],[.box 25 [.val 10]]⟩ (fun n z=>z4c φ n z.1 z.2.1) (fun zk4=>.x)))) (.seq (.seq .x (.body (.loop ⟨[(46,[(1,.ptr 0 0),(4,.val 0)])],[.box 25 [.val 10]]⟩ (fun n z=>z34 φ n z.1 z.2.1) (fun zk8=>.x)))) .x))))
def zcy (P:Program) (φ:Nat):Env TV:=⟨P,lk [(78,zd1 φ),(79,zet φ)],lk [],lk []⟩
theorem zpy (φ:Nat) (a) :(zca φ).F a=fnX TV (zcy Tryz.prog φ) φ Tryz.f42 [10] [.val 0] (z98 φ) a:=by kernel_rfl
theorem zpi (φ:Nat):fnO TV (zcy Tryz.prog φ) φ Tryz.f42 [.val 0] (z98 φ):=by
 unfold fnO
 show obl _ _ _ _ _ _ _
 unfold z98
 repeat' (first | exact trivial |(refine⟨?_,?_⟩) |(intro _) | kernel_rfl)
theorem zpf (φ:Nat):z14 TV Tryz.prog 42 (zca φ):=
 z1d (N:=zcy Tryz.prog φ) (zy ⟨zpr φ,zts φ,trivial⟩ trivial trivial) (z98 φ) Tryz.func42 (by kernel_rfl) (zpy φ) (zpi φ)
def z8d (φ:Nat):H TV (RTup TT [.val 2]):=.x
def zbg (P:Program) (φ:Nat):Env TV:=⟨P,lk [],lk [],lk []⟩
theorem zno (φ:Nat) (a) :(z38 φ).F a=fnX TV (zbg Tryz.prog φ) φ Tryz.f82 [0,0,0] [.val 2] (z8d φ) a:=by kernel_rfl
theorem znd (φ:Nat):fnO TV (zbg Tryz.prog φ) φ Tryz.f82 [.val 2] (z8d φ):=by
 unfold fnO
 show obl _ _ _ _ _ _ _
 unfold z8d
 repeat' (first | exact trivial |(refine⟨?_,?_⟩) |(intro _) | kernel_rfl)
theorem z5i (φ:Nat):z14 TV Tryz.prog 82 (z38 φ):=
 z1d (N:=zbg Tryz.prog φ) (zy trivial trivial trivial) (z8d φ) Tryz.func82 (by kernel_rfl) (zno φ) (znd φ)
def z58 (φ:Nat):H TV (RTup TT [.val 2]):=.x
def z81 (P:Program) (φ:Nat):Env TV:=⟨P,lk [(82,z38 φ)],lk [],lk []⟩
theorem zia (φ:Nat) (a) :(z7v φ).F a=fnX TV (z81 Tryz.prog φ) φ Tryz.f80 [12] [.val 2] (z58 φ) a:=by kernel_rfl
theorem zi9 (φ:Nat):fnO TV (z81 Tryz.prog φ) φ Tryz.f80 [.val 2] (z58 φ):=by
 unfold fnO
 show obl _ _ _ _ _ _ _
 unfold z58
 repeat' (first | exact trivial |(refine⟨?_,?_⟩) |(intro _) | kernel_rfl)
theorem zja (φ:Nat):z14 TV Tryz.prog 80 (z7v φ):=
 z1d (N:=z81 Tryz.prog φ) (zy ⟨z5i φ,trivial⟩ trivial trivial) (z58 φ) Tryz.func80 (by kernel_rfl) (zia φ) (zi9 φ)
def z4l (φ:Nat):H TV (RTup TT [.val 2]):=.x
def z6i (P:Program) (φ:Nat):Env TV:=⟨P,lk [(82,z38 φ)],lk [],lk []⟩
theorem zh6 (φ:Nat) (a) :(z6m φ).F a=fnX TV (z6i Tryz.prog φ) φ Tryz.f81 [14,0] [.val 2] (z4l φ) a:=by kernel_rfl
theorem zh9 (φ:Nat):fnO TV (z6i Tryz.prog φ) φ Tryz.f81 [.val 2] (z4l φ):=by
 unfold fnO
 show obl _ _ _ _ _ _ _
 unfold z4l
 repeat' (first | exact trivial |(refine⟨?_,?_⟩) |(intro _) | kernel_rfl)
theorem zhk (φ:Nat):z14 TV Tryz.prog 81 (z6m φ):=
 z1d (N:=z6i Tryz.prog φ) (zy ⟨z5i φ,trivial⟩ trivial trivial) (z4l φ) Tryz.func81 (by kernel_rfl) (zh6 φ) (zh9 φ)
def z88 (φ:Nat):H TV (RTup TT [.val 0]):=(.seq .x (.seq .x (.seq (.seq .x (.body (.loop ⟨[(57,[(0,.val 19),(3,.own 0),(4,.val 0)])],[.fix 4 2]⟩ (fun n z=>z3h φ n z.1 z.2.1 z.2.2.1) (fun zk5=>.x)))) .x)))
def zbk (P:Program) (φ:Nat):Env TV:=⟨P,lk [(82,z38 φ)],lk [],lk []⟩
theorem zn1 (φ:Nat) (a) :(zbf φ).F a=fnX TV (zbk Tryz.prog φ) φ Tryz.f83 [19] [.val 0] (z88 φ) a:=by kernel_rfl
theorem zn7 (φ:Nat):fnO TV (zbk Tryz.prog φ) φ Tryz.f83 [.val 0] (z88 φ):=by
 unfold fnO
 show obl _ _ _ _ _ _ _
 unfold z88
 repeat' (first | exact trivial |(refine⟨?_,?_⟩) |(intro _) | kernel_rfl)
theorem zn3 (φ:Nat):z14 TV Tryz.prog 83 (zbf φ):=
 z1d (N:=zbk Tryz.prog φ) (zy ⟨z5i φ,trivial⟩ trivial trivial) (z88 φ) Tryz.func83 (by kernel_rfl) (zn1 φ) (zn7 φ)
def z9k (φ:Nat):H TV (RTup TT [.val 0]):=(.seq .x (.seq .x (.seq (.seq .x (.body (.loop ⟨[(106,[(1,.ptr 0 0),(3,.val 0)])],[.box 31 [.val 20]]⟩ (fun n z=>z47 φ n z.1 z.2.1) (fun zk4=>.x)))) (.seq (.seq .x (.body (.loop ⟨[(106,[(1,.ptr 0 0),(4,.val 0)])],[.box 31 [.val 20]]⟩ (fun n z=>z3d φ n z.1 z.2.1) (fun zk8=>.x)))) (.seq (.seq .x (.body (.loop ⟨[(106,[(1,.ptr 0 0),(5,.val 0)])],[.box 31 [.val 20]]⟩ (fun n z=>z2i φ n z.1 z.2.1) (fun zk12=>.x)))) .x)))))
def zce (P:Program) (φ:Nat):Env TV:=⟨P,lk [(80,z7v φ),(81,z6m φ),(82,z38 φ),(83,zbf φ)],lk [],lk []⟩
theorem zq4 (φ:Nat) (a) :(zcx φ).F a=fnX TV (zce Tryz.prog φ) φ Tryz.f43 [20] [.val 0] (z9k φ) a:=by kernel_rfl
theorem zp0 (φ:Nat):fnO TV (zce Tryz.prog φ) φ Tryz.f43 [.val 0] (z9k φ):=by
 unfold fnO
 show obl _ _ _ _ _ _ _
 unfold z9k
 repeat' (first | exact trivial |(refine⟨?_,?_⟩) |(intro _) | kernel_rfl)
theorem zqm (φ:Nat):z14 TV Tryz.prog 43 (zcx φ):=
 z1d (N:=zce Tryz.prog φ) (zy ⟨zja φ,zhk φ,z5i φ,zn3 φ,trivial⟩ trivial trivial) (z9k φ) Tryz.func43 (by kernel_rfl) (zq4 φ) (zp0 φ)
def zb2 (φ:Nat):H TV (RTup TT [.val 2]):=(.seq .x (.seq .x (.seq (.seq .x (.body (.loop ⟨[(96,[(1,.ptr 0 0),(3,.val 0),(4,.val 0)])],[.box 36 [.val 30]]⟩ (fun n z=>z4y φ n z.1 z.2.1 z.2.2.1) (fun zk5=>.x)))) (.seq (.seq .x (.body (.loop ⟨[(96,[(1,.ptr 0 0),(3,.val 0),(6,.val 0)])],[.box 36 [.val 30]]⟩ (fun n z=>z37 φ n z.1 z.2.1 z.2.2.1) (fun zk10=>.x)))) (.seq (.seq .x (.body (.loop ⟨[(96,[(1,.ptr 0 0),(3,.val 0),(7,.val 0)])],[.box 36 [.val 30]]⟩ (fun n z=>z30 φ n z.1 z.2.1 z.2.2.1) (fun zk15=>.x)))) .x)))))
def zej (P:Program) (φ:Nat):Env TV:=⟨P,lk [(82,z38 φ)],lk [],lk []⟩
theorem zss (φ:Nat) (a) :(zdj φ).F a=fnX TV (zej Tryz.prog φ) φ Tryz.f44 [30] [.val 2] (zb2 φ) a:=by kernel_rfl
theorem zrc (φ:Nat):fnO TV (zej Tryz.prog φ) φ Tryz.f44 [.val 2] (zb2 φ):=by
 unfold fnO
 show obl _ _ _ _ _ _ _
 unfold zb2
 repeat' (first | exact trivial |(refine⟨?_,?_⟩) |(intro _) | kernel_rfl)
theorem zr9 (φ:Nat):z14 TV Tryz.prog 44 (zdj φ):=
 z1d (N:=zej Tryz.prog φ) (zy ⟨z5i φ,trivial⟩ trivial trivial) (zb2 φ) Tryz.func44 (by kernel_rfl) (zss φ) (zrc φ)
def z9h (φ:Nat):H TV (RTup TT [.val 2]):=(.seq .x (.seq .x (.seq (.seq .x (.body (.loop ⟨[(51,[(1,.ptr 0 0),(3,.val 0),(4,.val 0)])],[.box 36 [.val 30]]⟩ (fun n z=>z49 φ n z.1 z.2.1 z.2.2.1) (fun zk5=>.x)))) (.seq (.seq .x (.body (.loop ⟨[(51,[(1,.ptr 0 0),(3,.val 0),(6,.val 0)])],[.box 36 [.val 30]]⟩ (fun n z=>z35 φ n z.1 z.2.1 z.2.2.1) (fun zk9=>.x)))) .x))))
def zc2 (P:Program) (φ:Nat):Env TV:=⟨P,lk [],lk [],lk []⟩
theorem zqx (φ:Nat) (a) :(zck φ).F a=fnX TV (zc2 Tryz.prog φ) φ Tryz.f45 [30] [.val 2] (z9h φ) a:=by kernel_rfl
theorem zqu (φ:Nat):fnO TV (zc2 Tryz.prog φ) φ Tryz.f45 [.val 2] (z9h φ):=by
 unfold fnO
 show obl _ _ _ _ _ _ _
 unfold z9h
 repeat' (first | exact trivial |(refine⟨?_,?_⟩) |(intro _) | kernel_rfl)
theorem zp4 (φ:Nat):z14 TV Tryz.prog 45 (zck φ):=
 z1d (N:=zc2 Tryz.prog φ) (zy trivial trivial trivial) (z9h φ) Tryz.func45 (by kernel_rfl) (zqx φ) (zqu φ)
def z9j (φ:Nat):H TV (RTup TT [.val 0]):=(.seq .x (.seq (.seq .x (.body (.loop ⟨[(62,[(1,.ptr 0 0),(3,.val 0)])],[.box 126 [.val 27]]⟩ (fun n z=>z4d φ n z.1 z.2.1) (fun zk4=>.x)))) (.seq (.seq .x (.body (.loop ⟨[(62,[(1,.ptr 0 0),(5,.val 0)])],[.box 126 [.val 27]]⟩ (fun n z=>z4a φ n z.1 z.2.1) (fun zk7=>.x)))) .x)))
def zc7 (P:Program) (φ:Nat):Env TV:=⟨P,lk [],lk [],lk []⟩
theorem zpu (φ:Nat) (a) :(zc3 φ).F a=fnX TV (zc7 Tryz.prog φ) φ Tryz.f46 [27] [.val 0] (z9j φ) a:=by kernel_rfl
theorem zpo (φ:Nat):fnO TV (zc7 Tryz.prog φ) φ Tryz.f46 [.val 0] (z9j φ):=by
 unfold fnO
 show obl _ _ _ _ _ _ _
 unfold z9j
 repeat' (first | exact trivial |(refine⟨?_,?_⟩) |(intro _) | kernel_rfl)
theorem zpb (φ:Nat):z14 TV Tryz.prog 46 (zc3 φ):=
 z1d (N:=zc7 Tryz.prog φ) (zy trivial trivial trivial) (z9j φ) Tryz.func46 (by kernel_rfl) (zpu φ) (zpo φ)
def z99 (φ:Nat):H TV (RTup TT [.val 11]):=(.seq .x (.seq .x (.seq (.body (.loop ⟨[(26,[(0,.val 11),(1,.val 11),(2,.val 11),(7,.val 11)])],[]⟩ (fun n z=>z2d φ n z.1 z.2.1 z.2.2.1 z.2.2.2.1) (fun zk8=>(.seq .x (.seq (.body (.seq (.join ⟨[(26,[(0,.val 11),(1,.val 11),(2,.val 11),(7,.val 11)])],[]⟩ (fun z=>z71 φ (fun a0 a1 a2 a3=>zk8 (a0,a1,a2,a3,())) z.1 z.2.1 z.2.2.1 z.2.2.2.1) (.seq .x .x)) .x)) .x))))) .x)))
def zcz (P:Program) (φ:Nat):Env TV:=⟨P,lk [],lk [],lk []⟩
theorem zol (φ:Nat) (a) :(zbv φ).F a=fnX TV (zcz Tryz.prog φ) φ Tryz.f113 [11,11,11] [.val 11] (z99 φ) a:=by kernel_rfl
theorem zpx (φ:Nat):fnO TV (zcz Tryz.prog φ) φ Tryz.f113 [.val 11] (z99 φ):=by
 unfold fnO
 show obl _ _ _ _ _ _ _
 unfold z99
 repeat' (first | exact trivial |(refine⟨?_,?_⟩) |(intro _) | kernel_rfl)
theorem zqg (φ:Nat):z14 TV Tryz.prog 113 (zbv φ):=
 z1d (N:=zcz Tryz.prog φ) (zy trivial trivial trivial) (z99 φ) Tryz.func113 (by kernel_rfl) (zol φ) (zpx φ)
def zc9 (φ:Nat):H TV (RTup TT [.val 11]):=(.seq .x (.seq .x (.seq (.seq .x (.body (.loop ⟨[(22,[(0,.val 11),(1,.val 11),(5,.val 11)])],[]⟩ (fun n z=>z3l φ n z.1 z.2.1 z.2.2.1) (fun zk6=>(.seq .x (.seq (.body (.seq (.join ⟨[(22,[(0,.val 11),(1,.val 11),(5,.val 11)])],[]⟩ (fun z=>z9d φ (fun a0 a1 a2=>zk6 (a0,a1,a2,())) z.1 z.2.1 z.2.2.1) (.seq .x .x)) .x)) .x)))))) .x)))
def zgi (P:Program) (φ:Nat):Env TV:=⟨P,lk [(113,zbv φ)],lk [],lk []⟩
theorem zvp (φ:Nat) (a) :(zgd φ).F a=fnX TV (zgi Tryz.prog φ) φ Tryz.f84 [11,11] [.val 11] (zc9 φ) a:=by kernel_rfl
theorem zud (φ:Nat):fnO TV (zgi Tryz.prog φ) φ Tryz.f84 [.val 11] (zc9 φ):=by
 unfold fnO
 show obl _ _ _ _ _ _ _
 unfold zc9
 repeat' (first | exact trivial |(refine⟨?_,?_⟩) |(intro _) | kernel_rfl)
theorem zvj (φ:Nat):z14 TV Tryz.prog 84 (zgd φ):=
 z1d (N:=zgi Tryz.prog φ) (zy ⟨zqg φ,trivial⟩ trivial trivial) (zc9 φ) Tryz.func84 (by kernel_rfl) (zvp φ) (zud φ)
def z9e (φ:Nat):H TV (RTup TT [.val 2]):=.x
def zcv (P:Program) (φ:Nat):Env TV:=⟨P,lk [(84,zgd φ)],lk [],lk []⟩
theorem zq6 (φ:Nat) (a) :(zc0 φ).F a=fnX TV (zcv Tryz.prog φ) φ Tryz.f47 [11] [.val 2] (z9e φ) a:=by kernel_rfl
theorem zq8 (φ:Nat):fnO TV (zcv Tryz.prog φ) φ Tryz.f47 [.val 2] (z9e φ):=by
 unfold fnO
 show obl _ _ _ _ _ _ _
 unfold z9e
 repeat' (first | exact trivial |(refine⟨?_,?_⟩) |(intro _) | kernel_rfl)
theorem zqw (φ:Nat):z14 TV Tryz.prog 47 (zc0 φ):=
 z1d (N:=zcv Tryz.prog φ) (zy ⟨zvj φ,trivial⟩ trivial trivial) (z9e φ) Tryz.func47 (by kernel_rfl) (zq6 φ) (zq8 φ)
def z57 (φ:Nat):H TV (RTup TT [.val 0]):=(.seq .x (.seq .x (.seq .x (.seq .x (.seq .x (.seq .x (.seq .x (.seq (.seq .x (.body (.loop ⟨[(70,[(1,.ptr 0 0),(4,.val 0)])],[.box 36 [.val 30]]⟩ (fun n z=>z18 φ n z.1 z.2.1) (fun zk8=>.x)))) .x))))))))
def z7o (P:Program) (φ:Nat):Env TV:=⟨P,lk [(42,zca φ),(43,zcx φ),(44,zdj φ),(45,zck φ),(46,zc3 φ),(47,zc0 φ)],lk [],lk []⟩
theorem ziu (φ:Nat) (a) :(z7m φ).F a=fnX TV (z7o Tryz.prog φ) φ Tryz.f19 [30] [.val 0] (z57 φ) a:=by kernel_rfl
theorem zib (φ:Nat):fnO TV (z7o Tryz.prog φ) φ Tryz.f19 [.val 0] (z57 φ):=by
 unfold fnO
 show obl _ _ _ _ _ _ _
 unfold z57
 repeat' (first | exact trivial |(refine⟨?_,?_⟩) |(intro _) | kernel_rfl)
theorem zij (φ:Nat):z14 TV Tryz.prog 19 (z7m φ):=
 z1d (N:=z7o Tryz.prog φ) (zy ⟨zpf φ,zqm φ,zr9 φ,zp4 φ,zpb φ,zqw φ,trivial⟩ trivial trivial) (z57 φ) Tryz.func19 (by kernel_rfl) (ziu φ) (zib φ)
end Px
end
section
set_option maxHeartbeats 4000000
set_option maxRecDepth 100000
namespace Px
open Go Go.RowKit Go.Proofs
def zfm (φ:Nat):H TV (RTup TT [.val 0]):=.x
def zis (P:Program) (φ:Nat):Env TV:=⟨P,lk [],lk [],lk []⟩
theorem zy6 (φ:Nat) (a) :(zi3 φ).F a=fnX TV (zis Tryz.prog φ) φ Tryz.f50 [0,0] [.val 0] (zfm φ) a:=by kernel_rfl
theorem zxy (φ:Nat):fnO TV (zis Tryz.prog φ) φ Tryz.f50 [.val 0] (zfm φ):=by
 unfold fnO
 show obl _ _ _ _ _ _ _
 unfold zfm
 repeat' (first | exact trivial |(refine⟨?_,?_⟩) |(intro _) | kernel_rfl)
theorem zxx (φ:Nat):z14 TV Tryz.prog 50 (zi3 φ):=
 z1d (N:=zis Tryz.prog φ) (zy trivial trivial trivial) (zfm φ) Tryz.func50 (by kernel_rfl) (zy6 φ) (zxy φ)
def zap (φ:Nat):H TV (RTup TT [.val 0]):=(.seq .x (.seq .x (.seq .x (.seq (.seq .x (.body (.loop ⟨[(48,[(0,.val 0),(16,.val 44),(17,.val 0),(18,.val 0)])],[]⟩ (fun n z=>z59 φ n z.1 z.2.1 z.2.2.1 z.2.2.2.1) (fun zk7=>.x)))) .x))))
def zeo (P:Program) (φ:Nat):Env TV:=⟨P,lk [],lk [],lk []⟩
theorem zrq (φ:Nat) (a) :(zdr φ).F a=fnX TV (zeo Tryz.prog φ) φ Tryz.f51 [0,44] [.val 0] (zap φ) a:=by kernel_rfl
theorem zs4 (φ:Nat):fnO TV (zeo Tryz.prog φ) φ Tryz.f51 [.val 0] (zap φ):=by
 unfold fnO
 show obl _ _ _ _ _ _ _
 unfold zap
 repeat' (first | exact trivial |(refine⟨?_,?_⟩) |(intro _) | kernel_rfl)
theorem zs6 (φ:Nat):z14 TV Tryz.prog 51 (zdr φ):=
 z1d (N:=zeo Tryz.prog φ) (zy trivial trivial trivial) (zap φ) Tryz.func51 (by kernel_rfl) (zrq φ) (zs4 φ)
def zb7 (φ:Nat):H TV (RTup TT [.val 58,.val 58]):=.x
def zel (P:Program) (φ:Nat):Env TV:=⟨P,lk [],lk [],lk []⟩
theorem zso (φ:Nat) (a) :(ze4 φ).F a=fnX TV (zel Tryz.prog φ) φ Tryz.f141 [58,58] [.val 58,.val 58] (zb7 φ) a:=by kernel_rfl
theorem zt6 (φ:Nat):fnO TV (zel Tryz.prog φ) φ Tryz.f141 [.val 58,.val 58] (zb7 φ):=by
 unfold fnO
 show obl _ _ _ _ _ _ _
 unfold zb7
 repeat' (first | exact trivial |(refine⟨?_,?_⟩) |(intro _) | kernel_rfl)
theorem zrt (φ:Nat):z14 TV Tryz.prog 141 (ze4 φ):=
 z1d (N:=zel Tryz.prog φ) (zy trivial trivial trivial) (zb7 φ) Tryz.func141 (by kernel_rfl) (zso φ) (zt6 φ)
def zfb (φ:Nat):H TV (RTup TT [.val 11,.val 11]):=.x
def zir (P:Program) (φ:Nat):Env TV:=⟨P,lk [(141,ze4 φ),(142,zax φ)],lk [],lk []⟩
theorem zxq (φ:Nat) (a) :(zip φ).F a=fnX TV (zir Tryz.prog φ) φ Tryz.f122 [11,11] [.val 11,.val 11] (zfb φ) a:=by kernel_rfl
theorem zyg (φ:Nat):fnO TV (zir Tryz.prog φ) φ Tryz.f122 [.val 11,.val 11] (zfb φ):=by
 unfold fnO
 show obl _ _ _ _ _ _ _
 unfold zfb
 repeat' (first | exact trivial |(refine⟨?_,?_⟩) |(intro _) | kernel_rfl)
theorem zyk (φ:Nat):z14 TV Tryz.prog 122 (zip φ):=
 z1d (N:=zir Tryz.prog φ) (zy ⟨zrt φ,zje φ,trivial⟩ trivial trivial) (zfb φ) Tryz.func122 (by kernel_rfl) (zxq φ) (zyg φ)
def z7a (φ:Nat):H TV (RTup TT [.row 3 0]):=(.seq .x (.seq .x (.seq .x (.seq .x (.seq .x (.seq .x (.seq (.body (.loop ⟨[(48,[(7,.own 0),(8,.val 0)])],[.row 3 0]⟩ (fun n z=>z41 φ n z.1 z.2.1) (fun zk6=>.x))) .x)))))))
def za7 (P:Program) (φ:Nat):Env TV:=⟨P,lk [(122,zip φ)],lk [],lk []⟩
theorem zlo (φ:Nat) (a) :(za5 φ).F a=fnX TV (za7 Tryz.prog φ) φ Tryz.f88 [5,0] [.row 3 0] (z7a φ) a:=by kernel_rfl
theorem zlb (φ:Nat):fnO TV (za7 Tryz.prog φ) φ Tryz.f88 [.row 3 0] (z7a φ):=by
 unfold fnO
 show obl _ _ _ _ _ _ _
 unfold z7a
 repeat' (first | exact trivial |(refine⟨?_,?_⟩) |(intro _) | kernel_rfl)
theorem zl2 (φ:Nat):z14 TV Tryz.prog 88 (za5 φ):=
 z1d (N:=za7 Tryz.prog φ) (zy ⟨zyk φ,trivial⟩ trivial trivial) (z7a φ) Tryz.func88 (by kernel_rfl) (zlo φ) (zlb φ)
theorem zi0 (φ:Nat) (k24 :((List ze)->Int->Int->Int->(List ze)->Int->Int->(List Int)->(List Int)->Option ((List Int)×(List Int)×Int×Unit))) (x25:Int) (x26:Int) (x27 :(List ze)) (x28:Int) (x29:Int) (x30:Int) (x31:Int) (x32 :(List ze)) (x33:Int) (x34:Int) (x35:ze) (x36 :(List Int)) (x37 :(List Int)):z0h (z4r φ k24 x25 x26 x27 x28 x29 x30 x31 x32 x33 x34 x35 x36 x37) (z8t φ k24 x25 x26 x27 x28 x29 x30 x31 x32 x33 x34 x35 x36 x37):=by
 unfold z4r z8t
 repeat' (first | exact z0h.one | exact z0h.nil | refine z0h.cons ?_ ?_ | refine z0h.ck ?_ | exact z0h.same (n:=2) rfl | exact z0h.same (n:=3) rfl | exact z0h.same (n:=4) rfl | exact z0h.same (n:=6) rfl | refine z0h.bind fun _=>?_)
theorem zhg (φ:Nat) (x39:Int) (x40 :(List Int)) (x41 :(List Int)):z0h (za4 φ x39 x40 x41) (zdf φ x39 x40 x41):=by
 unfold za4 zdf
 repeat' (first | exact z0h.one | exact z0h.nil | refine z0h.cons ?_ ?_ | refine z0h.ck ?_ | exact z0h.same (n:=2) rfl | exact z0h.same (n:=3) rfl | exact z0h.same (n:=4) rfl | exact z0h.same (n:=6) rfl | refine z0h.bind fun _=>?_)
theorem zhz (φ:Nat) (x43:Int) (x44 :(List Int)) (x45 :(List Int)):z0h (z6k φ x43 x44 x45) (z94 φ x43 x44 x45):=by
 unfold z6k z94
 repeat' (first | exact z0h.one | exact z0h.nil | refine z0h.cons ?_ ?_ | refine z0h.ck ?_ | exact z0h.same (n:=2) rfl | exact z0h.same (n:=3) rfl | exact z0h.same (n:=4) rfl | exact z0h.same (n:=6) rfl | refine z0h.bind fun _=>?_)
theorem zha (φ:Nat) (x47:Int) (x48 :(List ze)) (x49 :(List Int)) (x50 :(List Int)):z0h (z4s φ x47 x48 x49 x50) (z95 φ x47 x48 x49 x50):=by
 unfold z4s z95
 constructor
 intro r h
 obtain⟨hp,h⟩:=zef h
 obtain⟨y,hy,hk⟩:=bind_some h
 exact⟨[some r,some r,some r],by simp [z7 hp,hy,catL,cat2]; exact hk,by simp⟩
def z9i (φ:Nat):H TV (RTup TT [.val 5,.val 5,.val 0]):=(.seq .x (.seq (.join ⟨[(19,[(0,.val 0),(1,.val 44),(4,.ptr 0 0),(5,.ptr 1 0)])],[.box 66 [.own 2],.box 66 [.own 3],.row 3 0,.row 3 0]⟩ (fun z=>z48 φ z.1 z.2.1 z.2.2.1 z.2.2.2.1) (.alt ⟨[(19,[(0,.val 0),(1,.val 44),(4,.ptr 0 0),(5,.ptr 1 0)])],[.box 66 [.own 2],.box 66 [.own 3],.row 3 0,.row 3 0]⟩ (fun z=>z4s φ z.1 z.2.1 z.2.2.1 z.2.2.2.1) (fun z=>z95 φ z.1 z.2.1 z.2.2.1 z.2.2.2.1))) (.seq (.ins 3 89 (.seq .x (.body (.seq .x (.seq .x (.seq (.seq .x (.body (.loop ⟨[(30,[(1,.val 44),(2,.func 90 [.ptr 0 0,.ptr 1 0]),(7,.val 0),(10,.val 0),(11,.val 0)]),(19,[(4,.ptr 0 0),(5,.ptr 1 0)])],[.box 66 [.own 2],.box 66 [.own 3],.row 3 0,.row 3 0]⟩ (fun n z=>z3f φ n z.1 z.2.1 z.2.2.1 z.2.2.2.1 z.2.2.2.2.1 z.2.2.2.2.2.1) (fun zk14=>(.seq .x (.seq .x (.seq (.body (.seq .x (.seq (.seq .x (.body (.loop ⟨[(30,[(1,.val 44),(2,.func 90 [.ptr 0 0,.ptr 1 0]),(7,.val 0),(10,.val 0),(11,.val 0),(13,.val 44),(14,.val 0),(15,.val 0)]),(19,[(4,.ptr 0 0),(5,.ptr 1 0)])],[.box 66 [.own 2],.box 66 [.own 3],.row 3 0,.row 3 0]⟩ (fun n z=>z1w φ (fun a0 a1 a2 a3 a4 a5=>zk14 (a0,a1,a2,a3,a4,a5,())) n z.1 z.2.1 z.2.2.1 z.2.2.2.1 z.2.2.2.2.1 z.2.2.2.2.2.1 z.2.2.2.2.2.2.1 z.2.2.2.2.2.2.2.1 z.2.2.2.2.2.2.2.2.1) (fun zk24=>(.seq .x (.seq .x (.seq (.body (.seq .x (.seq (.ins 3 90 (.seq .x (.seq (.seq .x (.seq .x (.cond (.seq (.alt ⟨[(33,[(0,.val 0),(2,.ptr 0 0),(3,.ptr 1 0),(5,.ptr 2 0),(7,.val 0)]),(30,[(1,.val 44),(2,.func 90 [.ptr 0 0,.ptr 1 0]),(7,.val 0),(8,.val 0),(10,.val 0),(11,.val 0),(13,.val 44),(14,.val 0),(15,.val 0)]),(19,[(4,.ptr 0 0),(5,.ptr 1 0)])],[.box 66 [.own 3],.box 66 [.own 4],.box 94 [.val 43],.row 3 0,.row 3 0]⟩ (fun z=>z4r φ (fun a0 a1 a2 a3 a4 a5 a6 a7 a8=>zk24 (a0,a1,a2,a3,a4,a5,a6,a7,a8,())) z.1 z.2.1 z.2.2.1 z.2.2.2.1 z.2.2.2.2.1 z.2.2.2.2.2.1 z.2.2.2.2.2.2.1 z.2.2.2.2.2.2.2.1 z.2.2.2.2.2.2.2.2.1 z.2.2.2.2.2.2.2.2.2.1 z.2.2.2.2.2.2.2.2.2.2.1 z.2.2.2.2.2.2.2.2.2.2.2.1 z.2.2.2.2.2.2.2.2.2.2.2.2.1) (fun z=>z8t φ (fun a0 a1 a2 a3 a4 a5 a6 a7 a8=>zk24 (a0,a1,a2,a3,a4,a5,a6,a7,a8,())) z.1 z.2.1 z.2.2.1 z.2.2.2.1 z.2.2.2.2.1 z.2.2.2.2.2.1 z.2.2.2.2.2.2.1 z.2.2.2.2.2.2.2.1 z.2.2.2.2.2.2.2.2.1 z.2.2.2.2.2.2.2.2.2.1 z.2.2.2.2.2.2.2.2.2.2.1 z.2.2.2.2.2.2.2.2.2.2.2.1 z.2.2.2.2.2.2.2.2.2.2.2.2.1)) .x) .x))) .x)) .x) .x))) .x))))))) .x))) .x))))))) .x))))) .x) (.seq (.alt ⟨[(19,[(4,.ptr 0 0),(5,.ptr 1 0),(6,.val 0)])],[.box 66 [.own 2],.box 66 [.own 3],.row 3 0,.row 3 0]⟩ (fun z=>z6k φ z.1 z.2.1 z.2.2.1) (fun z=>z94 φ z.1 z.2.1 z.2.2.1)) .x))))
def zc4 (P:Program) (φ:Nat):Env TV:=⟨P,lk [(88,za5 φ)],lk [],lk []⟩
theorem zop (φ:Nat) (a) :(zd6 φ).F a=fnX TV (zc4 Tryz.prog φ) φ Tryz.f52 [0,44] [.val 5,.val 5,.val 0] (z9i φ) a:=by kernel_rfl
theorem zoi (φ:Nat):fnO TV (zc4 Tryz.prog φ) φ Tryz.f52 [.val 5,.val 5,.val 0] (z9i φ):=by
 unfold fnO
 show obl _ _ _ _ _ _ _
 unfold z9i
 repeat' (first | exact trivial |(refine⟨?_,?_⟩) |(intro _) | kernel_rfl | exact zi0 .. | exact zhg .. | exact zhz .. | exact zha ..)
theorem zp9 (φ:Nat):z14 TV Tryz.prog 52 (zd6 φ):=
 z1d (N:=zc4 Tryz.prog φ) (zy ⟨zl2 φ,trivial⟩ trivial trivial) (z9i φ) Tryz.func52 (by kernel_rfl) (zop φ) (zoi φ)
def zas (φ:Nat):H TV (RTup TT [.val 5,.val 0]):=.x
def zdp (P:Program) (φ:Nat):Env TV:=⟨P,lk [(51,zdr φ),(52,zd6 φ)],lk [],lk []⟩
theorem zsg (φ:Nat) (a) :(ze0 φ).F a=fnX TV (zdp Tryz.prog φ) φ Tryz.f24 [0,44] [.val 5,.val 0] (zas φ) a:=by kernel_rfl
theorem zre (φ:Nat):fnO TV (zdp Tryz.prog φ) φ Tryz.f24 [.val 5,.val 0] (zas φ):=by
 unfold fnO
 show obl _ _ _ _ _ _ _
 unfold zas
 repeat' (first | exact trivial |(refine⟨?_,?_⟩) |(intro _) | kernel_rfl)
theorem zry (φ:Nat):z14 TV Tryz.prog 24 (ze0 φ):=
 z1d (N:=zdp Tryz.prog φ) (zy ⟨zs6 φ,zp9 φ,trivial⟩ trivial trivial) (zas φ) Tryz.func24 (by kernel_rfl) (zsg φ) (zre φ)
theorem zbp (φ:Nat) (k172 :(Int->Pool->(List zc)->(List Int)->(List Int)->(List zc)->(List (List Int))->(List Int)->Option (Bool×Unit))) (x173:Int) (x174:Pool) (x175 :(List zc)) (x176 :(List Int)) (x177 :(List Int)) (x178 :(List zc)) (x179 :(List (List Int))) (x180 :(List Int)):z0h (z1r φ k172 x173 x174 x175 x176 x177 x178 x179 x180) (z4e φ k172 x173 x174 x175 x176 x177 x178 x179 x180):=by
 unfold z1r z4e
 rw [z17]
 repeat' (first | exact z0h.one | exact z0h.nil | refine z0h.cons ?_ ?_ | refine z0h.ck ?_)
def z4i (φ:Nat):H TV (RTup TT [.val 2]):=(.seq .x (.seq .x (.seq .x (.seq (.ins 2 22 (.seq .x (.seq .x (.seq (.seq .x (.body (.loop ⟨[(93,[(1,.val 57),(2,.ptr 0 0),(5,.ptr 1 0),(6,.val 0)]),(125,[(2,.val 60),(3,.val 2),(4,.ptr 2 0)])],[.box 36 [.val 30],.box 80 [.own 3,.own 4,.own 5,.own 6,.own 7],.box 36 [.val 30],.row 3 0,.row 3 0,.row 63 37,.row 66 5,.row 3 0]⟩ (fun n z=>z1c φ n z.1 z.2.1 z.2.2.1 z.2.2.2.1 z.2.2.2.2.1 z.2.2.2.2.2.1 z.2.2.2.2.2.2.1 z.2.2.2.2.2.2.2.1 z.2.2.2.2.2.2.2.2.1 z.2.2.2.2.2.2.2.2.2.1 z.2.2.2.2.2.2.2.2.2.2.1) (fun zk19=>.x)))) (.seq (.seq .x (.body (.loop ⟨[(93,[(1,.val 57),(2,.ptr 0 0),(5,.ptr 1 0),(7,.val 0)]),(125,[(2,.val 60),(3,.val 2),(4,.ptr 2 0)])],[.box 36 [.val 30],.box 80 [.own 3,.own 4,.own 5,.own 6,.own 7],.box 36 [.val 30],.row 3 0,.row 3 0,.row 63 37,.row 66 5,.row 3 0]⟩ (fun n z=>z0e φ n z.1 z.2.1 z.2.2.1 z.2.2.2.1 z.2.2.2.2.1 z.2.2.2.2.2.1 z.2.2.2.2.2.2.1 z.2.2.2.2.2.2.2.1 z.2.2.2.2.2.2.2.2.1 z.2.2.2.2.2.2.2.2.2.1 z.2.2.2.2.2.2.2.2.2.2.1) (fun zk31=>(.seq .x (.seq (.body (.seq .x (.seq (.join ⟨[(93,[(1,.val 57),(2,.ptr 0 0),(5,.ptr 1 0),(7,.val 0),(8,.val 0)]),(125,[(2,.val 60),(3,.val 2),(4,.ptr 2 0)])],[.box 36 [.val 30],.box 80 [.own 3,.own 4,.own 5,.own 6,.own 7],.box 36 [.val 30],.row 3 0,.row 3 0,.row 63 37,.row 66 5,.row 3 0]⟩ (fun z=>z2c φ (fun a0 a1 a2 a3 a4 a5 a6 a7 a8 a9 a10=>zk31 (a0,a1,a2,a3,a4,a5,a6,a7,a8,a9,a10,())) z.1 z.2.1 z.2.2.1 z.2.2.2.1 z.2.2.2.2.1 z.2.2.2.2.2.1 z.2.2.2.2.2.2.1 z.2.2.2.2.2.2.2.1 z.2.2.2.2.2.2.2.2.1 z.2.2.2.2.2.2.2.2.2.1 z.2.2.2.2.2.2.2.2.2.2.1 z.2.2.2.2.2.2.2.2.2.2.2.1) (.seq .x .x)) .x))) .x)))))) .x)))) .x) (.seq (.seq .x (.body (.loop ⟨[(125,[(2,.val 60),(3,.val 2),(4,.ptr 0 0),(9,.ptr 1 0),(10,.val 0)])],[.box 36 [.val 30],.box 80 [.own 2,.own 3,.own 4,.own 5,.own 6],.row 3 0,.row 3 0,.row 63 37,.row 66 5,.row 3 0]⟩ (fun n z=>z0f φ n z.1 z.2.1 z.2.2.1 z.2.2.2.1 z.2.2.2.2.1 z.2.2.2.2.2.1 z.2.2.2.2.2.2.1 z.2.2.2.2.2.2.2.1 z.2.2.2.2.2.2.2.2.1) (fun zk54=>(.seq .x (.seq (.body (.seq (.ins 6 23 (.seq .x (.seq .x (.seq .x (.seq .x (.seq .x (.seq (.join ⟨[(193,[(0,.ptr 0 0),(4,.ptr 1 0),(5,.ptr 2 0),(7,.val 0),(8,.val 0),(9,.val 2),(10,.val 0)]),(125,[(2,.val 60),(3,.val 2),(4,.ptr 3 0),(9,.ptr 0 0),(10,.val 0),(55,.ptr 0 0),(56,.val 30),(57,.val 60),(58,.val 0),(60,.val 59)])],[.box 80 [.own 4,.own 5,.own 6,.own 7,.own 8],.box 36 [.val 30],.box 77 [.val 59],.box 36 [.val 30],.row 3 0,.row 3 0,.row 63 37,.row 66 5,.row 3 0]⟩ (fun z=>z2a φ (fun a0 a1 a2 a3 a4 a5 a6 a7 a8=>zk54 (a0,a1,a2,a3,a4,a5,a6,a7,a8,())) z.1 z.2.1 z.2.2.1 z.2.2.2.1 z.2.2.2.2.1 z.2.2.2.2.2.1 z.2.2.2.2.2.2.1 z.2.2.2.2.2.2.2.1 z.2.2.2.2.2.2.2.2.1 z.2.2.2.2.2.2.2.2.2.1 z.2.2.2.2.2.2.2.2.2.2.1 z.2.2.2.2.2.2.2.2.2.2.2.1 z.2.2.2.2.2.2.2.2.2.2.2.2.1 z.2.2.2.2.2.2.2.2.2.2.2.2.2.1 z.2.2.2.2.2.2.2.2.2.2.2.2.2.2.1 z.2.2.2.2.2.2.2.2.2.2.2.2.2.2.2.1 z.2.2.2.2.2.2.2.2.2.2.2.2.2.2.2.2.1 z.2.2.2.2.2.2.2.2.2.2.2.2.2.2.2.2.2.1 z.2.2.2.2.2.2.2.2.2.2.2.2.2.2.2.2.2.2.1) (.seq .x .x)) (.seq .x (.seq .x (.seq .x (.seq .x (.seq .x (.seq .x (.seq (.join ⟨[(193,[(0,.ptr 0 0),(14,.ptr 1 0)]),(125,[(2,.val 60),(3,.val 2),(4,.ptr 2 0),(9,.ptr 0 0),(10,.val 0),(55,.ptr 0 0),(56,.val 30),(57,.val 60),(58,.val 0),(60,.val 59)])],[.box 80 [.own 3,.own 4,.own 5,.own 6,.own 7],.box 63 [.val 0,.val 0,.val 0,.val 0,.val 0,.val 0,.val 0,.val 0,.val 0,.val 0,.val 0,.val 0,.val 0,.val 0,.val 0,.val 0,.val 0,.val 0,.val 0,.val 32,.own 8],.box 36 [.val 30],.row 3 0,.row 3 0,.row 63 37,.row 66 5,.row 3 0,.row 231 33]⟩ (fun z=>z1v φ (fun a0 a1 a2 a3 a4 a5 a6 a7 a8=>zk54 (a0,a1,a2,a3,a4,a5,a6,a7,a8,())) z.1 z.2.1 z.2.2.1 z.2.2.2.1 z.2.2.2.2.1 z.2.2.2.2.2.1 z.2.2.2.2.2.2.1 z.2.2.2.2.2.2.2.1 z.2.2.2.2.2.2.2.2.1 z.2.2.2.2.2.2.2.2.2.1 z.2.2.2.2.2.2.2.2.2.2.1 z.2.2.2.2.2.2.2.2.2.2.2.1 z.2.2.2.2.2.2.2.2.2.2.2.2.1 z.2.2.2.2.2.2.2.2.2.2.2.2.2.1 z.2.2.2.2.2.2.2.2.2.2.2.2.2.2.1 z.2.2.2.2.2.2.2.2.2.2.2.2.2.2.2.1 z.2.2.2.2.2.2.2.2.2.2.2.2.2.2.2.2.1 z.2.2.2.2.2.2.2.2.2.2.2.2.2.2.2.2.2.1 z.2.2.2.2.2.2.2.2.2.2.2.2.2.2.2.2.2.2.1 z.2.2.2.2.2.2.2.2.2.2.2.2.2.2.2.2.2.2.2.1 z.2.2.2.2.2.2.2.2.2.2.2.2.2.2.2.2.2.2.2.2.1 z.2.2.2.2.2.2.2.2.2.2.2.2.2.2.2.2.2.2.2.2.2.1 z.2.2.2.2.2.2.2.2.2.2.2.2.2.2.2.2.2.2.2.2.2.2.1 z.2.2.2.2.2.2.2.2.2.2.2.2.2.2.2.2.2.2.2.2.2.2.2.1 z.2.2.2.2.2.2.2.2.2.2.2.2.2.2.2.2.2.2.2.2.2.2.2.2.1 z.2.2.2.2.2.2.2.2.2.2.2.2.2.2.2.2.2.2.2.2.2.2.2.2.2.1 z.2.2.2.2.2.2.2.2.2.2.2.2.2.2.2.2.2.2.2.2.2.2.2.2.2.2.1 z.2.2.2.2.2.2.2.2.2.2.2.2.2.2.2.2.2.2.2.2.2.2.2.2.2.2.2.1 z.2.2.2.2.2.2.2.2.2.2.2.2.2.2.2.2.2.2.2.2.2.2.2.2.2.2.2.2.1 z.2.2.2.2.2.2.2.2.2.2.2.2.2.2.2.2.2.2.2.2.2.2.2.2.2.2.2.2.2.1 z.2.2.2.2.2.2.2.2.2.2.2.2.2.2.2.2.2.2.2.2.2.2.2.2.2.2.2.2.2.2.1 z.2.2.2.2.2.2.2.2.2.2.2.2.2.2.2.2.2.2.2.2.2.2.2.2.2.2.2.2.2.2.2.1 z.2.2.2.2.2.2.2.2.2.2.2.2.2.2.2.2.2.2.2.2.2.2.2.2.2.2.2.2.2.2.2.2.1 z.2.2.2.2.2.2.2.2.2.2.2.2.2.2.2.2.2.2.2.2.2.2.2.2.2.2.2.2.2.2.2.2.2.1) (.seq .x .x)) (.seq (.frz [(14,some 20)] .x) .x)))))))))))))) .x) .x)) .x)))))) (.seq .x (.seq (.join ⟨[(125,[(4,.ptr 0 0),(9,.ptr 1 0),(11,.own 2)])],[.box 36 [.val 30],.box 80 [.own 3,.own 4,.own 5,.own 6,.own 7],.row 63 37,.row 3 0,.row 3 0,.row 63 37,.row 66 5,.row 3 0]⟩ (fun z=>z13 φ z.1 z.2.1 z.2.2.1 z.2.2.2.1 z.2.2.2.2.1 z.2.2.2.2.2.1 z.2.2.2.2.2.2.1) (.seq .x (.cond (.seq .x (.body (.loop ⟨[(125,[(4,.ptr 0 0),(9,.ptr 1 0),(11,.own 2),(12,.val 0)])],[.box 36 [.val 30],.box 80 [.own 3,.own 4,.own 5,.own 6,.own 7],.row 63 37,.row 3 0,.row 3 0,.row 63 37,.row 66 5,.row 3 0]⟩ (fun n z=>z0m φ n z.1 z.2.1 z.2.2.1 z.2.2.2.1 z.2.2.2.2.1 z.2.2.2.2.2.1 z.2.2.2.2.2.2.1 z.2.2.2.2.2.2.2.1) (fun zk172=>(.seq .x (.seq (.body (.alt ⟨[(125,[(4,.ptr 0 0),(9,.ptr 1 0),(11,.own 2),(12,.val 0)])],[.box 36 [.val 30],.box 80 [.own 3,.own 4,.own 5,.own 6,.own 7],.row 63 37,.row 3 0,.row 3 0,.row 63 37,.row 66 5,.row 3 0]⟩ (fun z=>z1r φ (fun a0 a1 a2 a3 a4 a5 a6 a7=>zk172 (a0,a1,a2,a3,a4,a5,a6,a7,())) z.1 z.2.1 z.2.2.1 z.2.2.2.1 z.2.2.2.2.1 z.2.2.2.2.2.1 z.2.2.2.2.2.2.1 z.2.2.2.2.2.2.2.1) (fun z=>z4e φ (fun a0 a1 a2 a3 a4 a5 a6 a7=>zk172 (a0,a1,a2,a3,a4,a5,a6,a7,())) z.1 z.2.1 z.2.2.1 z.2.2.2.1 z.2.2.2.2.1 z.2.2.2.2.2.1 z.2.2.2.2.2.2.1 z.2.2.2.2.2.2.2.1))) .x)))))) .x))) (.seq .x (.seq .x (.seq (.ins 10 25 (.seq .x (.seq .x (.seq .x (.seq .x (.seq (.seq .x (.body (.loop ⟨[(220,[(0,.ptr 0 0),(5,.ptr 1 0),(7,.own 2),(8,.own 3),(9,.val 0)]),(125,[(119,.val 2)])],[.box 80 [.own 4,.own 5,.own 6,.own 7,.own 8],.box 46 [.val 49],.row 3 0,.fix 4 2,.row 3 0,.row 3 0,.row 63 37,.row 66 5,.row 3 0]⟩ (fun n z=>z06 φ n z.1 z.2.1 z.2.2.1 z.2.2.2.1 z.2.2.2.2.1 z.2.2.2.2.2.1 z.2.2.2.2.2.2.1 z.2.2.2.2.2.2.2.1 z.2.2.2.2.2.2.2.2.1 z.2.2.2.2.2.2.2.2.2.1) (fun zk136=>.x)))) (.seq (.seq .x (.body (.loop ⟨[(220,[(0,.ptr 0 0),(5,.ptr 1 0),(7,.own 2),(8,.own 3),(10,.val 0)]),(125,[(119,.val 2)])],[.box 80 [.own 4,.own 5,.own 6,.own 7,.own 8],.box 46 [.val 49],.row 3 0,.fix 4 2,.row 3 0,.row 3 0,.row 63 37,.row 66 5,.row 3 0]⟩ (fun n z=>z0n φ n z.1 z.2.1 z.2.2.1 z.2.2.2.1 z.2.2.2.2.1 z.2.2.2.2.2.1 z.2.2.2.2.2.2.1 z.2.2.2.2.2.2.2.1 z.2.2.2.2.2.2.2.2.1 z.2.2.2.2.2.2.2.2.2.1) (fun zk147=>.x)))) (.seq .x (.seq (.seq .x (.body (.loop ⟨[(220,[(0,.ptr 0 0),(5,.ptr 1 0),(7,.own 2),(11,.own 3),(12,.val 0)]),(125,[(119,.val 2)])],[.box 80 [.own 4,.own 5,.own 6,.own 7,.own 8],.box 46 [.val 49],.row 3 0,.row 3 0,.row 3 0,.row 3 0,.row 63 37,.row 66 5,.row 3 0]⟩ (fun n z=>z0l φ n z.1 z.2.1 z.2.2.1 z.2.2.2.1 z.2.2.2.2.1 z.2.2.2.2.2.1 z.2.2.2.2.2.2.1 z.2.2.2.2.2.2.2.1 z.2.2.2.2.2.2.2.2.1 z.2.2.2.2.2.2.2.2.2.1) (fun zk158=>.x)))) (.seq .x (.seq (.seq .x (.body (.loop ⟨[(220,[(5,.ptr 0 0),(7,.own 1),(14,.val 0)]),(125,[(119,.val 2)])],[.box 46 [.val 49],.row 3 0]⟩ (fun n z=>z0k φ n z.1 z.2.1 z.2.2.1 z.2.2.2.1) (fun zk163=>.x)))) .x)))))))))) .x) .x))))))))))
def z6c (P:Program) (φ:Nat):Env TV:=⟨P,lk [(8,zdq φ),(21,z7x φ),(19,z7m φ),(50,zi3 φ),(27,z5c φ),(10,z9m φ),(24,ze0 φ)],lk [],lk []⟩
theorem zho (φ:Nat) (a) :(z4p φ).F a=fnX TV (z6c Tryz.prog φ) φ Tryz.f5 [30,57,60,2] [.val 2] (z4i φ) a:=by kernel_rfl
theorem zgu (φ:Nat):fnO TV (z6c Tryz.prog φ) φ Tryz.f5 [.val 2] (z4i φ):=by
 unfold fnO
 show obl _ _ _ _ _ _ _
 unfold z4i
 repeat' (first | exact trivial |(refine⟨?_,?_⟩) |(intro _) | kernel_rfl | exact zbp ..)
theorem zhi (φ:Nat):z14 TV Tryz.prog 5 (z4p φ):=
 z1d (N:=z6c Tryz.prog φ) (zy ⟨ztn φ,zii φ,zij φ,zxx φ,zbo φ,zh5 φ,zry φ,trivial⟩ trivial trivial) (z4i φ) Tryz.func5 (by kernel_rfl) (zho φ) (zgu φ)
end Px
end
section
namespace Px
open Go
theorem z2p (φ:Nat) (a b c:Int):zm φ a b c=some (bet a b c,()):=rfl
def zfs (t:z2b):Bool:=
 bet t.load 0 1000000&&bet t.tare 0 1000000&&bet t.length 0 1000000&&bet t.brake 0 1000000&&bet t.gauge 0 7&&bet t.life 1 1073741824&&bet t.floor 0 100
def zbh (n:Int) (w:zjs):Bool:=
 bet w.type_ 0 (n-1)&&bet w.owner 0 63&&bet w.home 0 511&&bet w.built 0 1073741824&&bet w.worth 0 1099511627776
def zgk (n:Int) (s:Swap):Bool:=bet s.wanted 0 (n-1)&&bet s.given 0 (n-1)&&(s.wanted !=s.given)&&bet s.cost 0 1000000000
def zsk (w:Wash):Bool:=bet w.from_ 0 63&&bet w.to 0 63&&(w.from_ !=w.to)&&bet w.minutes 0 100000
def keyW (w:Wash):Int:=64*w.from_+w.to
def z2t (l:List Wash) (i:Nat):Bool:=zsk (gt l (i:Int))&&!(l.take i).any fun v=>keyW v==keyW (gt l (i:Int))
def z4g (l:List Wash):Bool:=(List.range l.length).all (z2t l)
def z3t (x:z93):Int:=
 bif decide (32<x.types.length)||decide (4096<x.wagons.length)||decide (1024<x.swaps.length)||decide (4096<x.washes.length) then 2 else
 bif x.types.all zfs&&x.wagons.all (zbh x.types.length)&&x.swaps.all (zgk x.types.length)&&z4g x.washes then 0 else 1
theorem z8c (p:Nat->Bool) (i:Nat) :(List.range (i+1)).all p =((List.range i).all p&&p i):=by
 rw [List.range_succ,List.all_append]; simp
theorem zic (φ:Nat) (x:z93) (hl:x.swaps.length<=1024) (ht:x.types.length<=32) :
  ∀ n s,x.swaps.length<n->z0s φ n x.swaps (x.swaps.length:Int) 0 x s=zp φ φ x.washes (x.washes.length:Int) 0 (bif x.swaps.all (zgk (x.types.length:Int)) then s else 1) (fun _=>default):=by
 have hp:W ((x.types.length:Int)-1) =(x.types.length:Int)-1:=W_id (by omega) (by omega)
 refine zkk (fun n i s=>z0s φ n x.swaps (x.swaps.length:Int) i x s) (fun s=>zp φ φ x.washes (x.washes.length:Int) 0 s (fun _=>default)) _ _ ?_ ?_
 ·intro n i s hi
  have hW:W ((i:Int)+1) =(i:Int)+1:=W_id (by omega) (by omega)
  rw [z0s,if_pos (by simp; omega),z7 ⟨by omega,by omega⟩]
  simp only [z2p,Option.bind_some,zgk,z00,hW,hp]
  cases bet (gt x.swaps i).wanted 0 ((x.types.length:Int)-1) <;> cases bet (gt x.swaps i).given 0 ((x.types.length:Int)-1) <;> cases ((gt x.swaps i).wanted !=(gt x.swaps i).given) <;>
   cases bet (gt x.swaps i).cost 0 1000000000 <;> rfl
 ·intro n s
  rw [z0s,if_neg (by simp)]
theorem zhf (φ:Nat) (x:z93) (hl:x.wagons.length<=4096) (ht:x.types.length<=32) :
  ∀ n s,x.wagons.length<n->z0c φ n x.wagons (x.wagons.length:Int) 0 x s=z0s φ φ x.swaps (x.swaps.length:Int) 0 x (bif x.wagons.all (zbh (x.types.length:Int)) then s else 1):=by
 have hp:W ((x.types.length:Int)-1) =(x.types.length:Int)-1:=W_id (by omega) (by omega)
 refine zkk (fun n i s=>z0c φ n x.wagons (x.wagons.length:Int) i x s) (fun s=>z0s φ φ x.swaps (x.swaps.length:Int) 0 x s) _ _ ?_ ?_
 ·intro n i s hi
  have hW:W ((i:Int)+1) =(i:Int)+1:=W_id (by omega) (by omega)
  rw [z0c,if_pos (by simp; omega),z7 ⟨by omega,by omega⟩]
  simp only [z2p,Option.bind_some,zbh,z00,hW,hp]
  cases bet (gt x.wagons i).type_ 0 ((x.types.length:Int)-1) <;> cases bet (gt x.wagons i).owner 0 63 <;> cases bet (gt x.wagons i).home 0 511 <;>
   cases bet (gt x.wagons i).built 0 1073741824 <;> cases bet (gt x.wagons i).worth 0 1099511627776 <;> rfl
 ·intro n s
  rw [z0c,if_neg (by simp)]
theorem zjx (φ:Nat) (k:List z2b->Int->Int->z93->Int->Option (Int×Unit)) (ts:List z2b) (len i:Int) (x:z93) (t:z2b) (n:Nat) (s:Int) (hn:4<n) :
  z1q φ k n ts len i 4 0 x s t [t.load,t.tare,t.length,t.brake]=k ts len (W (i+1)) x (bif zfs t then s else 1):=by
 have h:=zkk (fun n j s=>z1q φ k n ts len i 4 j x s t [t.load,t.tare,t.length,t.brake]) (fun s=>k ts len (W (i+1)) x (bif (bet t.gauge 0 7&&bet t.life 1 1073741824&&bet t.floor 0 100) then s else 1))
  [t.load,t.tare,t.length,t.brake] (fun a=>bet a 0 1000000) (fun n j s hi=>by
   rw [z1q,if_pos (by simp at hi ⊢; omega),z7 ⟨by omega,by omega⟩]
   simp at hi
   have hW:W ((j:Int)+1) =(j:Int)+1:=W_id (by omega) (by omega)
   simp only [z2p,Option.bind_some,hW]
   cases bet (gt [t.load,t.tare,t.length,t.brake] (j:Int)) 0 1000000 <;> rfl) (fun n s=>by
   rw [z1q,if_neg (by simp)]
   simp only [z2p,Option.bind_some,z00]
   cases bet t.gauge 0 7 <;> cases bet t.life 1 1073741824 <;> cases bet t.floor 0 100 <;> rfl) n s hn
 rw [h]
 simp only [zfs,List.all_cons,List.all_nil]
 cases bet t.load 0 1000000 <;> cases bet t.tare 0 1000000 <;> cases bet t.length 0 1000000 <;> cases bet t.brake 0 1000000 <;>
   cases bet t.gauge 0 7 <;> cases bet t.life 1 1073741824 <;> cases bet t.floor 0 100 <;> rfl
theorem ziv (φ:Nat) (hφ:4<φ) (x:z93) (hl:x.types.length<=32) :
  ∀ n s,x.types.length<n->z3b φ n x.types (x.types.length:Int) 0 x s=z0c φ φ x.wagons (x.wagons.length:Int) 0 x (bif x.types.all zfs then s else 1):=by
 refine zkk (fun n i s=>z3b φ n x.types (x.types.length:Int) i x s) (fun s=>z0c φ φ x.wagons (x.wagons.length:Int) 0 x s) _ _ ?_ ?_
 ·intro n i s hi
  rw [z3b,if_pos (by simp; omega),z7 ⟨by omega,by omega⟩]
  have hW:W ((i:Int)+1) =(i:Int)+1:=W_id (by omega) (by omega)
  refine(zjx φ _ x.types (x.types.length:Int) (i:Int) x (gt x.types i) φ s hφ).trans ?_
  rw [hW]
 ·intro n s
  rw [z3b,if_neg (by simp)]
theorem zhv (φ:Nat) (x:z93) (hl:x.washes.length<=4096) (n:Nat) (s:Int) (hn:x.washes.length<n) :
  zp φ n x.washes (x.washes.length:Int) 0 s (fun _=>default)=some (bif z4g x.washes then s else 1,()):=by
 refine z01 (fun n i (t:Int×(Nat->Bool))=>zp φ n x.washes (x.washes.length:Int) i t.1 t.2) x.washes.length
  (fun i t=>t.1 =(bif (List.range i).all (z2t x.washes) then s else 1)/\((List.range i).all (z2t x.washes)=true->∀ j:Nat,t.2 j =(x.washes.take i).any fun v=>keyW v==(j:Int)))
  (fun o=>o=some (bif z4g x.washes then s else 1,())) ?_ ?_ n (s,fun _=>false) ⟨by simp,by simp⟩ hn
 ·intro n i t hi ⟨h1,h2⟩ hs
  have hW:W ((i:Int)+1) =(i:Int)+1:=W_id (by omega) (by omega)
  rw [zp,if_pos (by simp; omega),z7 ⟨by omega,by omega⟩]
  simp only [z2p,Option.bind_some,z00,hW]
  have hok:zsk (gt x.washes i) =(bet (gt x.washes i).from_ 0 63&&bet (gt x.washes i).to 0 63&&((gt x.washes i).from_ !=(gt x.washes i).to)&&bet (gt x.washes i).minutes 0 100000):=rfl
  have hsucc:=z8c (z2t x.washes) i
  cases hw:zsk (gt x.washes i) with
  | false=>
   have hf :(List.range (i+1)).all (z2t x.washes)=false:=by rw [hsucc]; simp [z2t,hw]
   have h3:zp φ n x.washes (x.washes.length:Int) ((i:Int)+1) 1 t.2=some (bif z4g x.washes then s else 1,()):=hs (1,t.2) ⟨by rw [hf]; rfl,by rw [hf]; intro h; cases h⟩
   rw [hw] at hok
   rw [<- h3]
   generalize bet (gt x.washes i).from_ 0 63=a at *; generalize bet (gt x.washes i).to 0 63=b at *; generalize ((gt x.washes i).from_ !=(gt x.washes i).to)=c at *; generalize bet (gt x.washes i).minutes 0 100000=d at *
   cases a <;> cases b <;> cases c <;> cases d <;> first |(exact absurd hok (by decide)) | rfl
  | true=>
   rw [hw] at hok
   have hb:=hok.symm
   simp only [Bool.and_eq_true] at hb
   obtain⟨⟨⟨b1,b2⟩,b3⟩,b4⟩:=hb
   have c1:=zpw b1; have c2:=zpw b2
   simp only [b1,b2,b3,b4,Bool.and_self,if_true,Option.bind_some,Bool.not_true,Bool.false_eq_true,if_false]
   rw [z7 ⟨by omega,by omega⟩,z7 ⟨by omega,by omega⟩]
   have hkey :((gt x.washes i).from_.toNat*64 +(gt x.washes i).to.toNat:Nat) =(keyW (gt x.washes i)).toNat:=by unfold keyW; omega
   have hk0 :((keyW (gt x.washes i)).toNat:Int)=keyW (gt x.washes i):=by unfold keyW; omega
   have key:∀ e,(e=bif (List.range (i+1)).all (z2t x.washes) then s else 1)->
     zp φ n x.washes (x.washes.length:Int) ((i:Int)+1) e (upd t.2 (keyW (gt x.washes i)).toNat true)=some (bif z4g x.washes then s else 1,()):=by
    intro e he
    refine hs (e,_) ⟨he,fun hall j=>?_⟩
    rw [hsucc,Bool.and_eq_true] at hall
    rw [zcp _ _ _ hi,<- h2 hall.1 j]
    show (if j =(keyW (gt x.washes i)).toNat then true else t.2 j)=_
    by_cases hj:j =(keyW (gt x.washes i)).toNat
    ·simp [hj,hk0]
    ·have :(keyW (gt x.washes i)==(j:Int))=false:=by
      simp; intro h; exact hj (by omega)
     simp [hj,this]
   have e64:∀(p:Prop) [Decidable p] (y:Option (Int×Unit)),p->ck p y=y:=fun p _ y hp=>z7 hp
   rw [hkey]
   simp only [e64 _ _ (show (0:Int)<=(gt x.washes i).from_/\(gt x.washes i).from_<64 by omega),e64 _ _ (show (0:Int)<=(gt x.washes i).to/\(gt x.washes i).to<64 by omega)]
   cases hall :(List.range i).all (z2t x.washes) with
   | true=>
    have hat:z2t x.washes i = !(t.2 (keyW (gt x.washes i)).toNat):=by
     rw [h2 hall]; simp only [z2t,hw,Bool.true_and,hk0]
    cases ht2:t.2 (keyW (gt x.washes i)).toNat with
    | true=>
     simp only [Bool.not_true,Bool.not_false,if_true]
     refine key 1 ?_
     rw [hsucc,hat,ht2]; simp
    | false=>
     simp only [Bool.not_true,Bool.not_false,Bool.false_eq_true,if_false]
     refine key t.1 ?_
     rw [hsucc,hat,ht2,h1,hall]; simp
   | false=>
    have hf :(List.range (i+1)).all (z2t x.washes)=false:=by rw [hsucc,hall]; rfl
    have ht1:t.1=1:=by rw [h1,hall]; rfl
    rw [ht1]
    split <;> exact key 1 (by rw [hf]; rfl)
 ·intro n t ⟨h1,_⟩
  rw [zp,if_neg (by simp),h1]; rfl
theorem znf (φ:Nat) (hφ:5000<φ) (x:z93):zd7 φ x=some (z3t x,()):=by
 have e :(((decide (32 <(x.types.length:Int))||decide (4096 <(x.wagons.length:Int)))||decide (1024 <(x.swaps.length:Int)))||decide (4096 <(x.washes.length:Int))) =
   (decide (32<x.types.length)||decide (4096<x.wagons.length)||decide (1024<x.swaps.length)||decide (4096<x.washes.length)):=by
  congr 1
  ·congr 1
   ·congr 1 <;>(apply decide_eq_decide.2; omega)
   ·apply decide_eq_decide.2; omega
  ·apply decide_eq_decide.2; omega
 unfold zd7 z3t
 rw [e]
 cases h :(decide (32<x.types.length)||decide (4096<x.wagons.length)||decide (1024<x.swaps.length)||decide (4096<x.washes.length)) with
 | true=>rfl
 | false=>
  simp only [Bool.or_eq_false_iff,decide_eq_false_iff_not,Nat.not_lt] at h
  obtain⟨⟨⟨h1,h2⟩,h3⟩,h4⟩:=h
  rw [if_neg (by simp),ziv φ (by omega) x h1 _ _ (by omega),zhf _ _ h2 h1 _ _ (by omega),zic _ _ h3 h1 _ _ (by omega),zhv _ _ h4 _ _ (by omega)]
  cases x.types.all zfs <;> cases x.wagons.all (zbh x.types.length) <;> cases x.swaps.all (zgk x.types.length) <;> cases z4g x.washes <;> rfl
theorem z5x {x:z93} (h:z3t x=0):x.types.length<=32/\x.wagons.length<=4096/\x.swaps.length<=1024/\x.washes.length<=4096/\
  (∀ t∈x.types,zfs t=true)/\(∀ t∈x.wagons,zbh x.types.length t=true)/\(∀ t∈x.swaps,zgk x.types.length t=true)/\z4g x.washes=true:=by
 unfold z3t at h
 cases h1 :(decide (32<x.types.length)||decide (4096<x.wagons.length)||decide (1024<x.swaps.length)||decide (4096<x.washes.length)) with
 | true=>rw [h1] at h; cases h
 | false=>
  rw [h1] at h
  simp only [Bool.or_eq_false_iff,decide_eq_false_iff_not,Nat.not_lt] at h1
  obtain⟨⟨⟨a1,a2⟩,a3⟩,a4⟩:=h1
  cases h2 :(x.types.all zfs&&x.wagons.all (zbh x.types.length)&&x.swaps.all (zgk x.types.length)&&z4g x.washes) with
  | false=>rw [h2] at h; cases h
  | true=>
   simp only [Bool.and_eq_true,List.all_eq_true] at h2
   exact⟨a1,a2,a3,a4,h2.1.1.1,h2.1.1.2,h2.1.2,h2.2⟩
end Px
end
section
namespace Px
open Go
theorem z7w {c:Int} (h:0<=c) (h':c<18446744073709551616) :(BitVec.ofInt 64 c).toNat=c.toNat:=by
 rw [BitVec.toNat_ofInt]; omega
theorem yak {n:Nat} (h:n<18446744073709551616):U (n:Int)=n:=U_id (by omega) (by omega)
theorem y8i {a b:Nat} (h:a<18446744073709551616):a&&& b<18446744073709551616:=Nat.lt_of_le_of_lt Nat.and_le_left h
theorem y5y {k:Nat} (h:k<=63) :(2 ^ k:Nat)<18446744073709551616:=Nat.lt_of_lt_of_le (Nat.pow_lt_pow_right (by decide) (by omega:k<64)) (by decide)
theorem ydk {c k:Int} (h:0<=c) (hk:0<=k) (hk':k<=63):c.fdiv (2 ^ (min (k:Int).toNat (IntKind.bits .u64))) =((c.toNat / 2 ^ k.toNat:Nat):Int):=by
 have e:min (k:Int).toNat (IntKind.bits .u64)=k.toNat:=by simp [IntKind.bits]; omega
 rw [e]
 have e2 :((2:Int) ^ k.toNat) =((2 ^ k.toNat:Nat):Int):=by simp
 rw [e2,Int.fdiv_eq_ediv_of_nonneg _ (Int.natCast_nonneg _)]
 have:c =(c.toNat:Int):=by omega
 rw [this]; simp
end Px
end
section
namespace Px
open Go
set_option maxRecDepth 100000
theorem zys :((List.range 256).all fun i=>decide (0<=z8l zt i/\z8l zt i<=8/\i<2 ^ (z8l zt i).toNat/\(0<i->0<z8l zt i/\2 ^ ((z8l zt i).toNat-1)<=i)))=true:=by decide +kernel
theorem zmm {i:Int} (h:0<=i) (h':i<256):∃ n:Nat,z8l zt i=n/\n<=8/\i.toNat<2 ^ n/\(0<i->0<n/\2 ^ (n-1)<=i.toNat):=by
 have:=List.all_eq_true.1 zys i.toNat (by simp; omega)
 rw [decide_eq_true_eq,show ((i.toNat:Nat):Int)=i by omega] at this
 obtain⟨a,b,c,d⟩:=this
 exact⟨(z8l zt i).toNat,by omega,by omega,c,fun hi=>⟨by have:=(d (by omega)).1; omega,(d (by omega)).2⟩⟩
def z7d (v:Nat) (n:Nat):Prop:=v<2 ^ n/\(0<v->0<n/\2 ^ (n-1)<=v)
theorem z7d.up {v:Nat} (k:Nat) {n:Nat} (h:z7d (v / 2 ^ k) n) (hv:2 ^ k<=v):z7d v (n+k):=by
 have hp:=Nat.two_pow_pos k
 have hpos:0<v / 2 ^ k:=Nat.div_pos hv hp
 obtain⟨h1,h2⟩:=h
 obtain⟨h3,h4⟩:=h2 hpos
 refine⟨?_,fun _=>⟨by omega,?_⟩⟩
 ·rw [Nat.pow_add]; exact(Nat.div_lt_iff_lt_mul hp).1 h1
 ·have:n+k-1 =(n-1)+k:=by omega
  rw [this,Nat.pow_add]; exact(Nat.le_div_iff_mul_le hp).1 h4
theorem y07 (φ:Nat) (v w:Int) (h:0<=v) (h':v<256) (hw:0<=w) (hw':w<=64):∃ n:Nat,z19 φ v w=some (64 -(w+n),())/\n<=8/\z7d v.toNat n:=by
 obtain⟨n,e,hn,a,b⟩:=zmm h h'
 have e8:IntKind.wrap .u8 v=v:=by simp [IntKind.wrap,IntKind.bits,IntKind.signed]; omega
 refine⟨n,?_,hn,a,fun hv=>b (by omega)⟩
 unfold z19
 rw [e8,z7 ⟨h,h'⟩,e,W_id (x:=(n:Int)) (by omega) (by omega),W_id (x:=w+n) (by omega) (by omega),W_id (by omega) (by omega)]
theorem sh8 (v:Int):v.fdiv (2 ^ (min (8:Int).toNat 64))=v / 256:=by rw [show ((2:Int) ^ (min (8:Int).toNat 64))=256 by decide]; exact Int.fdiv_eq_ediv_of_nonneg _ (by omega)
theorem sh16 (v:Int):v.fdiv (2 ^ (min (16:Int).toNat 64))=v / 65536:=by rw [show ((2:Int) ^ (min (16:Int).toNat 64))=65536 by decide]; exact Int.fdiv_eq_ediv_of_nonneg _ (by omega)
theorem sh32 (v:Int):v.fdiv (2 ^ (min (32:Int).toNat 64))=v / 4294967296:=by rw [show ((2:Int) ^ (min (32:Int).toNat 64))=4294967296 by decide]; exact Int.fdiv_eq_ediv_of_nonneg _ (by omega)
theorem y8z (φ:Nat) (v w:Int) (h:0<=v) (h':v<65536) (hw:0<=w) (hw':w<=48):∃ n:Nat,z1h φ v w=some (64 -(w+n),())/\n<=16/\z7d v.toNat n:=by
 unfold z1h
 by_cases c:256<=v
 ·rw [if_pos (by simpa using c),if_pos (by decide),sh8,W_id (by omega) (by omega)]
  obtain⟨n,e,hn,hl⟩:=y07 φ (v / 256) (w+8) (by omega) (by omega) (by omega) (by omega)
  refine⟨n+8,by rw [e]; congr 2; omega,by omega,?_⟩
  refine z7d.up 8 ?_ (by omega)
  rwa [show v.toNat / 2 ^ 8 =(v / 256).toNat by omega]
 ·rw [if_neg (by simpa using c)]
  obtain⟨n,e,hn,hl⟩:=y07 φ v w h (by omega) (by omega) (by omega)
  exact⟨n,e,by omega,hl⟩
theorem y7w (φ:Nat) (v w:Int) (h:0<=v) (h':v<4294967296) (hw:0<=w) (hw':w<=32):∃ n:Nat,z1i φ v w=some (64 -(w+n),())/\n<=32/\z7d v.toNat n:=by
 unfold z1i
 by_cases c:65536<=v
 ·rw [if_pos (by simpa using c),if_pos (by decide),sh16,W_id (by omega) (by omega)]
  obtain⟨n,e,hn,hl⟩:=y8z φ (v / 65536) (w+16) (by omega) (by omega) (by omega) (by omega)
  refine⟨n+16,by rw [e]; congr 2; omega,by omega,?_⟩
  refine z7d.up 16 ?_ (by omega)
  rwa [show v.toNat / 2 ^ 16 =(v / 65536).toNat by omega]
 ·rw [if_neg (by simpa using c)]
  obtain⟨n,e,hn,hl⟩:=y8z φ v w h (by omega) (by omega) (by omega)
  exact⟨n,e,by omega,hl⟩
theorem ye5 (φ:Nat) (v:Int) (h:0<=v) (h':v<18446744073709551616):∃ n:Nat,z2o φ v=some (64 -(n:Int),())/\n<=64/\z7d v.toNat n:=by
 unfold z2o
 by_cases c:4294967296<=v
 ·rw [if_pos (by simpa using c),if_pos (by decide),sh32]
  obtain⟨n,e,hn,hl⟩:=y7w φ (v / 4294967296) 32 (by omega) (by omega) (by omega) (by omega)
  refine⟨n+32,by rw [e]; congr 2; omega,by omega,?_⟩
  refine z7d.up 32 ?_ (by omega)
  rwa [show v.toNat / 2 ^ 32 =(v / 4294967296).toNat by omega]
 ·rw [if_neg (by simpa using c)]
  obtain⟨n,e,hn,hl⟩:=y7w φ v 0 h (by omega) (by omega) (by omega)
  exact⟨n,by rw [e]; simp,by omega,hl⟩
theorem zmo {v:Int} (h:0<=v) (h':v<18446744073709551616):U ((BitVec.ofInt 64 v&&& BitVec.ofInt 64 4294967295).toNat)=v % 4294967296:=by
 show U ((BitVec.ofInt 64 v&&& BitVec.ofInt 64 4294967295).toNat:Int)=_
 rw [BitVec.toNat_and,z7w h h',z7w (by omega) (by omega),yak (y8i (by omega))]
 have :(4294967295:Int).toNat=2 ^ 32-1:=by decide
 rw [this,Nat.and_two_pow_sub_one_eq_mod]
 omega
theorem zlp {a b m n:Int} (ha:0<=a) (hb:0<=b) (h:a<=m) (h':b<=n):0<=a*b/\a*b<=m*n:=
 ⟨Int.mul_nonneg ha hb,Int.mul_le_mul h h' hb (by omega)⟩
theorem zwp (φ:Nat) (x y:Int) (hx:0<=x) (hx':x<18446744073709551616) (hy:0<=y) (hy':y<18446744073709551616) :
  z61 φ x y=some (x*y / 18446744073709551616,x*y % 18446744073709551616,()):=by
 unfold z61
 simp only [show (0:Int)<=32 by decide,if_true]
 rw [zmo hx hx',zmo hy hy']
 simp only [sh32]
 have ex:x=x / 4294967296*4294967296+x % 4294967296:=by omega
 have ey:y=y / 4294967296*4294967296+y % 4294967296:=by omega
 have a1:0<=x / 4294967296/\x / 4294967296<=4294967295:=by omega
 have a0:0<=x % 4294967296/\x % 4294967296<=4294967295:=by omega
 have b1:0<=y / 4294967296/\y / 4294967296<=4294967295:=by omega
 have b0:0<=y % 4294967296/\y % 4294967296<=4294967295:=by omega
 have hxy:x*y =(x / 4294967296) *(y / 4294967296)*18446744073709551616 +((x / 4294967296) *(y % 4294967296) +(x % 4294967296) *(y / 4294967296))*4294967296 +(x % 4294967296) *(y % 4294967296):=by
  conv=>lhs; rw [ex,ey]
  generalize x / 4294967296=a; generalize x % 4294967296=b; generalize y / 4294967296=c; generalize y % 4294967296=d
  rw [Int.add_mul,Int.mul_add,Int.mul_add,Int.add_mul]
  have e1:a*4294967296 *(c*4294967296)=a*c*18446744073709551616:=by
   rw [Int.mul_assoc,Int.mul_left_comm 4294967296 c,<- Int.mul_assoc]; rfl
  have e2:a*4294967296*d=a*d*4294967296:=by rw [Int.mul_right_comm]
  have e3:b *(c*4294967296)=b*c*4294967296:=by rw [Int.mul_assoc]
  rw [e1,e2,e3]; omega
 have p11:=zlp a1.1 b1.1 a1.2 b1.2
 have p10:=zlp a1.1 b0.1 a1.2 b0.2
 have p01:=zlp a0.1 b1.1 a0.2 b1.2
 have p00:=zlp a0.1 b0.1 a0.2 b0.2
 rw [zye (x*y),hxy]
 generalize (x / 4294967296) *(y / 4294967296)=p at *; generalize (x / 4294967296) *(y % 4294967296)=q at *
 generalize (x % 4294967296) *(y / 4294967296)=r at *; generalize (x % 4294967296) *(y % 4294967296)=s at *
 clear hxy ex ey a1 a0 b1 b0
 rw [U_id (x:=p) (by omega) (by omega),U_id (x:=q) (by omega) (by omega),U_id (x:=r) (by omega) (by omega),U_id (x:=s) (by omega) (by omega)]
 rw [U_id (x:=q+s / 4294967296) (by omega) (by omega),zmo (by omega) (by omega),
  U_id (x:=(q+s / 4294967296) % 4294967296+r) (by omega) (by omega),U_id (x:=p +(q+s / 4294967296) / 4294967296) (by omega) (by omega),U_id (by omega) (by omega)]
 refine congrArg some (Prod.ext ?_ rfl)
 show _=_
 omega
theorem ycb {yn1 yn0 u d q r:Int} (h1:2147483648<=yn1) (h1':yn1<4294967296) (h0:0<=yn0) (h0':yn0<4294967296) (hd:0<=d) (hd':d<4294967296) (hu:0<=u)
  (hu':u<yn1*4294967296+yn0) (hqr:q*yn1+r=u) (hr:0<=r) (hr':r<4294967296) (hq :(u*4294967296+d) /(yn1*4294967296+yn0)<=q) :
  0<=q/\q<=4294967297/\0<=(u*4294967296+d) /(yn1*4294967296+yn0)/\(u*4294967296+d) /(yn1*4294967296+yn0)<4294967296/\
  (4294967296<=q\/4294967296*r+d<q*yn0->(u*4294967296+d) /(yn1*4294967296+yn0)<=q-1)/\
  (¬(4294967296<=q\/4294967296*r+d<q*yn0)->q =(u*4294967296+d) /(yn1*4294967296+yn0))/\
  (4294967296<=q\/4294967296*r+d<q*yn0->4294967296<=r+yn1->q-1 =(u*4294967296+d) /(yn1*4294967296+yn0)):=by
 have hY:0<yn1*4294967296+yn0:=by omega
 have hQ0:0<=(u*4294967296+d) /(yn1*4294967296+yn0):=Int.ediv_nonneg (by omega) (by omega)
 have hQ1 :(u*4294967296+d) /(yn1*4294967296+yn0)<4294967296:=Int.ediv_lt_of_lt_mul hY (by omega)
 have hq0:0<=q:=by omega
 have key:q *(yn1*4294967296+yn0) =(u-r)*4294967296+q*yn0:=by
  rw [Int.mul_add,<- Int.mul_assoc,<- hqr]; omega
 have hq2:q<=4294967297:=by
  rcases Int.lt_or_le 4294967297 q with h | h
  ·have:4294967298*yn1<=q*yn1:=Int.mul_le_mul_of_nonneg_right (by omega) (by omega)
   omega
  ·exact h
 have lt_of:∀ {z:Int},(u*4294967296+d) /(yn1*4294967296+yn0)<z↔u*4294967296+d<z *(yn1*4294967296+yn0):=fun {z}=>Int.ediv_lt_iff_lt_mul hY
 refine⟨hq0,hq2,hQ0,hQ1,fun h=>?_,fun h=>?_,fun h hr2=>?_⟩
 ·have :(u*4294967296+d) /(yn1*4294967296+yn0)<q:=by
   rcases h with h | h
   ·omega
   ·rw [lt_of,key]; omega
  omega
 ·have:¬(u*4294967296+d) /(yn1*4294967296+yn0)<q:=by rw [lt_of,key]; omega
  omega
 ·have hq1 :(u*4294967296+d) /(yn1*4294967296+yn0)<q:=by
   rcases h with h | h
   ·omega
   ·rw [lt_of,key]; omega
  have h2:¬(u*4294967296+d) /(yn1*4294967296+yn0)<q-1:=by
   rw [lt_of]
   have e :(q-1) *(yn1*4294967296+yn0) =(u -(r+yn1))*4294967296 +(q-1)*yn0:=by
    have :(q-1)*yn1 +(r+yn1)=u:=by rw [Int.sub_mul]; omega
    rw [Int.mul_add,<- Int.mul_assoc,<- this]; omega
   have b:=(zlp (by omega:0<=q-1) h0 (by omega:q-1<=4294967296) (by omega:yn0<=4294967295)).2
   rw [e]; omega
  omega
theorem mulB {a b:Int} (h:0<=a) (h':a<4294967296) (g:0<=b) (g':b<4294967296):0<=a*b/\a*b<=18446744065119617025:=
 zlp h g (by omega:a<=4294967295) (by omega:b<=4294967295)
theorem zo2 {ρ:Type} (L:Nat->Int->Int->Option ρ) (k:Int->Option ρ) {yn1 yn0 u d:Int} (h1:2147483648<=yn1) (h1':yn1<4294967296) (h0:0<=yn0) (h0':yn0<4294967296) (hd:0<=d) (hd':d<4294967296) (hu:0<=u)
  (hu':u<yn1*4294967296+yn0)
  (step:∀ n q r,L (n+1) q r=if(decide (4294967296<=q)||decide (U (U (4294967296*r)+d)<U (q*yn0)))=true then(if decide (4294967296<=U (r+yn1))=true then k (U (q-1)) else L n (U (q-1)) (U (r+yn1))) else k q) :
  ∀(n:Nat) q r,q*yn1+r=u->0<=r->r<4294967296->(u*4294967296+d) /(yn1*4294967296+yn0)<=q->4294967296-r<=2147483648*n->L (n+1) q r=k ((u*4294967296+d) /(yn1*4294967296+yn0)):=by
 intro n
 induction n with
 | zero=>intro q r _ _ _ _ h; omega
 | succ n ih=>
  intro q r hqr hr hr' hq hn
  obtain⟨g0,g1,g2,g3,g4,g5,g6⟩:=ycb h1 h1' h0 h0' hd hd' hu hu' hqr hr hr' hq
  have hc :(decide (4294967296<=q)||decide (U (U (4294967296*r)+d)<U (q*yn0)))=true↔(4294967296<=q\/4294967296*r+d<q*yn0):=by
   rw [Bool.or_eq_true,decide_eq_true_eq,decide_eq_true_eq]
   by_cases hqB:4294967296<=q
   ·simp [hqB]
   ·have:=mulB g0 (by omega:q<4294967296) h0 h0'
    rw [U_id (x:=4294967296*r) (by omega) (by omega),U_id (by omega) (by omega),U_id (by omega) (by omega)]
  rw [step]
  by_cases c:4294967296<=q\/4294967296*r+d<q*yn0
  ·have a4:=g4 c
   rw [if_pos (hc.2 c),U_id (x:=r+yn1) (by omega) (by omega),U_id (x:=q-1) (by omega) (by omega)]
   by_cases e:4294967296<=r+yn1
   ·rw [if_pos (by simpa using e),g6 c e]
   ·rw [if_neg (by simpa using e)]
    exact ih _ _ (by rw [Int.sub_mul]; omega) (by omega) (by omega) a4 (by omega)
  ·rw [if_neg (fun h=>c (hc.1 h)),<- g5 c]
theorem zmf {yn1 yn0 u d:Int} (h1:2147483648<=yn1) (h1':yn1<4294967296) (h0:0<=yn0) (h0':yn0<4294967296) (hd:0<=d) (hd':d<4294967296) (hu:0<=u)
  (hu':u<yn1*4294967296+yn0):U (u.tdiv yn1)=u / yn1/\U (u-U (U (u.tdiv yn1)*yn1))=u % yn1/\u / yn1*yn1+u % yn1=u/\0<=u % yn1/\u % yn1<4294967296/\
  (u*4294967296+d) /(yn1*4294967296+yn0)<=u / yn1:=by
 have e1:u.tdiv yn1=u / yn1:=Int.tdiv_eq_ediv_of_nonneg hu
 have hdm:u / yn1*yn1+u % yn1=u:=by have:=Int.ediv_mul_add_emod u yn1; exact this
 have hm0:=Int.emod_nonneg u (by omega:yn1≠0)
 have hm1:=Int.emod_lt_of_pos u (by omega:0<yn1)
 have hq0:0<=u / yn1:=Int.ediv_nonneg hu (by omega)
 have hq1:u / yn1<=u:=Int.ediv_le_self _ hu
 have hqm:0<=u / yn1*yn1:=Int.mul_nonneg hq0 (by omega)
 rw [e1,U_id hq0 (by omega),U_id (x:=u / yn1*yn1) (by omega) (by omega),U_id (by omega) (by omega)]
 refine⟨rfl,by omega,hdm,hm0,by omega,?_⟩
 have hY:0<yn1*4294967296+yn0:=by omega
 have hQ0:0<=(u*4294967296+d) /(yn1*4294967296+yn0):=Int.ediv_nonneg (by omega) (by omega)
 have hQ:=Int.ediv_mul_le (u*4294967296+d) (b:=yn1*4294967296+yn0) (by omega)
 generalize (u*4294967296+d) /(yn1*4294967296+yn0)=z at *
 rw [Int.mul_add,<- Int.mul_assoc] at hQ
 have:=Int.mul_nonneg hQ0 h0
 exact(Int.le_ediv_iff_mul_le (by omega)).2 (by omega)
theorem y8a (a b c:Int):U (U (U a+b)-U c)=U (a+b-c):=by
 simp only [zye]; omega
theorem ycc {a b:Int} {s:Nat} (hs:s<=63) (ha:0<=a) (h:a*2 ^ s<18446744073709551616) (hb:0<=b) (hb':b<2 ^ s) :
  U ((BitVec.ofInt 64 (U (a*2 ^ s))||| BitVec.ofInt 64 b).toNat)=a*2 ^ s+b:=by
 have hp :(0:Int)<2 ^ s:=Int.pow_pos (by decide)
 have hn:=Int.mul_nonneg ha (Int.le_of_lt hp)
 have hp2 :(2:Int) ^ s =((2 ^ s:Nat):Int):=by simp
 have hlt :(2 ^ s:Nat)<18446744073709551616:=y5y hs
 rw [U_id hn (by omega)]
 show U ((BitVec.ofInt 64 (a*2 ^ s)||| BitVec.ofInt 64 b).toNat:Int)=_
 have hlt2:=(BitVec.ofInt 64 (a*2 ^ s)||| BitVec.ofInt 64 b).isLt
 rw [yak (by omega),BitVec.toNat_or,z7w hn h,z7w hb (by omega)]
 obtain⟨n,rfl⟩:=Int.eq_ofNat_of_zero_le ha
 obtain⟨m,rfl⟩:=Int.eq_ofNat_of_zero_le hb
 have e :((n:Int)*2 ^ s).toNat=2 ^ s*n:=by rw [hp2,<- Int.natCast_mul,Int.toNat_natCast,Nat.mul_comm]
 rw [e,Int.toNat_natCast,<- Nat.two_pow_add_eq_or_of_lt (by rw [hp2] at hb'; omega)]
 simp [Int.mul_comm]
theorem zio (φ:Nat) (v:Int) (h:0<v) (h':v<18446744073709551616):∃ s:Nat,z2o φ v=some ((s:Int),())/\s<=63/\
  9223372036854775808<=v*2 ^ s/\v*2 ^ s<18446744073709551616/\v<=2 ^ (64-s):=by
 obtain⟨n,e,hn,h1,h2⟩:=ye5 φ v (by omega) h'
 obtain⟨h3,h4⟩:=h2 (by omega)
 refine⟨64-n,?_,by omega,?_,?_,?_⟩
 ·rw [e]; congr 2; omega
 ·have:2 ^ (n-1)*2 ^ (64-n)<=v.toNat*2 ^ (64-n):=Nat.mul_le_mul_right _ h4
  rw [<- Nat.pow_add,show n-1 +(64-n)=63 by omega] at this
  have e2 :((v.toNat*2 ^ (64-n):Nat):Int)=v*2 ^ (64-n):=by
   rw [Int.natCast_mul,Int.natCast_pow]; congr 1; omega
  omega
 ·have:v.toNat*2 ^ (64-n)<2 ^ n*2 ^ (64-n):=Nat.mul_lt_mul_of_pos_right h1 (Nat.two_pow_pos _)
  rw [<- Nat.pow_add,show n +(64-n)=64 by omega] at this
  have e2 :((v.toNat*2 ^ (64-n):Nat):Int)=v*2 ^ (64-n):=by
   rw [Int.natCast_mul,Int.natCast_pow]; congr 1; omega
  omega
 ·rw [show 64 -(64-n)=n by omega]
  have e2 :((2 ^ n:Nat):Int) =(2:Int) ^ n:=by simp
  omega
theorem y5l (φ:Nat) (hφ:5<φ) (hi lo y:Int) (h0:0<=hi) (hy:hi<y) (hy':y<18446744073709551616) (hl:0<=lo) (hl':lo<18446744073709551616) :
  z63 φ hi lo y=some ((hi*18446744073709551616+lo) / y,(hi*18446744073709551616+lo) % y,()):=by
 unfold z63
 rw [if_neg (by simp; omega),if_neg (by simp; omega)]
 by_cases hz:hi=0
 ·subst hz
  rw [if_pos (by simp),z7 (by omega),z7 (by omega),Int.tdiv_eq_ediv_of_nonneg hl,Int.tmod_eq_emod_of_nonneg hl,U_id (Int.ediv_nonneg hl (by omega)) (by have:=Int.ediv_le_self y hl; omega)]
  simp
 rw [if_neg (by simpa using hz)]
 obtain⟨s,es,hs,hY1,hY2,hyP⟩:=zio φ y (by omega) hy'
 have em1:min (s:Int).toNat 64=s:=by omega
 have em2:min (64 -(s:Int)).toNat 64=64-s:=by omega
 have hp :(0:Int)<2 ^ s:=Int.pow_pos (by decide)
 have hP :(0:Int)<2 ^ (64-s):=Int.pow_pos (by decide)
 have hpP :(2:Int) ^ s*2 ^ (64-s)=18446744073709551616:=by rw [<- Int.pow_add,show s +(64-s)=64 by omega]; rfl
 have hhp:hi*2 ^ s<y*2 ^ s:=Int.mul_lt_mul_of_pos_right hy hp
 have hlP0:0<=lo / 2 ^ (64-s):=Int.ediv_nonneg hl (by omega)
 have hlP1:lo / 2 ^ (64-s)<2 ^ s:=Int.ediv_lt_of_lt_mul hP (by omega)
 have hh0:0<=hi*2 ^ s:=Int.mul_nonneg h0 (by omega)
 -- the low word
 have hlo10:U (lo*2 ^ s)=lo % 2 ^ (64-s)*2 ^ s:=by
  have e:lo=lo / 2 ^ (64-s)*2 ^ (64-s)+lo % 2 ^ (64-s):=(Int.ediv_mul_add_emod lo _).symm
  have e2:lo*2 ^ s=lo / 2 ^ (64-s)*18446744073709551616+lo % 2 ^ (64-s)*2 ^ s:=by
   conv=>lhs; rw [e]
   rw [Int.add_mul,Int.mul_assoc,Int.mul_comm (2 ^ (64-s)),hpP]
  have m0:=Int.emod_nonneg lo (by omega :(2:Int) ^ (64-s)≠0)
  have m1:=Int.emod_lt_of_pos lo hP
  have m2:lo % 2 ^ (64-s)*2 ^ s<2 ^ (64-s)*2 ^ s:=Int.mul_lt_mul_of_pos_right m1 hp
  have m3:=Int.mul_nonneg m0 (Int.le_of_lt hp)
  rw [Int.mul_comm (2 ^ (64-s))] at m2
  rw [e2,zye]; omega
 have hN :(hi*2 ^ s+lo / 2 ^ (64-s))*18446744073709551616+lo % 2 ^ (64-s)*2 ^ s =(hi*18446744073709551616+lo)*2 ^ s:=by
  have e:lo=lo / 2 ^ (64-s)*2 ^ (64-s)+lo % 2 ^ (64-s):=(Int.ediv_mul_add_emod lo _).symm
  have e2:lo*2 ^ s=lo / 2 ^ (64-s)*18446744073709551616+lo % 2 ^ (64-s)*2 ^ s:=by
   conv=>lhs; rw [e]
   rw [Int.add_mul,Int.mul_assoc,Int.mul_comm (2 ^ (64-s)),hpP]
  have e3 :(hi*18446744073709551616+lo)*2 ^ s=hi*2 ^ s*18446744073709551616+lo*2 ^ s:=by rw [Int.add_mul,Int.mul_right_comm]
  rw [e3,e2]; omega
 have hun0:0<=lo % 2 ^ (64-s)*2 ^ s:=Int.mul_nonneg (Int.emod_nonneg lo (by omega)) (by omega)
 have hun1:lo % 2 ^ (64-s)*2 ^ s<18446744073709551616:=by
  rw [<- hlo10,zye]; omega
 have hu':hi*2 ^ s+lo / 2 ^ (64-s)<y*2 ^ s:=by
  have :(hi+1)*2 ^ s<=y*2 ^ s:=Int.mul_le_mul_of_nonneg_right (by omega) (by omega)
  rw [Int.add_mul] at this; omega
 have hs1:U (s:Int)=s:=U_id (by omega) (by omega)
 have hs2:U (64 -(s:Int))=64 -(s:Int):=U_id (by omega) (by omega)
 have ef:lo.fdiv (2 ^ (64-s))=lo / 2 ^ (64-s):=Int.fdiv_eq_ediv_of_nonneg _ (by omega)
 have eor:=ycc hs h0 (by omega:hi*2 ^ s<18446744073709551616) hlP0 hlP1
 obtain⟨Y,hYd⟩:∃ Y,Y=y*2 ^ s:=⟨_,rfl⟩
 have eY:U (y*2 ^ s)=Y:=by rw [hYd]; exact U_id (by omega) (by omega)
 obtain⟨u,hud⟩:∃ u,u=hi*2 ^ s+lo / 2 ^ (64-s):=⟨_,rfl⟩
 obtain⟨w,hwd⟩:∃ w,w=lo % 2 ^ (64-s)*2 ^ s:=⟨_,rfl⟩
 rw [<- hwd] at hlo10 hN hun0 hun1
 rw [<- hud] at hN hu' eor
 rw [<- hYd] at hu' hY1 hY2 hhp
 have hu0:0<=u:=by omega
 have fY:Y.fdiv 4294967296=Y / 4294967296:=Int.fdiv_eq_ediv_of_nonneg _ (by omega)
 have fw:w.fdiv 4294967296=w / 4294967296:=Int.fdiv_eq_ediv_of_nonneg _ (by omega)
 have mY:=zmo (v:=Y) (by omega) (by omega)
 have mw:=zmo (v:=w) (by omega) (by omega)
 have b1:2147483648<=Y / 4294967296/\Y / 4294967296<4294967296/\0<=Y % 4294967296/\Y % 4294967296<4294967296:=by omega
 have b2:0<=w / 4294967296/\w / 4294967296<4294967296/\0<=w % 4294967296/\w % 4294967296<4294967296:=by omega
 have eYs:Y / 4294967296*4294967296+Y % 4294967296=Y:=by omega
 obtain⟨m,rfl⟩:∃ m,φ=m+3:=⟨φ-3,by omega⟩
 rw [es]
 simp only [Option.bind_some,hs1,hs2,em1,em2,sh32,eY,hlo10,mY,mw,ef,eor,show (0:Int)<=32 by decide,if_true]
 rw [z7 (by omega),z7 (by omega),z7 (by omega),z7 (by omega),z7 (by omega)]
 obtain⟨i1,i2,i3,i4,i5,i6⟩:=zmf (u:=u) (d:=w / 4294967296) b1.1 b1.2.1 b1.2.2.1 b1.2.2.2 b2.1 b2.2.1 hu0 (by omega)
 rw [i1] at i2 ⊢
 rw [i2]
 refine(zo2 (fun n q r=>z5n (m+3) n Y s (Y / 4294967296) (Y % 4294967296) u (w / 4294967296) (w % 4294967296) q r) (fun q=>z5l (m+3) Y s (Y / 4294967296) (Y % 4294967296) u (w / 4294967296) (w % 4294967296) q)
  b1.1 b1.2.1 b1.2.2.1 b1.2.2.2 b2.1 b2.2.1 hu0 (by omega) (fun n q r=>by rw [z5n]) (m+2) _ _ i3 i4 i5 i6 (by omega)).trans ?_
 rw [eYs]
 unfold z5l
 rw [z7 (by omega)]
 have hQ1:0<=(u*4294967296+w / 4294967296) / Y/\(u*4294967296+w / 4294967296) / Y<4294967296:=⟨Int.ediv_nonneg (by omega) (by omega),Int.ediv_lt_of_lt_mul (by omega) (by omega)⟩
 have hR1:=Int.ediv_mul_add_emod (u*4294967296+w / 4294967296) Y
 have hR1a:=Int.emod_nonneg (u*4294967296+w / 4294967296) (by omega:Y≠0)
 have hR1b:=Int.emod_lt_of_pos (u*4294967296+w / 4294967296) (by omega:0<Y)
 generalize (u*4294967296+w / 4294967296) / Y=q1 at *
 generalize (u*4294967296+w / 4294967296) % Y=r1 at *
 have eu21:U (U (U (u*4294967296)+w / 4294967296)-U (q1*Y))=r1:=by
  rw [y8a,show u*4294967296+w / 4294967296-q1*Y=r1 by omega]; exact U_id hR1a (by omega)
 rw [eu21]
 obtain⟨j1,j2,j3,j4,j5,j6⟩:=zmf (u:=r1) (d:=w % 4294967296) b1.1 b1.2.1 b1.2.2.1 b1.2.2.2 b2.2.2.1 b2.2.2.2 hR1a (by omega)
 rw [j1] at j2 ⊢
 rw [j2]
 refine(zo2 (fun n q r=>z5j (m+3) n Y s (Y / 4294967296) (Y % 4294967296) (w % 4294967296) q1 r r1 q) (fun q=>z5f (m+3) Y s (w % 4294967296) q1 r1 q)
  b1.1 b1.2.1 b1.2.2.1 b1.2.2.2 b2.2.2.1 b2.2.2.2 hR1a (by omega) (fun n q r=>by rw [z5j]) (m+2) _ _ j3 j4 j5 j6 (by omega)).trans ?_
 rw [eYs]
 unfold z5f
 rw [em1,z7 (by omega)]
 have hQ0:0<=(r1*4294967296+w % 4294967296) / Y/\(r1*4294967296+w % 4294967296) / Y<4294967296:=⟨Int.ediv_nonneg (by omega) (by omega),Int.ediv_lt_of_lt_mul (by omega) (by omega)⟩
 have hR0:=Int.ediv_mul_add_emod (r1*4294967296+w % 4294967296) Y
 have hR0a:=Int.emod_nonneg (r1*4294967296+w % 4294967296) (by omega:Y≠0)
 have hR0b:=Int.emod_lt_of_pos (r1*4294967296+w % 4294967296) (by omega:0<Y)
 generalize (r1*4294967296+w % 4294967296) / Y=q0 at *
 generalize (r1*4294967296+w % 4294967296) % Y=r0 at *
 rw [y8a,show r1*4294967296+w % 4294967296-q0*Y=r0 by omega,U_id (x:=r0) hR0a (by omega),U_id (x:=q1*4294967296) (by omega) (by omega),U_id (by omega) (by omega),Int.fdiv_eq_ediv_of_nonneg _ (by omega)]
 have hall :(hi*18446744073709551616+lo -(q1*4294967296+q0)*y)*2 ^ s=r0:=by
  rw [Int.sub_mul,<- hN,Int.mul_assoc,<- hYd,Int.add_mul,Int.mul_right_comm]; omega
 have hz0:0<=hi*18446744073709551616+lo -(q1*4294967296+q0)*y:=by
  rcases Int.lt_or_le (hi*18446744073709551616+lo -(q1*4294967296+q0)*y) 0 with h | h
  ·have:=Int.mul_neg_of_neg_of_pos h hp; omega
  ·exact h
 have hz1:hi*18446744073709551616+lo -(q1*4294967296+q0)*y<y:=by
  refine Int.lt_of_mul_lt_mul_right (a:=2 ^ s) ?_ (by omega)
  rw [hall,<- hYd]; exact hR0b
 have hr0:r0 / 2 ^ s=hi*18446744073709551616+lo -(q1*4294967296+q0)*y:=by
  rw [<- hall]; exact Int.mul_ediv_cancel _ (by omega)
 have hdm :(hi*18446744073709551616+lo) / y=q1*4294967296+q0/\(hi*18446744073709551616+lo) % y=hi*18446744073709551616+lo -(q1*4294967296+q0)*y:=
  (Int.ediv_emod_unique (by omega)).2 ⟨by rw [Int.mul_comm y]; omega,hz0,hz1⟩
 rw [hr0,hdm.1,hdm.2]
end Px
end
section
namespace Px
open Go
set_option maxRecDepth 100000
def PP:Nat:=2305843009213690799
def QQ:Nat:=1152921504606845399
def pw (b n:Nat):Nat:=b ^ n % PP
theorem zvh (b n:Nat):pw b n<PP:=Nat.mod_lt _ (by decide)
theorem zpd (b:Nat):pw b 0=1:=by simp [pw,PP]
theorem y3a (b m n:Nat):pw b m*pw b n % PP=pw b (m+n):=by
 unfold pw; rw [Nat.pow_add,<- Nat.mul_mod]
theorem y8j (b:Nat):pw b 1=b % PP:=by simp [pw]
theorem yd3 {a:Nat} (h:a<PP) :((a:Int)).tmod 2305843009213690799 =(a:Int):=by
 unfold PP at h
 rw [Int.tmod_eq_emod_of_nonneg (by omega)]; omega
theorem yc9 (b:Nat) :((b:Int)).tmod 2305843009213690799 =((b % PP:Nat):Int):=by
 rw [Int.tmod_eq_emod_of_nonneg (by omega)]; unfold PP; omega
theorem y1d {ρ:Type} {a b:Nat} (ha:a<PP) (hb:b<PP) (φ:Nat) (hφ:5<φ) (K:Int->Option ρ) :((z61 φ (a:Int) (b:Int)).bind fun y=>(z63 φ y.1 y.2.1 2305843009213690799).bind fun z=>K z.2.1)=K ((a*b % PP:Nat):Int):=by
 have ha' :(a:Int)<2305843009213690799:=by unfold PP at ha; omega
 have hb' :(b:Int)<2305843009213690799:=by unfold PP at hb; omega
 have hp:=zlp (by omega:0<=(a:Int)) (by omega:0<=(b:Int)) (by omega :(a:Int)<=2305843009213690798) (by omega :(b:Int)<=2305843009213690798)
 rw [zwp φ _ _ (by omega) (by omega) (by omega) (by omega),Option.bind_some]
 generalize hz :(a:Int) *(b:Int)=z at *
 show (z63 φ (z / 18446744073709551616) (z % 18446744073709551616) 2305843009213690799).bind _=_
 rw [y5l φ hφ _ _ _ (by omega) (by omega) (by omega) (by omega) (by omega),Option.bind_some]
 congr 1
 have:z / 18446744073709551616*18446744073709551616+z % 18446744073709551616=z:=by omega
 show (z / 18446744073709551616*18446744073709551616+z % 18446744073709551616) % 2305843009213690799=_
 rw [this,<- hz,Int.natCast_emod,Int.natCast_mul]; rfl
theorem z7d.uniq {v m n:Nat} (hv:0<v) (h:z7d v m) (k:z7d v n):m=n:=by
 obtain⟨h1,h2⟩:=h
 obtain⟨k1,k2⟩:=k
 obtain⟨h3,h4⟩:=h2 hv
 obtain⟨k3,k4⟩:=k2 hv
 have a:m-1<n:=(Nat.pow_lt_pow_iff_right (by decide:1<2)).1 (Nat.lt_of_le_of_lt h4 k1)
 have b:n-1<m:=(Nat.pow_lt_pow_iff_right (by decide:1<2)).1 (Nat.lt_of_le_of_lt k4 h1)
 omega
section first
variable (φ:Nat) (b n a p:Int)
theorem zzn (v w:Int) (h:0<=v) (h':v<256) (hw:0<=w) (hw':w<=64):∃ m:Nat,z8o φ v w b n a p=z0i φ φ b n a (w+m) 0 p/\m<=8/\z7d v.toNat m:=by
 obtain⟨m,e,hm,x,y⟩:=zmm h h'
 have e8:IntKind.wrap .u8 v=v:=by simp [IntKind.wrap,IntKind.bits,IntKind.signed]; omega
 refine⟨m,?_,hm,x,fun hv=>y (by omega)⟩
 unfold z8o
 rw [e8,z7 ⟨h,h'⟩,e,W_id (x:=(m:Int)) (by omega) (by omega),W_id (x:=w+m) (by omega) (by omega)]
theorem zzk (v w:Int) (h:0<=v) (h':v<65536) (hw:0<=w) (hw':w<=48):∃ m:Nat,z8m φ v w b n a p=z0i φ φ b n a (w+m) 0 p/\m<=16/\z7d v.toNat m:=by
 unfold z8m
 by_cases c:256<=v
 ·rw [if_pos (by simpa using c),if_pos (by decide),sh8,W_id (by omega) (by omega)]
  obtain⟨m,e,hn,hl⟩:=zzn φ b n a p (v / 256) (w+8) (by omega) (by omega) (by omega) (by omega)
  refine⟨m+8,by rw [e]; congr 1; omega,by omega,?_⟩
  refine z7d.up 8 ?_ (by omega)
  rwa [show v.toNat / 2 ^ 8 =(v / 256).toNat by omega]
 ·rw [if_neg (by simpa using c)]
  obtain⟨m,e,hn,hl⟩:=zzn φ b n a p v w h (by omega) (by omega) (by omega)
  exact⟨m,e,by omega,hl⟩
theorem y8y (v w:Int) (h:0<=v) (h':v<4294967296) (hw:0<=w) (hw':w<=32):∃ m:Nat,zaf φ v w b n a p=z0i φ φ b n a (w+m) 0 p/\m<=32/\z7d v.toNat m:=by
 unfold zaf
 by_cases c:65536<=v
 ·rw [if_pos (by simpa using c),if_pos (by decide),sh16,W_id (by omega) (by omega)]
  obtain⟨m,e,hn,hl⟩:=zzk φ b n a p (v / 65536) (w+16) (by omega) (by omega) (by omega) (by omega)
  refine⟨m+16,by rw [e]; congr 1; omega,by omega,?_⟩
  refine z7d.up 16 ?_ (by omega)
  rwa [show v.toNat / 2 ^ 16 =(v / 65536).toNat by omega]
 ·rw [if_neg (by simpa using c)]
  obtain⟨m,e,hn,hl⟩:=zzk φ b n a p v w h (by omega) (by omega) (by omega)
  exact⟨m,e,by omega,hl⟩
end first
def zih (φ:Nat) (k:Int->Int->Int->Int->Int->Int->Option (Int×Unit)) (L x57 x58 x59 x60 x61 x62 x63 x64:Int):Option (Int×Unit):=
 ck (0<=(W ((W (L-1))-x60))) (if(((U ((BitVec.ofInt 64 ((x63:Int).fdiv (2 ^ (min ((W ((W (L-1))-x60)):Int).toNat 64)))&&& BitVec.ofInt 64 1).toNat)):Int)==1)=true then(ck (x64≠0) (ck (x64≠0) ((z61 φ ((x59:Int).tmod x64) ((x57:Int).tmod x64)).bind fun y66=>((z63 φ y66.1 y66.2.1 x64).bind fun y67=>(k x57 x58 y67.2.1 x61 (W (x62+1)) x64))))) else(k x57 x58 x59 x61 (W (x62+1)) x64))
section second
variable (φ:Nat) (k:Int->Int->Int->Int->Int->Int->Option (Int×Unit)) (x57 x58 x59 x60 x61 x62 x63 x64:Int)
theorem y0a (v w:Int) (h:0<=v) (h':v<256) (hw:0<=w) (hw':w<=64):∃ m:Nat,z8g φ k v w x57 x58 x59 x60 x61 x62 x63 x64=zih φ k (w+m) x57 x58 x59 x60 x61 x62 x63 x64/\m<=8/\z7d v.toNat m:=by
 obtain⟨m,e,hm,x,y⟩:=zmm h h'
 have e8:IntKind.wrap .u8 v=v:=by simp [IntKind.wrap,IntKind.bits,IntKind.signed]; omega
 refine⟨m,?_,hm,x,fun hv=>y (by omega)⟩
 unfold z8g zih
 rw [e8,z7 ⟨h,h'⟩,e,W_id (x:=(m:Int)) (by omega) (by omega),W_id (x:=w+m) (by omega) (by omega)]
theorem y0k (v w:Int) (h:0<=v) (h':v<65536) (hw:0<=w) (hw':w<=48):∃ m:Nat,z8f φ k v w x57 x58 x59 x60 x61 x62 x63 x64=zih φ k (w+m) x57 x58 x59 x60 x61 x62 x63 x64/\m<=16/\z7d v.toNat m:=by
 unfold z8f
 by_cases c:256<=v
 ·rw [if_pos (by simpa using c),if_pos (by decide),sh8,W_id (by omega) (by omega)]
  obtain⟨m,e,hn,hl⟩:=y0a φ k x57 x58 x59 x60 x61 x62 x63 x64 (v / 256) (w+8) (by omega) (by omega) (by omega) (by omega)
  refine⟨m+8,by rw [e]; congr 1; omega,by omega,?_⟩
  refine z7d.up 8 ?_ (by omega)
  rwa [show v.toNat / 2 ^ 8 =(v / 256).toNat by omega]
 ·rw [if_neg (by simpa using c)]
  obtain⟨m,e,hn,hl⟩:=y0a φ k x57 x58 x59 x60 x61 x62 x63 x64 v w h (by omega) (by omega) (by omega)
  exact⟨m,e,by omega,hl⟩
theorem y1j (v w:Int) (h:0<=v) (h':v<4294967296) (hw:0<=w) (hw':w<=32):∃ m:Nat,z2u φ k v w x57 x58 x59 x60 x61 x62 x63 x64=zih φ k (w+m) x57 x58 x59 x60 x61 x62 x63 x64/\m<=32/\z7d v.toNat m:=by
 unfold z2u
 by_cases c:65536<=v
 ·rw [if_pos (by simpa using c),if_pos (by decide),sh16,W_id (by omega) (by omega)]
  obtain⟨m,e,hn,hl⟩:=y0k φ k x57 x58 x59 x60 x61 x62 x63 x64 (v / 65536) (w+16) (by omega) (by omega) (by omega) (by omega)
  refine⟨m+16,by rw [e]; congr 1; omega,by omega,?_⟩
  refine z7d.up 16 ?_ (by omega)
  rwa [show v.toNat / 2 ^ 16 =(v / 65536).toNat by omega]
 ·rw [if_neg (by simpa using c)]
  obtain⟨m,e,hn,hl⟩:=y0k φ k x57 x58 x59 x60 x61 x62 x63 x64 v w h (by omega) (by omega) (by omega)
  exact⟨m,e,by omega,hl⟩
theorem yc5 (v:Int) (h:0<=v) (h':v<18446744073709551616):∃ m:Nat,(if(decide ((4294967296:Int)<=v))=true then(if 0<=(32:Int) then(z2u φ k (((v:Int).fdiv (2 ^ (min (32:Int).toNat 64)))) 32 x57 x58 x59 x60 x61 x62 x63 x64) else none) else(z2u φ k v 0 x57 x58 x59 x60 x61 x62 x63 x64)) =
  zih φ k m x57 x58 x59 x60 x61 x62 x63 x64/\m<=64/\z7d v.toNat m:=by
 by_cases c:4294967296<=v
 ·rw [if_pos (by simpa using c),if_pos (by decide),sh32]
  obtain⟨m,e,hn,hl⟩:=y1j φ k x57 x58 x59 x60 x61 x62 x63 x64 (v / 4294967296) 32 (by omega) (by omega) (by omega) (by omega)
  refine⟨m+32,by rw [e]; congr 1; omega,by omega,?_⟩
  refine z7d.up 32 ?_ (by omega)
  rwa [show v.toNat / 2 ^ 32 =(v / 4294967296).toNat by omega]
 ·rw [if_neg (by simpa using c)]
  obtain⟨m,e,hn,hl⟩:=y1j φ k x57 x58 x59 x60 x61 x62 x63 x64 v 0 h (by omega) (by omega) (by omega)
  exact⟨m,by rw [e]; simp,by omega,hl⟩
end second
theorem zu9 (φ:Nat) (hφ:100<φ) (b n:Nat) (hn0:0<n) (hn:n<18446744073709551616):zgz φ (b:Int) (n:Int)=some (((pw b n:Nat):Int),()):=by
 have hstart:∃ L:Nat,zgz φ (b:Int) (n:Int)=z0i φ φ b n 1 L 0 2305843009213690799/\L<=64/\z7d n L:=by
  unfold zgz
  by_cases c :(4294967296:Int)<=n
  ·rw [if_pos (by simpa using c),if_pos (by decide),sh32]
   obtain⟨m,e,hm,hl⟩:=y8y φ b n 1 2305843009213690799 ((n:Int) / 4294967296) 32 (by omega) (by omega) (by omega) (by omega)
   refine⟨m+32,by rw [e]; congr 1; omega,by omega,?_⟩
   refine z7d.up 32 ?_ (by omega)
   rwa [show n / 2 ^ 32 =((n:Int) / 4294967296).toNat by omega]
  ·rw [if_neg (by simpa using c)]
   obtain⟨m,e,hm,hl⟩:=y8y φ b n 1 2305843009213690799 (n:Int) 0 (by omega) (by omega) (by omega) (by omega)
   exact⟨m,by rw [e]; simp,by omega,by rwa [Int.toNat_natCast] at hl⟩
 obtain⟨L,e0,hL,hlen⟩:=hstart
 rw [e0]
 obtain⟨h1,h2⟩:=hlen
 refine z01 (fun k i v=>z0i φ k (b:Int) (n:Int) v (L:Int) i 2305843009213690799) L (fun i v=>v =((pw b (n / 2 ^ (L-i)):Nat):Int)) (fun o=>o=some (((pw b n:Nat):Int),())) ?_ ?_ φ 1 ?_ (by omega)
 ·intro k i v hi hv hs
  rw [z0i,if_pos (by simp; omega),z7 (by decide),z7 (by decide)]
  subst hv
  rw [yd3 (zvh _ _)]
  refine(y1d (zvh _ _) (zvh _ _) φ (by omega) (fun z=>(if(decide ((4294967296:Int)<=(n:Int)))=true then(if 0<=(32:Int) then(z2u φ (z0i φ k) ((((n:Int):Int).fdiv (2 ^ (min (32:Int).toNat 64)))) 32 b n z i L i n 2305843009213690799) else none) else(z2u φ (z0i φ k) n 0 b n z i L i n 2305843009213690799)))).trans ?_
  rw [y3a]
  obtain⟨m,em,hm,hl⟩:=yc5 φ (z0i φ k) b n ((pw b (n / 2 ^ (L-i)+n / 2 ^ (L-i)):Nat):Int) i L i n 2305843009213690799 (n:Int) (by omega) (by omega)
  refine em.trans ?_
  rw [Int.toNat_natCast] at hl
  have:=z7d.uniq hn0 hl ⟨h1,h2⟩
  subst this
  unfold zih
  have hw1:W ((m:Int)-1) =(m:Int)-1:=W_id (by omega) (by omega)
  have hw2:W ((m:Int)-1 -(i:Int)) =((m-1-i:Nat):Int):=by rw [W_id (by omega) (by omega)]; omega
  rw [hw1,hw2,z7 (by omega)]
  have hsh:=ydk (c:=(n:Int)) (k:=((m-1-i:Nat):Int)) (by omega) (by omega) (by omega)
  have hone:U ((BitVec.ofInt 64 ((n:Int).fdiv (2 ^ (min (((m-1-i:Nat):Int)).toNat 64)))&&& BitVec.ofInt 64 1).toNat) =((n / 2 ^ (m-1-i) % 2:Nat):Int):=by
   rw [show ((n:Int).fdiv (2 ^ (min (((m-1-i:Nat):Int)).toNat 64)))=_ from hsh,Int.toNat_natCast,Int.toNat_natCast]
   have hd:n / 2 ^ (m-1-i)<=n:=Nat.div_le_self _ _
   rw [BitVec.toNat_and,z7w (Int.natCast_nonneg _) (by omega),z7w (by omega) (by omega),yak (y8i (by omega)),Int.toNat_natCast]
   show ((n / 2 ^ (m-1-i)&&& 1:Nat):Int)=_
   rw [Nat.and_one_is_mod]
  rw [hone]
  have hhalf:n / 2 ^ (m-i)=n / 2 ^ (m-1-i) / 2:=by
   rw [Nat.div_div_eq_div_mul,<- Nat.pow_succ]; congr 2; omega
  have hidx:m -(i+1)=m-1-i:=by omega
  have hW:W ((i:Int)+1) =(i:Int)+1:=W_id (by omega) (by omega)
  have hbit:=Nat.mod_two_eq_zero_or_one (n / 2 ^ (m-1-i))
  rcases hbit with hbit | hbit
  ·rw [hbit,if_neg (by simp),hW]
   refine hs _ ?_
   rw [hidx,hhalf]; congr 2; omega
  ·rw [hbit,if_pos (by simp),yd3 (zvh _ _),yc9,z7 (by decide),z7 (by decide),hW]
   refine(y1d (zvh _ _) (Nat.mod_lt b (by decide:0<PP)) φ (by omega) (fun z=>z0i φ k b n z m ((i:Int)+1) 2305843009213690799)).trans ?_
   refine hs _ ?_
   rw [<- y8j b,y3a,hidx,hhalf]; congr 2; omega
 ·intro k v hv
  rw [z0i,if_neg (by simp),hv]
  rw [Nat.sub_self,Nat.pow_zero,Nat.div_one]
 ·rw [Nat.sub_zero,Nat.div_eq_of_lt h1,zpd]; rfl
def zz0 (x:Int):Bool:=decide (2<=x)&&decide (x<2305843009213690799)&&(pw x.toNat QQ==1)
theorem zmq (a:Nat) :(((a:Nat):Int)==1) =(a==1):=by
 rw [Bool.eq_iff_iff,beq_iff_eq,beq_iff_eq]; omega
theorem zqk (φ:Nat) (hφ:100<φ) (x:Int):zf6 φ x=some (zz0 x,()):=by
 unfold zf6 zz0 z00
 cases h:decide (2<=x)&&decide (x<2305843009213690799) with
 | false=>rw [if_neg (by simp),Option.bind_some]; simp only [Bool.false_and]
 | true=>
  simp only [Bool.and_eq_true,decide_eq_true_eq] at h
  have:=zu9 φ hφ x.toNat QQ (by decide) (by decide)
  rw [show ((x.toNat:Nat):Int)=x by omega,show ((QQ:Nat):Int)=1152921504606845399 by decide] at this
  rw [if_pos rfl,this,Option.bind_some,Bool.true_and,Bool.true_and]
  show some ((((pw x.toNat QQ:Nat):Int)==1),())=_
  rw [zmq]
end Px
end
section
namespace Px
open Go
theorem gz_t {α:Type} {z:α} {p:Prop} [Decidable p] {x:Option α} (h:p):z00 z p x=x:=if_pos h
theorem gz_f {α:Type} {z:α} {p:Prop} [Decidable p] {x:Option α} (h:¬ p):z00 z p x=some z:=if_neg h
def z6a (p:z67):Bool:=bet p.kind 1 5&&bet p.railway 0 15&&(bif p.kind==3 then bet p.other 0 15&&(p.other !=p.railway) else p.other==(-1))
def z96 (n:Int) (e:Edge):Bool:=bet e.a 0 (n-1)&&bet e.b 0 (n-1)&&(e.a !=e.b)&&bet e.railway 0 15&&bet e.minutes 1 100000&&bet e.km 0 10000
def z65 (x:z8):Int:=bif decide (512<x.places.length)||decide (2048<x.edges.length) then 2 else bif x.places.all z6a&&x.edges.all (z96 x.places.length) then 0 else 1
theorem zjz (φ:Nat) (p:z67):z9l φ p=some (z6a p,()):=by
 have hb :(((decide (p.kind<1)||decide (5<p.kind))||decide (p.railway<0))||decide (16<=p.railway)) = !(bet p.kind 1 5&&bet p.railway 0 15):=by
  rw [Bool.eq_iff_iff]; simp [bet]; omega
 unfold z9l z6a
 rw [hb]
 cases bet p.kind 1 5&&bet p.railway 0 15 with
 | false=>rfl
 | true=>
  rw [if_neg (by simp)]
  by_cases h:p.kind=3
  ·have :(decide (0<=p.other)&&decide (p.other<16))=bet p.other 0 15:=by rw [Bool.eq_iff_iff]; simp [bet]; omega
   rw [if_neg (by simp [h]),this]; simp [h]
  ·have h2 :(p.kind==3)=false:=by simpa using h
   rw [if_pos (by simp [h]),h2]; rfl
theorem y01 (n:Int) (e:Edge) :((((((decide ((min2 (min2 (min2 (e.a) (e.b)) (e.railway)) (e.km))<0)||decide (n<=(max2 (e.a) (e.b))))||(e.a==e.b))||decide (16<=e.railway))||decide (e.minutes<1))||decide (100000<e.minutes))||decide (10000<e.km)) = !z96 n e:=by
 have hm:∀ x y z:Int,z<=max2 x y↔z<=x\/z<=y:=by intro x y z; unfold max2; split <;> omega
 have hok:z96 n e=true↔((((((0<=e.a/\e.a<=n-1)/\0<=e.b/\e.b<=n-1)/\¬ e.a=e.b)/\0<=e.railway/\e.railway<=15)/\1<=e.minutes/\e.minutes<=100000)/\0<=e.km/\e.km<=10000):=by
  simp only [z96,Bool.and_eq_true,z7l,bne_iff_ne,ne_eq]
 rw [Bool.eq_iff_iff,Bool.not_eq_true',<- Bool.not_eq_true,hok]
 simp only [Bool.or_eq_true,decide_eq_true_eq,y3c,hm,beq_iff_eq]
 omega
theorem zx0 (x:z8) :(decide (512 <(x.places.length:Int))||decide (2048 <(x.edges.length:Int))) =(decide (512<x.places.length)||decide (2048<x.edges.length)):=by
 congr 1 <;>(apply decide_eq_decide.2; omega)
theorem z8z (φ:Nat) (hφ:5000<φ) (x:z8):z3z φ x=some (z65 x,()):=by
 unfold z3z z65
 rw [zx0]
 cases h:decide (512<x.places.length)||decide (2048<x.edges.length) with
 | true=>rfl
 | false=>
  simp only [Bool.or_eq_false_iff,decide_eq_false_iff_not,Nat.not_lt] at h
  rw [if_neg (by simp),z3o (fun n i=>z2r φ n (x.places.length:Int) x.places (x.places.length:Int) i x) (z1k φ φ (x.places.length:Int) x.edges (x.edges.length:Int) 0) (some (1,())) x.places (fun t=>!z6a t) ?_ ?_ φ (by omega)]
  ·rw [z3o (fun n i=>z1k φ n (x.places.length:Int) x.edges (x.edges.length:Int) i) (some (0,())) (some (1,())) x.edges (fun t=>!z96 x.places.length t) ?_ ?_ φ (by omega)]
   ·simp only [List.any_eq_not_all_not,Bool.not_not]
    cases x.places.all z6a <;> cases x.edges.all (z96 x.places.length) <;> rfl
   ·intro n i hi
    rw [z1k,if_pos (by simp; omega),z7 ⟨by omega,by omega⟩,y01,W_id (by omega) (by omega)]
    cases z96 x.places.length (gt x.edges i) <;> rfl
   ·intro n; rw [z1k,if_neg (by simp)]
  ·intro n i hi
   rw [z2r,if_pos (by simp; omega),z7 ⟨by omega,by omega⟩,zjz,Option.bind_some,W_id (by omega) (by omega)]
   cases z6a (gt x.places i) <;> rfl
  ·intro n; rw [z2r,if_neg (by simp)]
theorem zev {x:z8} (h:z65 x=0):x.places.length<=512/\x.edges.length<=2048/\(∀ p∈x.places,z6a p=true)/\∀ e∈x.edges,z96 x.places.length e=true:=by
 unfold z65 at h
 cases h1:decide (512<x.places.length)||decide (2048<x.edges.length) with
 | true=>rw [h1] at h; cases h
 | false=>
  rw [h1] at h
  cases h2:x.places.all z6a&&x.edges.all (z96 x.places.length) with
  | false=>rw [h2] at h; cases h
  | true=>
   simp only [Bool.or_eq_false_iff,decide_eq_false_iff_not,Nat.not_lt] at h1
   simp only [Bool.and_eq_true,List.all_eq_true] at h2
   exact⟨h1.1,h1.2,h2⟩
def zs8:Int->List Int->Bool
 | _,[]=>true
 | p,h::t=>decide (p<h)&&decide (h<=745654)&&zs8 h t
def zhe (s:Span):Bool:=decide (0<=s.from_)&&decide (s.from_<=s.to)&&decide (s.to<=1440)
def zj1 (c:z3n):Bool:=((List.range 7).all fun i=>zhe (c.open_ i))&&zs8 (-1) c.holidays
theorem ybo (φ:Nat) (c:z3n):∀(n i:Nat) (p:Int),-1<=p->(i:Int)<=p+1->p<=745654->i<=c.holidays.length->745656<=(n:Int)+p->z1x φ n p c.holidays (c.holidays.length:Int) i=some (bif zs8 p (c.holidays.drop i) then 0 else 1,()):=by
 intro n
 induction n with
 | zero=>intro i p _ _ _ _ _; omega
 | succ n ih=>
  intro i p hp hip hp2 hi hn
  by_cases h:i=c.holidays.length
  ·rw [h,z1x,if_neg (by simp),List.drop_length]; rfl
  ·rw [z1x,if_pos (by simp; omega),z7 ⟨by omega,by omega⟩,zuh _ _ (by omega)]
   by_cases hb:gt c.holidays i<=p\/745654<gt c.holidays i
   ·have :(decide (p<gt c.holidays i)&&decide (gt c.holidays i<=745654))=false:=by simp; omega
    rw [if_pos (by simpa using hb)]
    simp [zs8,this]
   ·have h2 :(decide (p<gt c.holidays i)&&decide (gt c.holidays i<=745654))=true:=by simp; omega
    rw [if_neg (by simpa using hb),W_id (by omega) (by omega)]
    have:=ih (i+1) (gt c.holidays i) (by omega) (by omega) (by omega) (by omega) (by omega)
    rw [show ((i+1:Nat):Int) =(i:Int)+1 by omega] at this
    rw [this]
    simp [zs8,h2]
theorem zi1 (s:Span) :((decide (s.from_<0)||decide (s.to<s.from_))||decide (1440<s.to)) = !zhe s:=by
 rw [Bool.eq_iff_iff]; simp [zhe]
 try omega
theorem zj8 (φ:Nat) (hφ:800000<φ) (c:z3n):z86 φ c=some (bif zj1 c then 0 else 1,()):=by
 unfold z86
 refine z01 (fun n i (_:Unit)=>z2f φ n c.open_ i c) 7 (fun i _=>((List.range i).all fun j=>zhe (c.open_ j))=true) (fun o=>o=some (bif zj1 c then 0 else 1,())) ?_ ?_ φ () (by simp) (by omega)
 ·intro n i _ hi h hs
  rw [z2f,if_pos (by simp; omega),z7 ⟨by omega,by omega⟩,Int.toNat_natCast,zi1,W_id (by omega) (by omega)]
  cases ho:zhe (c.open_ i) with
  | true=>
   rw [if_neg (by simp)]
   exact hs () (by rw [z8c,h,ho]; rfl)
  | false=>
   have:zj1 c=false:=by
    unfold zj1
    have :((List.range 7).all fun j=>zhe (c.open_ j))=false:=by
     rw [List.all_eq_false]; exact⟨i,by simp; omega,by simp [ho]⟩
    rw [this]; rfl
   rw [if_pos (by simp),this]; rfl
 ·intro n _ h
  rw [z2f,if_neg (by simp)]
  unfold zj1
  rw [h,Bool.true_and]
  have:=ybo φ c φ 0 (-1) (by omega) (by omega) (by omega) (by omega) (by omega)
  simpa using this
theorem zig {α ρ:Type} [Inhabited α] (L:Nat->Bool->Int->Option ρ) (k:Bool->Option ρ) (l:List α) (p:α->Bool)
  (step:∀(n i:Nat) (s:Bool),i<l.length->L (n+1) s i=L n (s||p (gt l i)) ((i:Int)+1)) (done:∀ n s,L (n+1) s l.length=k s) (n:Nat) (s:Bool) (hn:l.length<n):L n s 0=k (s||l.any p):=by
 refine z01 (fun n i t=>L n t i) l.length (fun i t=>t =(s||(l.take i).any p)) (fun o=>o=k (s||l.any p)) ?_ ?_ n s (by simp) hn
 ·intro n i t hi ht hs
  rw [step n i t hi]
  exact hs _ (by rw [zcp _ _ _ hi,ht,Bool.or_assoc])
 ·intro n t ht
  rw [List.take_length] at ht
  rw [done,ht]
def z5g (n:Int) (r:z1u):Bool:=(((!bet r.place 0 (n-1))||decide (r.low <(-1000)))||decide (r.high<r.low))||decide (1000<r.high)
def z5a (x:z8) (s:zcr):Bool:=(!bet s.place 0 ((x.places.length:Int)-1))||((gt x.places s.place).kind !=4)
def zgb (r:z3w):Bool:=!zj1 r.calendar||!zz0 r.key
def zgf (x:Pool):Bool:=
 ((((((x.railways.length:Int)==0)||x.readers.any (z5g x.network.places.length))||x.shippers.any (z5a x.network))||x.fleet.wagons.any (fun w=>decide ((x.network.places.length:Int)<=w.home)))||
 x.network.places.any (fun p=>decide ((x.railways.length:Int)<=p.railway)||decide ((x.railways.length:Int)<=p.other)))||x.network.edges.any (fun e=>decide ((x.railways.length:Int)<=e.railway))||x.railways.any zgb
def zcg (x:Pool):Bool:=(decide (256 <(x.readers.length:Int))||decide (256 <(x.shippers.length:Int)))||decide (16 <(x.railways.length:Int))
def z0g (x:Pool):Int:=if z65 x.network≠0 then z65 x.network else if z3t x.fleet≠0 then z3t x.fleet else bif zcg x then 2 else bif zgf x then 1 else 0
theorem zaz (φ:Nat) (hφ:800000<φ) (x:Pool):z2l φ x=some (z0g x,()):=by
 unfold z2l z0g
 rw [z8z _ (by omega),Option.bind_some]
 by_cases hn:z65 x.network=0
 case neg=>rw [if_pos (by simp [hn]),if_pos hn]
 rw [if_neg (by simp [hn]),if_neg (fun e:z65 x.network≠0=>e hn),znf _ (by omega),Option.bind_some]
 by_cases hf:z3t x.fleet=0
 case neg=>rw [if_pos (by simp [hf]),if_pos hf]
 rw [if_neg (by simp [hf]),if_neg (fun e:z3t x.fleet≠0=>e hf)]
 cases hb:zcg x with
 | true=>
  have e :(((decide (256 <(x.readers.length:Int))||decide (256 <(x.shippers.length:Int)))||decide (16 <(x.railways.length:Int))))=zcg x:=rfl
  rw [e,hb]; rfl
 | false=>
  have hb':¬(((decide (256 <(x.readers.length:Int))||decide (256 <(x.shippers.length:Int)))||decide (16 <(x.railways.length:Int)))=true):=by
   rw [show (((decide (256 <(x.readers.length:Int))||decide (256 <(x.shippers.length:Int)))||decide (16 <(x.railways.length:Int))))=zcg x from rfl,hb]; simp
  rw [if_neg hb']
  simp only [Bool.or_eq_true,decide_eq_true_eq,not_or] at hb'
  obtain⟨n1,n2,_,_⟩:=zev hn
  obtain⟨f1,f2,_⟩:=z5x hf
  have hp:W ((x.network.places.length:Int)-1) =(x.network.places.length:Int)-1:=W_id (by omega) (by omega)
  have a1:=zig (fun n s i=>z1j φ n x.network.places (x.railways.length:Int) s x.readers (x.readers.length:Int) i x) (fun s=>z10 φ φ x.network.places (x.railways.length:Int) s x.shippers (x.shippers.length:Int) 0 x) x.readers (z5g x.network.places.length) (fun n i s hi=>by
   rw [z1j,if_pos (by simp; omega),z7 ⟨by omega,by omega⟩,hp,W_id (by omega) (by omega)]
   unfold z5g
   cases s with
   | true=>rw [gz_f (by simp)]; rfl
   | false=>rw [gz_t rfl]; rfl) (fun n s=>by rw [z1j,if_neg (by simp)]) φ ((x.railways.length:Int)==0) (by omega)
  refine a1.trans ?_
  have a2:=fun s0=>zig (fun n s i=>z10 φ n x.network.places (x.railways.length:Int) s x.shippers (x.shippers.length:Int) i x) (fun s=>z11 φ φ x.network.places (x.railways.length:Int) s x.fleet.wagons (x.fleet.wagons.length:Int) 0 x) x.shippers (z5a x.network) (fun n i s hi=>by
   rw [z10,if_pos (by simp; omega),z7 ⟨by omega,by omega⟩,hp,W_id (by omega) (by omega)]
   unfold z5a
   cases s with
   | true=>rw [gz_f (by simp),Option.bind_some,z7 (by simp)]; rfl
   | false=>
    rw [gz_t rfl,z2p,Option.bind_some]
    cases hbt:bet (gt x.shippers i).place 0 ((x.network.places.length:Int)-1) with
    | true=>rw [z7 (fun _=>by have:=zpw hbt; omega)]; rfl
    | false=>rw [z7 (by simp)]; rfl) (fun n s=>by rw [z10,if_neg (by simp)]) φ s0 (by omega)
  refine(a2 _).trans ?_
  have a3:=fun s0=>zig (fun n s i=>z11 φ n x.network.places (x.railways.length:Int) s x.fleet.wagons (x.fleet.wagons.length:Int) i x) (fun s=>z0x φ φ (x.railways.length:Int) s x.network.places (x.network.places.length:Int) 0 x) x.fleet.wagons (fun w=>decide ((x.network.places.length:Int)<=w.home)) (fun n i s hi=>by
   rw [z11,if_pos (by simp; omega),z7 ⟨by omega,by omega⟩,W_id (by omega) (by omega)]) (fun n s=>by rw [z11,if_neg (by simp)]) φ s0 (by omega)
  refine(a3 _).trans ?_
  have a4:=fun s0=>zig (fun n s i=>z0x φ n (x.railways.length:Int) s x.network.places (x.network.places.length:Int) i x) (fun s=>z0z φ φ (x.railways.length:Int) s x.network.edges (x.network.edges.length:Int) 0 x) x.network.places (fun p=>decide ((x.railways.length:Int)<=p.railway)||decide ((x.railways.length:Int)<=p.other)) (fun n i s hi=>by
   rw [z0x,if_pos (by simp; omega),z7 ⟨by omega,by omega⟩,W_id (by omega) (by omega),Bool.or_assoc]) (fun n s=>by rw [z0x,if_neg (by simp)]) φ s0 (by omega)
  refine(a4 _).trans ?_
  have a5:=fun s0=>zig (fun n s i=>z0z φ n (x.railways.length:Int) s x.network.edges (x.network.edges.length:Int) i x) (fun s=>z0y φ φ s x.railways (x.railways.length:Int) 0) x.network.edges (fun e=>decide ((x.railways.length:Int)<=e.railway)) (fun n i s hi=>by
   rw [z0z,if_pos (by simp; omega),z7 ⟨by omega,by omega⟩,W_id (by omega) (by omega)]) (fun n s=>by rw [z0z,if_neg (by simp)]) φ s0 (by omega)
  refine(a5 _).trans ?_
  have a6:=fun s0=>zig (fun n s i=>z0y φ n s x.railways (x.railways.length:Int) i) (fun s=>if s=true then some (1,()) else some (0,())) x.railways zgb (fun n i s hi=>by
   rw [z0y,if_pos (by simp; omega),z7 ⟨by omega,by omega⟩,W_id (by omega) (by omega)]
   unfold zgb
   cases s with
   | true=>rw [gz_f (by simp),Option.bind_some,gz_f (by simp)]; rfl
   | false=>
    rw [gz_t rfl,zj8 _ hφ,Option.bind_some]
    cases zj1 (gt x.railways i).calendar with
    | false=>rw [gz_f (by simp)]; rfl
    | true=>rw [gz_t (by simp),zqk _ (by omega)]; rfl) (fun n s=>by rw [z0y,if_neg (by simp)]) φ s0 (by omega)
  refine(a6 _).trans ?_
  show (if zgf x=true then some ((1:Int),()) else some (0,()))=_
  cases zgf x <;> rfl
theorem z3g {p:Pool} (h:z0g p=0):z65 p.network=0/\z3t p.fleet=0/\p.readers.length<=256/\p.shippers.length<=256/\p.railways.length<=16/\zgf p=false:=by
 unfold z0g at h
 by_cases hn:z65 p.network=0
 case neg=>rw [if_pos hn] at h; exact absurd h hn
 rw [if_neg (fun e:z65 p.network≠0=>e hn)] at h
 by_cases hf:z3t p.fleet=0
 case neg=>rw [if_pos hf] at h; exact absurd h hf
 rw [if_neg (fun e:z3t p.fleet≠0=>e hf)] at h
 cases hb:zcg p with
 | true=>rw [hb] at h; cases h
 | false=>
  rw [hb] at h
  cases hd:zgf p with
  | true=>rw [hd] at h; cases h
  | false=>
   simp only [zcg,Bool.or_eq_false_iff,decide_eq_false_iff_not] at hb
   exact⟨hn,hf,by omega,by omega,by omega,rfl⟩
theorem zf4 {p:Pool} (h:z0g p=0) :(∀ r∈p.readers,0<=r.place/\r.place <(p.network.places.length:Int)/\-1000<=r.low/\r.low<=r.high/\r.high<=1000)/\
  (∀ w∈p.fleet.wagons,0<=w.home/\w.home <(p.network.places.length:Int))/\(∀ e∈p.network.edges,e.railway <(p.railways.length:Int))/\0<p.railways.length:=by
 obtain⟨hn,hf,h1,h2,h3,hb⟩:=z3g h
 simp only [zgf,Bool.or_eq_false_iff] at hb
 obtain⟨⟨⟨⟨⟨⟨b0,b1⟩,b2⟩,b3⟩,b4⟩,b5⟩,b6⟩:=hb
 obtain⟨_,_,_,_,_,hw,_,_⟩:=z5x hf
 refine⟨fun r hr=>?_,fun w hw'=>?_,fun e he=>?_,?_⟩
 ·have:=List.any_eq_false.1 b1 r hr
  simp only [z5g,Bool.not_eq_true,Bool.or_eq_false_iff,Bool.not_eq_false',decide_eq_false_iff_not] at this
  obtain⟨⟨⟨c1,c2⟩,c3⟩,c4⟩:=this
  have:=zpw c1
  omega
 ·have:=List.any_eq_false.1 b3 w hw'
  have h3:=hw w hw'
  simp only [zbh,Bool.and_eq_true] at h3
  have:=zpw h3.1.1.2
  simp at *
  omega
 ·have:=List.any_eq_false.1 b5 e he
  simp at this; omega
 ·simp at b0
  exact List.length_pos_iff.2 b0
end Px
end
section
namespace Px
open Go
theorem y8o {n b:Nat} (h:n<=100000) (hb:b<=1000):fits n b:=by
 unfold fits
 have:n*b<=100000*1000:=Nat.mul_le_mul h hb
 omega
abbrev Ln:=List ((Nat->Int)×Int)
abbrev keyP (a b:Int):Nat->Int:=upd (upd (fun _=>(default:Int)) 0 a) 1 b
abbrev lget (m:Ln) (a b:Int):Option Int:=@mget _ _ ⟨beqA 2⟩ m (keyP a b)
abbrev lset (m:Ln) (a b i:Int):Ln:=@mset _ _ ⟨beqA 2⟩ m (keyP a b) i
theorem y5p (f g:Nat->Int):beqA 2 f g =(f 0==g 0&&f 1==g 1):=by
 simp [beqA,List.range_succ]
theorem y9v (a b:Int):keyP a b 0=a:=rfl
theorem y9f (a b:Int):keyP a b 1=b:=rfl
theorem zlc (m:Ln) (a b i c d:Int):lget (lset m a b i) c d=if c=a/\d=b then some i else lget m c d:=by
 induction m with
 | nil=>
  show (bif beqA 2 (keyP c d) (keyP a b) then some i else none)=_
  rw [y5p]
  simp only [y9v,y9f]
  by_cases h:c=a/\d=b
  ·rw [if_pos h]; simp [h]
  ·rw [if_neg h]
   have :(c==a&&d==b)=false:=by rw [<- Bool.not_eq_true]; simpa using h
   rw [this]; rfl
 | cons p m ih=>
  obtain⟨k,v⟩:=p
  show lget (bif beqA 2 (keyP a b) k then(keyP a b,i)::m else(k,v)::lset m a b i) c d=_
  have e1:lget ((k,v)::m) c d=bif beqA 2 (keyP c d) k then some v else lget m c d:=rfl
  cases h1:beqA 2 (keyP a b) k with
  | true=>
   rw [y5p] at h1
   simp only [y9v,y9f,Bool.and_eq_true,beq_iff_eq] at h1
   show (bif beqA 2 (keyP c d) (keyP a b) then some i else lget m c d)=_
   rw [e1,y5p,y5p]
   simp only [y9v,y9f]
   by_cases h:c=a/\d=b
   ·rw [if_pos h]; simp [h]
   ·rw [if_neg h]
    have h2 :(c==a&&d==b)=false:=by rw [<- Bool.not_eq_true]; simpa using h
    have h3 :(c==k 0&&d==k 1)=false:=by rw [<- h1.1,<- h1.2]; exact h2
    rw [h2,h3]; rfl
  | false=>
   show (bif beqA 2 (keyP c d) k then some v else lget (lset m a b i) c d)=_
   rw [ih,e1]
   cases h2:beqA 2 (keyP c d) k with
   | false=>rfl
   | true=>
    by_cases h:c=a/\d=b
    ·obtain⟨rfl,rfl⟩:=h
     rw [h1] at h2; cases h2
    ·show some v=_
     rw [if_neg h]; rfl
theorem y5c {b:Bool} (h:¬(!b)=true):b=true:=by cases b <;> simp_all
def ent1 (es:List Edge) (i a b:Int) (s:List (List Int)×Ln):List (List Int)×Ln:=
 (if(!(lget s.2 a b).isSome)=true then zi s.1 a (gt s.1 a++[b]) else s.1,
  if(!(lget s.2 a b).isSome||decide ((gt es i).minutes <(gt es ((lget s.2 a b).getD default)).minutes))=true then lset s.2 a b i else s.2)
def entE (es:List Edge) (i:Int) (s:List (List Int)×Ln):List (List Int)×Ln:=ent1 es i (gt es i).b (gt es i).a (ent1 es i (gt es i).a (gt es i).b s)
structure GI (es:List Edge) (P k:Nat) (s:List (List Int)×Ln):Prop where
 len:s.1.length=P
 near:∀ a b:Int,0<=a->a <(P:Int)->(b∈gt s.1 a↔(lget s.2 a b).isSome=true)
 line:∀ a b i:Int,lget s.2 a b=some i->0<=i/\i <(k:Int)/\(((gt es i).a=a/\(gt es i).b=b)\/((gt es i).a=b/\(gt es i).b=a))
 size:∀ a:Int,0<=a->a <(P:Int)->(gt s.1 a).length<=2*k
structure HI (es:List Edge) (P k:Nat) (s:List (List Int)×Ln):Prop extends GI es P k s where
 sym:∀ a b:Int,lget s.2 a b=lget s.2 b a
theorem y5k (es:List Edge) (P:Nat):HI es P 0 (List.replicate P (default:List Int),[]) where
 len:=by simp
 near:=fun a b h0 h1=>by
  rw [z2w _ _ _ h0 (by omega)]
  show b∈([]:List Int)↔_
  simp [lget,mget]
 line:=fun a b i h=>by simp [lget,mget] at h
 size:=fun a h0 h1=>by rw [z2w _ _ _ h0 (by omega)]; simp; rfl
 sym:=fun a b=>rfl
theorem ya9 {es:List Edge} {P k:Nat} {s:List (List Int)×Ln} (h:GI es P k s) {a b:Int} (ha:0<=a) (ha':a <(P:Int)) (he :((gt es (k:Int)).a=a/\(gt es (k:Int)).b=b)\/((gt es (k:Int)).a=b/\(gt es (k:Int)).b=a)) :
  (ent1 es k a b s).1.length=P/\(∀ c d:Int,0<=c->c <(P:Int)->(d∈gt (ent1 es k a b s).1 c↔(lget (ent1 es k a b s).2 c d).isSome=true))/\
  (∀ c d i:Int,lget (ent1 es k a b s).2 c d=some i->0<=i/\i <((k+1:Nat):Int)/\(((gt es i).a=c/\(gt es i).b=d)\/((gt es i).a=d/\(gt es i).b=c)))/\
  (∀ c:Int,0<=c->c <(P:Int)->(gt (ent1 es k a b s).1 c).length<=(gt s.1 c).length+1)/\
  (∀ c d:Int,¬(c=a/\d=b)->lget (ent1 es k a b s).2 c d=lget s.2 c d)/\
  lget (ent1 es k a b s).2 a b =(if(!(lget s.2 a b).isSome||decide ((gt es (k:Int)).minutes <(gt es ((lget s.2 a b).getD default)).minutes))=true then some (k:Int) else lget s.2 a b):=by
 have hl2:∀ c d:Int,lget (ent1 es k a b s).2 c d=if(c=a/\d=b) then(if(!(lget s.2 a b).isSome||decide ((gt es (k:Int)).minutes <(gt es ((lget s.2 a b).getD default)).minutes))=true then some (k:Int) else lget s.2 a b) else lget s.2 c d:=by
  intro c d
  unfold ent1
  simp only []
  split
  ·rw [zlc]
  ·split
   ·rename_i q; rw [q.1,q.2]
   ·rfl
 have hsm :(lget (ent1 es k a b s).2 a b).isSome=true:=by
  rw [hl2,if_pos ⟨rfl,rfl⟩]
  split
  ·rfl
  ·rename_i q
   simp only [Bool.or_eq_true,not_or] at q
   exact y5c q.1
 refine⟨?_,?_,?_,?_,fun c d hcd=>by rw [hl2,if_neg hcd],by rw [hl2,if_pos ⟨rfl,rfl⟩]⟩
 ·unfold ent1
  simp only []
  split
  ·rw [z17]; exact h.len
  ·exact h.len
 ·intro c d hc hc'
  by_cases hcd:c=a/\d=b
  ·obtain⟨rfl,rfl⟩:=hcd
   rw [hsm]
   refine⟨fun _=>rfl,fun _=>?_⟩
   unfold ent1
   simp only []
   split
   ·rw [z03 _ _ _ _ hc (by rw [h.len]; exact hc') hc,if_pos rfl]; simp
   ·rename_i q
    exact(h.near c d hc hc').2 (y5c q)
  ·rw [hl2,if_neg hcd,<- h.near c d hc hc']
   unfold ent1
   simp only []
   split
   ·rw [z03 _ _ _ _ ha (by rw [h.len]; exact ha') hc]
    by_cases e:c=a
    ·subst e
     rw [if_pos rfl]
     simp only [List.mem_append,List.mem_singleton]
     exact⟨fun q=>q.resolve_right (fun e=>hcd ⟨rfl,e⟩),.inl⟩
    ·rw [if_neg e]
   ·exact Iff.rfl
 ·intro c d i hi
  rw [hl2] at hi
  split at hi
  ·rename_i q
   obtain⟨rfl,rfl⟩:=q
   split at hi
   ·have:=Option.some.inj hi
    subst this
    exact⟨by omega,by omega,he⟩
   ·obtain⟨h1,h2,h3⟩:=h.line _ _ _ hi
    exact⟨h1,by omega,h3⟩
  ·obtain⟨h1,h2,h3⟩:=h.line _ _ _ hi
   exact⟨h1,by omega,h3⟩
 ·intro c hc hc'
  unfold ent1
  simp only []
  split
  ·rw [z03 _ _ _ _ ha (by rw [h.len]; exact ha') hc]
   split
   ·rename_i e; subst e; simp
   ·omega
  ·omega
theorem y97 {es:List Edge} {P k:Nat} {s:List (List Int)×Ln} (h:HI es P k s) (ha:0<=(gt es (k:Int)).a) (ha' :(gt es (k:Int)).a <(P:Int)) (hb:0<=(gt es (k:Int)).b) (hb' :(gt es (k:Int)).b <(P:Int)) (hne :(gt es (k:Int)).a≠(gt es (k:Int)).b) :
  HI es P (k+1) (entE es k s):=by
 obtain⟨a1,a2,a3,a4,a5,a6⟩:=ya9 h.toGI ha ha' (.inl ⟨rfl,rfl⟩)
 unfold entE
 generalize hs1:ent1 es k (gt es (k:Int)).a (gt es (k:Int)).b s=s1 at *
 generalize (gt es (k:Int)).a=a at *
 generalize (gt es (k:Int)).b=b at *
 -- the second end,by the same law: only the zcc on the numbers has moved
 have hl2:∀ c d:Int,lget (ent1 es k b a s1).2 c d=if(c=b/\d=a) then(if(!(lget s1.2 b a).isSome||decide ((gt es (k:Int)).minutes <(gt es ((lget s1.2 b a).getD default)).minutes))=true then some (k:Int) else lget s1.2 b a) else lget s1.2 c d:=by
  intro c d
  unfold ent1
  simp only []
  split
  ·rw [zlc]
  ·split
   ·rename_i q; rw [q.1,q.2]
   ·rfl
 have hba:lget s1.2 b a=lget s.2 a b:=by rw [a5 b a (fun q=>hne q.2),h.sym]
 have hsm :(lget (ent1 es k b a s1).2 b a).isSome=true:=by
  rw [hl2,if_pos ⟨rfl,rfl⟩]
  split
  ·rfl
  ·rename_i q
   simp only [Bool.or_eq_true,not_or] at q
   exact y5c q.1
 have hlab:lget (ent1 es k b a s1).2 a b=lget s1.2 a b:=by rw [hl2,if_neg (fun q=>hne q.1)]
 have hlba:lget (ent1 es k b a s1).2 b a=lget s1.2 a b:=by
  rw [hl2,if_pos ⟨rfl,rfl⟩,hba,a6]
 have hab :((gt es (k:Int)).a=a/\(gt es (k:Int)).b=b)\/((gt es (k:Int)).a=b/\(gt es (k:Int)).b=a)->True:=fun _=>trivial
 refine⟨⟨?_,?_,?_,?_⟩,?_⟩
 ·unfold ent1
  simp only []
  split
  ·rw [z17]; exact a1
  ·exact a1
 ·intro c d hc hc'
  by_cases hcd:c=b/\d=a
  ·obtain⟨rfl,rfl⟩:=hcd
   rw [hsm]
   refine⟨fun _=>rfl,fun _=>?_⟩
   unfold ent1
   simp only []
   split
   ·rw [z03 _ _ _ _ hc (by rw [a1]; exact hc') hc,if_pos rfl]; simp
   ·rename_i q
    exact(a2 c d hc hc').2 (y5c q)
  ·rw [hl2,if_neg hcd,<- a2 c d hc hc']
   unfold ent1
   simp only []
   split
   ·rw [z03 _ _ _ _ hb (by rw [a1]; exact hb') hc]
    by_cases e:c=b
    ·subst e
     rw [if_pos rfl]
     simp only [List.mem_append,List.mem_singleton]
     exact⟨fun q=>q.resolve_right (fun e=>hcd ⟨rfl,e⟩),.inl⟩
    ·rw [if_neg e]
   ·exact Iff.rfl
 ·intro c d i hi
  by_cases hcd:c=b/\d=a
  ·obtain⟨rfl,rfl⟩:=hcd
   rw [hlba] at hi
   obtain⟨h1,h2,h3⟩:=a3 _ _ _ hi
   exact⟨h1,h2,h3.elim .inr .inl⟩
  ·rw [hl2,if_neg hcd] at hi
   exact a3 _ _ _ hi
 ·intro c hc hc'
  have h1:=a4 c hc hc'
  have h0:=h.size c hc hc'
  have h2 :(gt (ent1 es k b a s1).1 c).length<=(gt s1.1 c).length+1:=by
   unfold ent1
   simp only []
   split
   ·rw [z03 _ _ _ _ hb (by rw [a1]; exact hb') hc]
    split
    ·rename_i e; subst e; simp
    ·omega
   ·omega
  omega
 ·intro c d
  by_cases h1:c=b/\d=a
  ·obtain⟨rfl,rfl⟩:=h1
   rw [hlba,hlab]
  ·by_cases h2:c=a/\d=b
   ·obtain⟨rfl,rfl⟩:=h2
    rw [hlab,hlba]
   ·rw [hl2,if_neg h1,hl2,if_neg (fun q=>h2 ⟨q.2,q.1⟩),a5 c d h2,a5 d c (fun q=>h1 ⟨q.2,q.1⟩),h.sym]
def zjr (es:List Edge) (P:Nat):Nat->List (List Int)×Ln
 | 0=>(List.replicate P default,[])
 | k+1=>entE es k (zjr es P k)
structure zl0 (x:z8):Prop where
 places:x.places.length<=512
 edges:x.edges.length<=2048
 edge:∀ i:Int,0<=i->i <(x.edges.length:Int)->z96 x.places.length (gt x.edges i)=true
theorem y65 {x:z8} (h:z65 x=0):zl0 x:=by
 obtain⟨h1,h2,_,h4⟩:=zev h
 exact⟨h1,h2,fun i h0 hi=>h4 _ (z12 h0 hi)⟩
theorem zl0.ends {x:z8} (h:zl0 x) {i:Int} (h0:0<=i) (hi:i <(x.edges.length:Int)):0<=(gt x.edges i).a/\(gt x.edges i).a <(x.places.length:Int)/\0<=(gt x.edges i).b/\(gt x.edges i).b <(x.places.length:Int)/\
  (gt x.edges i).a≠(gt x.edges i).b/\0<=(gt x.edges i).railway/\(gt x.edges i).railway<=15/\1<=(gt x.edges i).minutes/\(gt x.edges i).minutes<=100000/\0<=(gt x.edges i).km/\(gt x.edges i).km<=10000:=by
 have:=h.edge i h0 hi
 simp only [z96,Bool.and_eq_true,z7l,bne_iff_ne,ne_eq] at this
 obtain⟨⟨⟨⟨⟨q1,q2⟩,q3⟩,q4⟩,q5⟩,q6⟩:=this
 exact⟨q1.1,by omega,q2.1,by omega,q3,q4.1,q4.2,q5.1,q5.2,q6.1,q6.2⟩
theorem zfg {x:z8} (h:zl0 x):∀ k,k<=x.edges.length->HI x.edges x.places.length k (zjr x.edges x.places.length k)
 | 0,_=>y5k _ _
 | k+1,hk=>by
  obtain⟨a1,a2,a3,a4,a5,_⟩:=h.ends (i:=(k:Int)) (by omega) (by omega)
  exact y97 (zfg h k (by omega)) a1 a2 a3 a4 a5
structure Gr (P:Nat) (near:List (List Int)) (wt:Int->Int->Int):Prop where
 len:near.length=P
 small:P<=512
 size:∀ a:Int,0<=a->a <(P:Int)->(gt near a).length<=5000
 rng:∀ a b:Int,0<=a->a <(P:Int)->b∈gt near a->0<=b/\b <(P:Int)
 sym:∀ a b:Int,0<=a->a <(P:Int)->b∈gt near a->a∈gt near b/\wt b a=wt a b
 wt:∀ a b:Int,0<=a->a <(P:Int)->b∈gt near a->1<=wt a b/\wt a b<=100000
def zao (x:z8):Ln:=(zjr x.edges x.places.length x.edges.length).2
def wtN (x:z8) (a b:Int):Int:=(gt x.edges ((lget (zao x) a b).getD default)).minutes
def zhc (x:z8):List (List Int):=(zjr x.edges x.places.length x.edges.length).1
def z4f (x:z8):List (List Int):=(zhc x).map fun l=>zeb (fun a b=>decide (a<b)) l
theorem y23 {α β:Type} [Inhabited α] [Inhabited β] (f:α->β) (l:List α) {i:Int} (h0:0<=i) (h:i <(l.length:Int)):gt (l.map f) i=f (gt l i):=by
 obtain⟨n,rfl⟩:∃ n:Nat,i =(n:Int):=⟨i.toNat,by omega⟩
 rw [z2k (by simp; omega),z2k (by omega)]
 simp
theorem zoo {x:z8} (h:zl0 x) {a b:Int} (ha:0<=a) (ha':a <(x.places.length:Int)) (hb:b∈gt (z4f x) a):∃ i,lget (zao x) a b=some i/\0<=i/\i <(x.edges.length:Int)/\(((gt x.edges i).a=a/\(gt x.edges i).b=b)\/((gt x.edges i).a=b/\(gt x.edges i).b=a)):=by
 have H:=zfg h x.edges.length (Nat.le_refl _)
 unfold z4f at hb
 rw [y23 _ _ ha (by show a <((zhc x).length:Int); rw [show (zhc x).length=_ from H.len]; exact ha')] at hb
 have hb:=(z1b _ _).mem_iff.1 hb
 have:=(H.near a b ha ha').1 hb
 obtain⟨i,hi⟩:=Option.isSome_iff_exists.1 this
 obtain⟨h1,h2,h3⟩:=H.line _ _ _ hi
 exact⟨i,hi,h1,h2,h3⟩
theorem grN {x:z8} (h:zl0 x):Gr x.places.length (z4f x) (wtN x):=by
 have H:=zfg h x.edges.length (Nat.le_refl _)
 have hlen :(z4f x).length=x.places.length:=by unfold z4f; rw [List.length_map]; exact H.len
 have hl0 :(zhc x).length=x.places.length:=H.len
 have hmem:∀ a b:Int,0<=a->a <(x.places.length:Int)->(b∈gt (z4f x) a↔(lget (zao x) a b).isSome=true):=by
  intro a b ha ha'
  unfold z4f
  rw [y23 _ _ ha (by rw [hl0]; exact ha')]
  exact((z1b _ _).mem_iff).trans (H.near a b ha ha')
 refine⟨hlen,h.places,?_,?_,?_,?_⟩
 ·intro a ha ha'
  unfold z4f
  rw [y23 _ _ ha (by rw [hl0]; exact ha'),(z1b _ _).length_eq]
  have:=H.size a ha ha'
  have:=h.edges
  show (gt (zjr x.edges x.places.length x.edges.length).1 a).length<=_
  omega
 ·intro a b ha ha' hb
  obtain⟨i,_,h1,h2,h3⟩:=zoo h ha ha' hb
  obtain⟨e1,e2,e3,e4,_⟩:=h.ends h1 h2
  rcases h3 with⟨rfl,rfl⟩ |⟨rfl,rfl⟩
  ·exact⟨e3,e4⟩
  ·exact⟨e1,e2⟩
 ·intro a b ha ha' hb
  obtain⟨i,hi,h1,h2,h3⟩:=zoo h ha ha' hb
  obtain⟨e1,e2,e3,e4,_⟩:=h.ends h1 h2
  have hbr:0<=b/\b <(x.places.length:Int):=by
   rcases h3 with⟨rfl,rfl⟩ |⟨rfl,rfl⟩
   ·exact⟨e3,e4⟩
   ·exact⟨e1,e2⟩
  have hs:lget (zao x) b a=lget (zao x) a b:=H.sym b a
  refine⟨(hmem b a hbr.1 hbr.2).2 (by rw [hs,hi]; rfl),?_⟩
  unfold wtN
  rw [hs]
 ·intro a b ha ha' hb
  obtain⟨i,hi,h1,h2,_⟩:=zoo h ha ha' hb
  obtain⟨_,_,_,_,_,_,_,e1,e2,_⟩:=h.ends h1 h2
  unfold wtN
  rw [hi]
  exact⟨e1,e2⟩
structure DI (P:Nat) (near:List (List Int)) (wt:Int->Int->Int) (s:Int) (k:Nat) (t:List Int) (d:List Bool):Prop where
 lt:t.length=P
 ld:d.length=P
 src:gt t s=0
 bd:∀ i:Int,0<=i->i <(P:Int)->gt t i=-1\/(0<=gt t i/\gt t i<=100000*k)
 don:∀ i:Int,0<=i->i <(P:Int)->gt d i=true->0<=gt t i
 pre:∀ a:Int,0<=a->a <(P:Int)->a≠s->0<=gt t a->∃ q,0<=q/\q <(P:Int)/\gt d q=true/\q∈gt near a/\gt t a=gt t q+wt q a
 mon:∀ q i:Int,0<=q->q <(P:Int)->0<=i->i <(P:Int)->gt d q=true->gt d i=false->0<=gt t i->gt t q<=gt t i
 nbr:∀ q i:Int,0<=q->q <(P:Int)->gt d q=true->i∈gt near q->0<=gt t i/\gt t i<=gt t q+wt q i
 cnt:d.count true=k
structure RndI (P:Nat) (near:List (List Int)) (wt:Int->Int->Int) (s p:Int) (k:Nat) (t0:List Int) (d:List Bool) (seen:List Int) (t:List Int):Prop where
 lt:t.length=P
 own:gt t p=gt t0 p
 val:∀ i:Int,0<=i->i <(P:Int)->gt t i=gt t0 i\/(i∈seen/\gt t i=gt t0 p+wt p i/\(gt t0 i<0\/gt t0 p+wt p i<gt t0 i))
 got:∀ i∈seen,0<=i->0<=gt t i/\gt t i<=gt t p+wt p i
end Px
end
section
namespace Px
open Go
section
variable {P:Nat} {near:List (List Int)} {wt:Int->Int->Int} {s:Int}
theorem zyb {α:Type} [Inhabited α] (l:List α) {i:Int} (h0:0<=i) (h:i <(l.length:Int)):zi l i (gt l i)=l:=by
 obtain⟨n,rfl⟩:∃ n:Nat,i =(n:Int):=⟨i.toNat,by omega⟩
 rw [z2k (by omega)]
 simp [zi]
theorem y1c {p:Int} {k:Nat} {t0:List Int} {d:List Bool} (h:DI P near wt s k t0 d):RndI P near wt s p k t0 d [] t0:=
 ⟨h.lt,rfl,fun i _ _=>.inl rfl,fun i hi=>by cases hi⟩
theorem y4e (hG:Gr P near wt) {p:Int} (hp:0<=p) (hp':p <(P:Int)) {k:Nat} {t0:List Int} {d:List Bool} (hp0:0<=gt t0 p) {seen t:List Int} (h:RndI P near wt s p k t0 d seen t) {q:Int} (hq:q∈gt near p) :
  RndI P near wt s p k t0 d (seen++[q]) (if(decide (gt t q<0)||decide (gt t p+wt p q<gt t q))=true then zi t q (gt t p+wt p q) else t):=by
 obtain⟨q0,q1⟩:=hG.rng p q hp hp' hq
 obtain⟨w0,w1⟩:=hG.wt p q hp hp' hq
 have hown:=h.own
 by_cases c:gt t q<0\/gt t p+wt p q<gt t q
 ·rw [if_pos (by simpa using c)]
  have hqp:q≠p:=fun e=>by subst e; omega
  refine⟨by rw [z17]; exact h.lt,?_,fun i h0 h1=>?_,fun i hi hneg=>?_⟩
  ·rw [z03 _ _ _ _ q0 (by rw [h.lt]; exact q1) hp,if_neg (fun e=>hqp e.symm)]; exact hown
  ·rw [z03 _ _ _ _ q0 (by rw [h.lt]; exact q1) h0]
   by_cases e:i=q
   ·subst e
    rw [if_pos rfl]
    refine .inr ⟨by simp,by rw [hown],?_⟩
    rcases h.val i h0 h1 with h2 |⟨_,h2,_⟩
    ·rw [h2,hown] at c; exact c
    ·rw [h2,hown] at c; exfalso; omega
   ·rw [if_neg e]
    rcases h.val i h0 h1 with h2 |⟨h2,h3,h4⟩
    ·exact .inl h2
    ·exact .inr ⟨List.mem_append_left _ h2,h3,h4⟩
  ·by_cases e:i=q
   ·subst e
    rw [z03 _ _ _ _ q0 (by rw [h.lt]; exact q1) q0,if_pos rfl,z03 _ _ _ _ q0 (by rw [h.lt]; exact q1) hp,if_neg (fun e=>hqp e.symm)]
    omega
   ·have hi:i∈seen:=by
     rcases List.mem_append.1 hi with hi | hi
     ·exact hi
     ·exact absurd (List.mem_singleton.1 hi) e
    rw [z03 _ _ _ _ q0 (by rw [h.lt]; exact q1) hneg,if_neg e,z03 _ _ _ _ q0 (by rw [h.lt]; exact q1) hp,if_neg (fun e=>hqp e.symm)]
    exact h.got i hi hneg
 ·rw [if_neg (by simpa using c)]
  refine⟨h.lt,hown,fun i h0 h1=>?_,fun i hi hneg=>?_⟩
  ·rcases h.val i h0 h1 with h2 |⟨h2,h3,h4⟩
   ·exact .inl h2
   ·exact .inr ⟨List.mem_append_left _ h2,h3,h4⟩
  ·rcases List.mem_append.1 hi with hi | hi
   ·exact h.got i hi hneg
   ·rw [List.mem_singleton.1 hi]; omega
theorem zvm {d:List Bool} {p:Int} (hp:0<=p) (hp':p <(d.length:Int)) (h:gt d p=false) :(zi d p true).count true=d.count true+1:=by
 obtain⟨n,rfl⟩:∃ n:Nat,p =(n:Int):=⟨p.toNat,by omega⟩
 have hn:n<d.length:=by omega
 rw [z2k hn] at h
 unfold zi
 rw [Int.toNat_natCast,List.count_set hn,h]
 simp
theorem y60 (hG:Gr P near wt) {p:Int} (hp:0<=p) (hp':p <(P:Int)) {k:Nat} {t0:List Int} {d:List Bool} (h:DI P near wt s k t0 d) (hs:0<=s) (hs':s <(P:Int)) (hp0:0<=gt t0 p) (hd:gt d p=false)
  (hmin:∀ i:Int,0<=i->i <(P:Int)->0<=gt t0 i->gt d i=false->gt t0 p<=gt t0 i) {t:List Int} (hr:RndI P near wt s p k t0 d (gt near p) t):DI P near wt s (k+1) t (zi d p true):=by
 have hds:∀ i:Int,0<=i->gt (zi d p true) i=if i=p then true else gt d i:=fun i hi=>z03 _ _ _ _ hp (by rw [h.ld]; exact hp') hi
 have hw:∀ i,i∈gt near p->1<=wt p i/\wt p i<=100000:=fun i hi=>hG.wt p i hp hp' hi
 -- what is done stays
 have hdone:∀ i:Int,0<=i->i <(P:Int)->gt d i=true->gt t i=gt t0 i:=by
  intro i h0 h1 hdi
  rcases hr.val i h0 h1 with h2 |⟨h2,h3,h4⟩
  ·exact h2
  ·have:=hw i h2
   have:=h.don i h0 h1 hdi
   have:=h.mon i p h0 h1 hp hp' hdi hd hp0
   omega
 have hbdp:=(h.bd p hp hp').resolve_left (by omega)
 refine⟨hr.lt,by rw [z17]; exact h.ld,?_,fun i h0 h1=>?_,fun i h0 h1 hdi=>?_,fun a h0 h1 has hta=>?_,fun q i q0 q1 h0 h1 hdq hdi hti=>?_,fun q i q0 q1 hdq hin=>?_,?_⟩
 ·rcases hr.val s hs hs' with h2 |⟨h2,h3,h4⟩
  ·rw [h2,h.src]
  ·have:=hw s h2
   have:=h.src
   omega
 ·rcases hr.val i h0 h1 with h2 |⟨h2,h3,h4⟩
  ·rw [h2]
   rcases h.bd i h0 h1 with h5 | h5
   ·exact .inl h5
   ·right; omega
  ·have:=hw i h2
   right; omega
 ·rw [hds i h0] at hdi
  by_cases e:i=p
  ·subst e; rw [hr.own]; exact hp0
  ·rw [if_neg e] at hdi
   rw [hdone i h0 h1 hdi]; exact h.don i h0 h1 hdi
 ·rcases hr.val a h0 h1 with h2 |⟨h2,h3,h4⟩
  ·rw [h2] at hta ⊢
   obtain⟨q,q0,q1,hdq,hqn,he⟩:=h.pre a h0 h1 has hta
   refine⟨q,q0,q1,?_,hqn,by rw [hdone q q0 q1 hdq]; exact he⟩
   rw [hds q q0]; split
   ·rfl
   ·exact hdq
  ·obtain⟨hsy,hwt⟩:=hG.sym p a hp hp' h2
   exact⟨p,hp,hp',by rw [hds p hp,if_pos rfl],hsy,by rw [hr.own,h3]⟩
 ·rw [hds q q0] at hdq
  rw [hds i h0] at hdi
  have hip:i≠p:=fun e=>by rw [if_pos e] at hdi; cases hdi
  rw [if_neg hip] at hdi
  have hge:gt t0 p<=gt t i:=by
   rcases hr.val i h0 h1 with h2 |⟨h2,h3,h4⟩
   ·rw [h2] at hti ⊢; exact hmin i h0 h1 hti hdi
   ·have:=hw i h2; omega
  by_cases e:q=p
  ·subst e; rw [hr.own]; exact hge
  ·rw [if_neg e] at hdq
   have:=h.mon q p q0 q1 hp hp' hdq hd hp0
   rw [hdone q q0 q1 hdq]; omega
 ·rw [hds q q0] at hdq
  by_cases e:q=p
  ·subst e; exact hr.got i hin (hG.rng q i hp hp' hin).1
  ·rw [if_neg e] at hdq
   obtain⟨i0,i1⟩:=hG.rng q i q0 q1 hin
   have:=h.nbr q i q0 q1 hdq hin
   rw [hdone q q0 q1 hdq]
   rcases hr.val i i0 i1 with h2 |⟨h2,h3,h4⟩
   ·rw [h2]; exact this
   ·have:=hw i h2; omega
 ·rw [zvm hp (by rw [h.ld]; exact hp') hd,h.cnt]
structure DF (P:Nat) (near:List (List Int)) (wt:Int->Int->Int) (s:Int) (t:List Int):Prop where
 lt:t.length=P
 src:gt t s=0
 bd:∀ i:Int,0<=i->i <(P:Int)->gt t i=-1\/(0<=gt t i/\gt t i<=51200000)
 pre:∀ a:Int,0<=a->a <(P:Int)->a≠s->0<=gt t a->∃ q,0<=q/\q <(P:Int)/\q∈gt near a/\0<=gt t q/\gt t a=gt t q+wt q a
 nbr:∀ q i:Int,0<=q->q <(P:Int)->0<=gt t q->i∈gt near q->0<=gt t i/\gt t i<=gt t q+wt q i
theorem yel (hG:Gr P near wt) {k:Nat} {t:List Int} {d:List Bool} (h:DI P near wt s k t d) (hall:∀ i:Int,0<=i->i <(P:Int)->0<=gt t i->gt d i=true):DF P near wt s t:=by
 have hk:k<=P:=by rw [<- h.cnt,<- h.ld]; exact List.count_le_length
 have:=hG.small
 refine⟨h.lt,h.src,fun i h0 h1=>?_,fun a h0 h1 ha hta=>?_,fun q i q0 q1 hq hi=>h.nbr q i q0 q1 (hall q q0 q1 hq) hi⟩
 ·rcases h.bd i h0 h1 with h2 | h2
  ·exact .inl h2
  ·right; omega
 ·obtain⟨q,q0,q1,hdq,hqn,he⟩:=h.pre a h0 h1 ha hta
  exact⟨q,q0,q1,hqn,h.don q q0 q1 hdq,he⟩
theorem y7f (hs:0<=s) (hs':s <(P:Int)) (t:List Int) (ht:t.length=P) (hall:∀ i:Int,0<=i->i <(P:Int)->gt t i=if i=s then 0 else -1):DI P near wt s 0 t (List.replicate P (default:Bool)):=by
 have hd:∀ i:Int,0<=i->i <(P:Int)->gt (List.replicate P (default:Bool)) i=false:=fun i h0 h1=>by rw [z2w _ _ _ h0 (by omega)]; rfl
 refine⟨ht,by simp,by rw [hall s hs hs',if_pos rfl],fun i h0 h1=>?_,fun i h0 h1 h=>?_,fun a h0 h1 ha hta=>?_,fun q i q0 q1 h0 h1 hdq=>?_,fun q i q0 q1 hdq=>?_,?_⟩
 ·rw [hall i h0 h1]; split <;> omega
 ·rw [hd i h0 h1] at h; cases h
 ·rw [hall a h0 h1,if_neg ha] at hta; omega
 ·rw [hd q q0 q1] at hdq; cases hdq
 ·rw [hd q q0 q1] at hdq; cases hdq
 ·simp [List.count_replicate]
end
section walk
variable {ρ:Type} {P:Nat} {near:List (List Int)} {wt:Int->Int->Int} {s:Int}
theorem ydr (hP:P<=512) (A:Nat->Int->Int->Option ρ) (fin:Int->Option ρ) (t:List Int) (d:List Bool) (ht:t.length=P) (hd:d.length=P)
  (stp:∀ n p i,A (n+1) p i =(if(decide ((i:Int) <(P:Int)))=true then(ck ((0:Int)<=i/\i <(t.length:Int)) (ck (((decide ((0:Int)<=(gt t i)))=true)->(0:Int)<=i/\i <(d.length:Int)) (ck ((((decide ((0:Int)<=(gt t i)))&&(!(gt d i)))=true/\(decide ((p:Int)<0))=false)->(0:Int)<=i/\i <(t.length:Int)) (ck ((((decide ((0:Int)<=(gt t i)))&&(!(gt d i)))=true/\(decide ((p:Int)<0))=false)->(0:Int)<=p/\p <(t.length:Int)) (if(((decide ((0:Int)<=(gt t i)))&&(!(gt d i)))&&((decide ((p:Int)<0))||(decide (((gt t i):Int) <(gt t p)))))=true then(A n i (W (i+1))) else(A n p (W (i+1)))))))) else fin p)) (n:Nat) (hn:P<n) :
  ∃ p,A n (-1) 0=fin p/\((p=-1/\∀ i:Int,0<=i->i <(P:Int)->0<=gt t i->gt d i=true)\/(0<=p/\p <(P:Int)/\0<=gt t p/\gt d p=false/\∀ i:Int,0<=i->i <(P:Int)->0<=gt t i->gt d i=false->gt t p<=gt t i)):=by
 refine z01 (fun n i (p:Int)=>A n p i) P (fun i p=>(p=-1/\∀ j:Int,0<=j->j <(i:Int)->0<=gt t j->gt d j=true)\/(0<=p/\p <(i:Int)/\0<=gt t p/\gt d p=false/\∀ j:Int,0<=j->j <(i:Int)->0<=gt t j->gt d j=false->gt t p<=gt t j))
  (fun o=>∃ p,o=fin p/\((p=-1/\∀ i:Int,0<=i->i <(P:Int)->0<=gt t i->gt d i=true)\/(0<=p/\p <(P:Int)/\0<=gt t p/\gt d p=false/\∀ i:Int,0<=i->i <(P:Int)->0<=gt t i->gt d i=false->gt t p<=gt t i))) ?_ ?_ n (-1) (.inl ⟨rfl,fun j h0 h1=>by omega⟩) hn
 ·intro n i p hi hI hs
  rw [stp,if_pos (by simp; omega),z7 ⟨by omega,by omega⟩,z7 (fun _=>⟨by omega,by omega⟩),z7 (fun _=>⟨by omega,by omega⟩),W_id (by omega) (by omega)]
  have hpr :(decide ((p:Int)<0))=false->(0:Int)<=p/\p <(t.length:Int):=by
   intro h
   simp only [decide_eq_false_iff_not] at h
   rcases hI with⟨rfl,_⟩ |⟨h1,h2,_⟩
   ·omega
   ·exact⟨h1,by omega⟩
  rw [z7 (fun h=>hpr h.2)]
  have split_j:∀ j:Int,j <((i+1:Nat):Int)->j <(i:Int)\/j =(i:Int):=fun j h=>by omega
  by_cases c :(0<=gt t (i:Int)/\gt d (i:Int)=false)/\(p<0\/gt t (i:Int)<gt t p)
  ·rw [if_pos (by simpa using c)]
   refine hs _ (.inr ⟨by omega,by omega,c.1.1,c.1.2,fun j h0 h1 htj hdj=>?_⟩)
   rcases split_j j h1 with h2 | rfl
   ·rcases hI with⟨_,h3⟩ |⟨q0,_,_,_,h3⟩
    ·have:=h3 j h0 h2 htj; rw [hdj] at this; cases this
    ·have:=h3 j h0 h2 htj hdj
     have:=c.2.resolve_left (by omega)
     omega
   ·exact Int.le_refl _
  ·rw [if_neg (by simpa using c)]
   refine hs p ?_
   rcases hI with⟨rfl,h3⟩ |⟨q0,q1,q2,q3,h3⟩
   ·refine .inl ⟨rfl,fun j h0 h1 htj=>?_⟩
    rcases split_j j h1 with h2 | rfl
    ·exact h3 j h0 h2 htj
    ·cases hdi:gt d (i:Int) with
     | true=>rfl
     | false=>exact absurd ⟨⟨htj,hdi⟩,.inl (by omega)⟩ c
   ·refine .inr ⟨q0,by omega,q2,q3,fun j h0 h1 htj hdj=>?_⟩
    rcases split_j j h1 with h2 | rfl
    ·exact h3 j h0 h2 htj hdj
    ·rcases Int.lt_or_le (gt t (i:Int)) (gt t p) with h4 | h4
     ·exact absurd ⟨⟨htj,hdj⟩,.inr h4⟩ c
     ·exact h4
 ·intro n p hI
  rw [stp,if_neg (by simp)]
  exact⟨p,rfl,hI⟩
theorem ydb (hG:Gr P near wt) {p:Int} (hp:0<=p) (hp':p <(P:Int)) {k:Nat} (hk:k<=512) {t0:List Int} {d:List Bool} (hD:DI P near wt s k t0 d) (hp0:0<=gt t0 p) (B:Nat->Int->List Int->Option ρ) (K:List Int->Option ρ) (nb:List Int) (hnb:nb=gt near p) (E:Nat) (lg:Int->Int) (mins:Int->Int)
  (hlg:∀ q∈nb,0<=lg q/\lg q <(E:Int)/\mins (lg q)=wt p q)
  (stp:∀ n i t,B (n+1) i t =(if(decide ((i:Int) <(nb.length:Int)))=true then(ck ((0:Int)<=i/\i <(nb.length:Int)) (ck ((0:Int)<=p/\p <(t.length:Int)) (ck ((0:Int)<=lg (gt nb i)/\lg (gt nb i) <(E:Int)) (ck ((0:Int)<=(gt nb i)/\(gt nb i) <(t.length:Int)) (ck (((decide (((gt t (gt nb i)):Int)<0))=false)->(0:Int)<=(gt nb i)/\(gt nb i) <(t.length:Int)) (if((decide (((gt t (gt nb i)):Int)<0))||(decide (((W ((gt t p)+mins (lg (gt nb i)))):Int) <(gt t (gt nb i)))))=true then(ck ((0:Int)<=(gt nb i)/\(gt nb i) <(t.length:Int)) (B n (W (i+1)) (zi t (gt nb i) (W ((gt t p)+mins (lg (gt nb i))))))) else(B n (W (i+1)) t))))))) else K t)) (n:Nat) (hn:nb.length<n) :
  ∃ t,B n 0 t0=K t/\RndI P near wt s p k t0 d nb t:=by
 have hsz:nb.length<=5000:=by rw [hnb]; exact hG.size p hp hp'
 have hbp:=(hD.bd p hp hp').resolve_left (by omega)
 refine z01 (fun n i t=>B n i t) nb.length (fun i t=>RndI P near wt s p k t0 d (nb.take i) t) (fun o=>∃ t,o=K t/\RndI P near wt s p k t0 d nb t) ?_ ?_ n t0 (y1c hD) hn
 ·intro n i t hi hI hs
  have hm:gt nb (i:Int)∈gt near p:=by rw [<- hnb]; exact z12 (by omega) (by omega)
  obtain⟨q0,q1⟩:=hG.rng p _ hp hp' hm
  obtain⟨w0,w1⟩:=hG.wt p _ hp hp' hm
  obtain⟨l0,l1,l2⟩:=hlg (gt nb (i:Int)) (by rw [hnb]; rw [hnb] at hm; exact hm)
  have hlt:=hI.lt
  have hst:=y4e hG hp hp' hp0 hI hm
  rw [<- z1f nb i hi] at hst
  have hr:=hs _ hst
  have hown:=hI.own
  rw [stp,if_pos (by simp; omega),z7 ⟨by omega,by omega⟩,z7 ⟨by omega,by omega⟩,z7 ⟨l0,l1⟩,z7 ⟨by omega,by omega⟩,z7 (fun _=>⟨by omega,by omega⟩),l2,W_id (x:=gt t p+_) (by omega) (by omega),W_id (by omega) (by omega)]
  generalize gt nb (i:Int)=q at *
  by_cases c :(decide (gt t q<0)||decide (gt t p+wt p q<gt t q))=true
  ·rw [if_pos c] at hr ⊢
   rw [z7 ⟨by omega,by omega⟩]
   exact hr
  ·rw [if_neg c] at hr ⊢
   exact hr
 ·intro n t hI
  rw [stp,if_neg (by simp)]
  rw [List.take_length] at hI
  exact⟨t,rfl,hI⟩
theorem y4n (hG:Gr P near wt) (hs:0<=s) (hs':s <(P:Int)) (M:Nat->List Int->List Bool->Option ρ) (fin:List Int->Option ρ) (φ:Nat)
  (rnd:∀ n k t d,k<=512->DI P near wt s k t d->(∃ t',DF P near wt s t'/\M (n+1) t d=fin t')\/(∃ t' p,0<=p/\p <(P:Int)/\DI P near wt s (k+1) t' (zi d p true)/\M (n+1) t d=M n t' (zi d p true))) :
  ∀ n k t d,DI P near wt s k t d->P<n+k->∃ t',DF P near wt s t'/\M n t d=fin t':=by
 intro n
 induction n with
 | zero=>
  intro k t d h hn
  have hk:k<=P:=by rw [<- h.cnt,<- h.ld]; exact List.count_le_length
  omega
 | succ n ih=>
  intro k t d h hn
  have hk:k<=P:=by rw [<- h.cnt,<- h.ld]; exact List.count_le_length
  have:=hG.small
  rcases rnd n k t d (by omega) h with h1 |⟨t',p,_,_,h2,h3⟩
  ·exact h1
  ·rw [h3]
   exact ih (k+1) t' _ h2 (by omega)
end walk
end Px
end
section
namespace Px
open Go
section zq
variable (φ:Nat) (K:List Edge->Int->Int->Int->Int->z8->z8->List (List Int)->Ln->Option (Int×Int×Unit)) (x:z8) (a0 b0:Int)
theorem z7e {i:Nat} (hi:i<x.edges.length) {P:Nat} {near:List (List Int)} {line:Ln} {a b:Int} (hl:near.length=P) (ha:0<=a) (ha':a <(P:Int)) (hsz :(gt near a).length<=10000) (hx:x.edges.length<=2048) (hold:∀ o,lget line a b=some o->0<=o/\o <(x.edges.length:Int)) :
  (if(!(lget line a b).isSome)=true then(ck ((0:Int)<=a/\a <(near.length:Int)) (ck ((0:Int)<=a/\a <(near.length:Int)) (ck ((a:Int)=a) (ck (fits ((gt near a).length +([b]).length) 8) (ck ((0:Int)<=a/\a <(near.length:Int)) (ck ((a:Int)=a) (z2g φ K i ((lget line a b).getD default) ((lget line a b).isSome) x.edges (x.edges.length:Int) i a0 b0 x (keyP a b) x (zi near a (gt near a++[b])) line))))))) else(z2g φ K i ((lget line a b).getD default) ((lget line a b).isSome) x.edges (x.edges.length:Int) i a0 b0 x (keyP a b) x near line)) =
  K x.edges (x.edges.length:Int) ((i:Int)+1) a0 b0 x x (ent1 x.edges i a b (near,line)).1 (ent1 x.edges i a b (near,line)).2:=by
 have hW:W ((i:Int)+1) =(i:Int)+1:=W_id (by omega) (by omega)
 unfold z2g ent1
 simp only []
 cases h:lget line a b with
 | none=>
  simp only [Option.isSome_none,Bool.not_false,if_true,Option.getD_none,Bool.true_or]
  rw [z7 ⟨ha,by omega⟩,z7 ⟨ha,by omega⟩,z7 trivial,z7 (y8o (by simp; omega) (by omega)),z7 ⟨ha,by omega⟩,z7 trivial,z7 (by simp),z7 (by simp),hW]
 | some o=>
  have ho:=hold o h
  simp only [Option.isSome_some,Bool.not_true,Bool.false_eq_true,if_false,Option.getD_some,Bool.false_or]
  rw [z7 (fun _=>⟨by omega,by omega⟩),z7 (fun _=>ho),hW]
  by_cases c:decide ((gt x.edges (i:Int)).minutes <(gt x.edges o).minutes)=true
  ·rw [if_pos c,if_pos c]
  ·rw [if_neg c,if_neg c]
theorem zdg {i:Nat} (hi:i<x.edges.length) {P:Nat} {near:List (List Int)} {line:Ln} {a b:Int} (hl:near.length=P) (ha:0<=a) (ha':a <(P:Int)) (hsz :(gt near a).length<=10000) (hx:x.edges.length<=2048) (hold:∀ o,lget line a b=some o->0<=o/\o <(x.edges.length:Int)) :
  (if(!(lget line a b).isSome)=true then(ck ((0:Int)<=a/\a <(near.length:Int)) (ck ((0:Int)<=a/\a <(near.length:Int)) (ck ((a:Int)=a) (ck (fits ((gt near a).length +([b]).length) 8) (ck ((0:Int)<=a/\a <(near.length:Int)) (ck ((a:Int)=a) (z2m φ K i ((lget line a b).getD default) ((lget line a b).isSome) x.edges (x.edges.length:Int) i a0 b0 x (keyP a b) x (zi near a (gt near a++[b])) line))))))) else(z2m φ K i ((lget line a b).getD default) ((lget line a b).isSome) x.edges (x.edges.length:Int) i a0 b0 x (keyP a b) x near line)) =
  K x.edges (x.edges.length:Int) ((i:Int)+1) a0 b0 x x (ent1 x.edges i a b (near,line)).1 (ent1 x.edges i a b (near,line)).2:=z7e φ K x a0 b0 hi hl ha ha' hsz hx hold
theorem z7i (hx:zl0 x) {i:Nat} (hi:i<x.edges.length) {near near1:List (List Int)} {line:Ln} (old:Int) (sm:Bool) (hl:near1.length=x.places.length) (ho:sm=true->0<=old/\old <(x.edges.length:Int))
  (hsz :(gt near1 (gt x.edges (i:Int)).b).length<=10000) (hline:∀ a b o,lget line a b=some o->0<=o/\o <(x.edges.length:Int)) (line1:Ln) (h1:line1=if(!sm||decide ((gt x.edges (i:Int)).minutes <(gt x.edges old).minutes))=true then lset line (gt x.edges (i:Int)).a (gt x.edges (i:Int)).b i else line) :
  z2h φ K i old sm i x.edges (x.edges.length:Int) i a0 b0 x (keyP (gt x.edges (i:Int)).a (gt x.edges (i:Int)).b) (gt x.edges (i:Int)) x near1 line =
  K x.edges (x.edges.length:Int) ((i:Int)+1) a0 b0 x x (ent1 x.edges i (gt x.edges (i:Int)).b (gt x.edges (i:Int)).a (near1,line1)).1 (ent1 x.edges i (gt x.edges (i:Int)).b (gt x.edges (i:Int)).a (near1,line1)).2:=by
 obtain⟨e1,e2,e3,e4,e5,_⟩:=hx.ends (i:=(i:Int)) (by omega) (by omega)
 unfold z2h
 rw [z7 (fun _=>⟨by omega,by omega⟩),z7 (fun h=>ho (by simpa using h))]
 by_cases c :(!sm||decide ((gt x.edges (i:Int)).minutes <(gt x.edges old).minutes))=true
 ·rw [if_pos c] at h1 ⊢
  subst h1
  refine z7e φ K x a0 b0 hi hl e3 e4 hsz hx.edges fun o h=>?_
  rw [zlc,if_neg (fun q=>e5 q.1.symm)] at h
  exact hline _ _ o h
 ·rw [if_neg c] at h1 ⊢
  subst h1
  exact zdg φ K x a0 b0 hi hl e3 e4 hsz hx.edges fun o h=>hline _ _ o h
end zq
section zq
variable (φ:Nat) (x:z8) (a0 b0:Int)
theorem zfq (hx:zl0 x) (n:Nat) {i:Nat} (hi:i<x.edges.length) {s:List (List Int)×Ln} (h:HI x.edges x.places.length i s) :
  zl φ (n+1) x.edges (x.edges.length:Int) i a0 b0 x x s.1 s.2=zl φ n x.edges (x.edges.length:Int) ((i:Int)+1) a0 b0 x x (entE x.edges i s).1 (entE x.edges i s).2:=by
 obtain⟨e1,e2,e3,e4,e5,_⟩:=hx.ends (i:=(i:Int)) (by omega) (by omega)
 have hE:=hx.edges
 have hline:∀ a b o,lget s.2 a b=some o->0<=o/\o <(x.edges.length:Int):=fun a b o ho=>by
  obtain⟨h1,h2,_⟩:=h.line _ _ _ ho
  exact⟨h1,by omega⟩
 have hsa:=h.size _ e1 e2
 have hsb:=h.size _ e3 e4
 have hlen:=h.len
 rw [zl,if_pos (by simp; omega),z7 ⟨by omega,by omega⟩]
 unfold entE
 generalize hs1:ent1 x.edges i (gt x.edges (i:Int)).a (gt x.edges (i:Int)).b s=s1
 have hs1':=hs1
 unfold ent1 at hs1'
 cases hg:lget s.2 (gt x.edges (i:Int)).a (gt x.edges (i:Int)).b with
 | none=>
  have hg' : @mget (Nat->Int) Int ⟨beqA 2⟩ s.2 (upd (upd (fun _=>(default:Int)) 0 (gt x.edges (i:Int)).a) 1 (gt x.edges (i:Int)).b)=none:=hg
  rw [hg] at hs1'
  simp only [Option.isSome_none,Bool.not_false,if_true,Option.getD_none,Bool.true_or] at hs1'
  rw [hg']
  simp only [Option.isSome_none,Bool.not_false,if_true,Option.getD_none]
  rw [z7 ⟨e1,by omega⟩,z7 ⟨e1,by omega⟩,z7 trivial,z7 (y8o (by simp; omega) (by omega)),z7 ⟨e1,by omega⟩,z7 trivial,<- hs1']
  refine z7i φ (zl φ n) x a0 b0 hx hi (near:=s.1) _ _ (by rw [z17]; exact hlen) (fun h=>by cases h) ?_ hline _ (by simp)
  rw [z03 _ _ _ _ e1 (by omega) e3,if_neg (fun q=>e5 q.symm)]
  omega
 | some o=>
  have hg' : @mget (Nat->Int) Int ⟨beqA 2⟩ s.2 (upd (upd (fun _=>(default:Int)) 0 (gt x.edges (i:Int)).a) 1 (gt x.edges (i:Int)).b)=some o:=hg
  rw [hg] at hs1'
  simp only [Option.isSome_some,Bool.not_true,Bool.false_eq_true,if_false,Option.getD_some,Bool.false_or] at hs1'
  rw [hg']
  simp only [Option.isSome_some,Bool.not_true,Bool.false_eq_true,if_false,Option.getD_some]
  rw [<- hs1']
  exact z7i φ (zl φ n) x a0 b0 hx hi (near:=s.1) _ _ hlen (fun _=>hline _ _ _ hg) (by omega) hline _ (by simp)
theorem zfo (hx:zl0 x) (hφ:5000<φ) (line:Ln):z0v φ φ ((zhc x).length:Int) 0 a0 b0 (zhc x) x line =(ck (z3i (x.places.length:Int) 8) (ck (z3i (((List.replicate ((x.places.length:Int):Int).toNat (default:Int)).length:Int)) 1) (zw φ φ a0 (((List.replicate ((x.places.length:Int):Int).toNat (default:Int)).length:Int)) 0 b0 x (List.replicate ((x.places.length:Int):Int).toNat (default:Int)) ((List.replicate (((List.replicate ((x.places.length:Int):Int).toNat (default:Int)).length:Int):Int).toNat (default:Bool))) (z4f x) line))):=by
 have hl0 :(zhc x).length=x.places.length:=(zfg hx x.edges.length (Nat.le_refl _)).len
 have hP:=hx.places
 have hE:=hx.edges
 obtain⟨n0,hn0⟩:∃ n0,n0=x.places.length:=⟨_,rfl⟩
 rw [<- hn0] at hl0 hP
 rw [hl0]
 have hfin:∀ o:List (List Int),o.length=n0->(∀ w:Nat,w<n0->gt o (w:Int)=zeb (fun a b=>decide (a<b)) (gt (zhc x) (w:Int)))->o=z4f x:=by
  intro o ho hw
  unfold z4f
  refine List.ext_getElem (by simp [ho,hl0]) fun i h1 h2=>?_
  have:=hw i (by omega)
  rw [z2k h1,z2k (by omega)] at this
  simpa using this
 refine z01 (fun n i o=>z0v φ n (n0:Int) i a0 b0 o x line) n0 (fun i o=>o.length=n0/\∀ w:Nat,w<n0->gt o (w:Int)=if w<i then zeb (fun a b=>decide (a<b)) (gt (zhc x) (w:Int)) else gt (zhc x) (w:Int)) (fun o=>o =(ck (z3i (x.places.length:Int) 8) (ck (z3i (((List.replicate ((x.places.length:Int):Int).toNat (default:Int)).length:Int)) 1) (zw φ φ a0 (((List.replicate ((x.places.length:Int):Int).toNat (default:Int)).length:Int)) 0 b0 x (List.replicate ((x.places.length:Int):Int).toNat (default:Int)) ((List.replicate (((List.replicate ((x.places.length:Int):Int).toNat (default:Int)).length:Int):Int).toNat (default:Bool))) (z4f x) line)))) ?_ ?_ φ (zhc x) ⟨hl0,fun w hw=>by rw [if_neg (by omega)]⟩ (by omega)
 ·intro n i o hi ⟨ho1,ho2⟩ hs
  have hsz:=(zfg hx x.edges.length (Nat.le_refl _)).size (i:Int) (by omega) (by omega)
  have hsz :(gt (zhc x) (i:Int)).length<=2*x.edges.length:=hsz
  have hso:zj6 (gt (zhc x) (i:Int))=some (zeb (fun a b=>decide (a<b)) (gt (zhc x) (i:Int))):=by
   unfold zj6 zko; rw [if_pos (by omega)]
  rw [z0v,if_pos (by simp; omega),z7 ⟨by omega,by omega⟩,z7 ⟨by omega,by omega⟩,z7 rfl,ho2 i hi,if_neg (by omega),hso,Option.bind_some,W_id (by omega) (by omega)]
  refine hs _ ⟨by rw [z17]; exact ho1,fun w hw=>?_⟩
  rw [z03 _ _ _ _ (by omega) (by omega) (by omega)]
  by_cases e:w=i
  ·subst e; rw [if_pos rfl,if_pos (by omega)]
  ·rw [if_neg (by omega),ho2 w hw]
   by_cases h2:w<i
   ·rw [if_pos h2,if_pos (by omega)]
   ·rw [if_neg h2,if_neg (by omega)]
 ·intro n o ⟨ho1,ho2⟩
  have:=hfin o ho1 fun w hw=>by rw [ho2 w hw,if_pos hw]
  subst this
  rw [z0v,if_neg (by simp)]
theorem z8h (hx:zl0 x) (hφ:5000<φ):zl φ φ x.edges (x.edges.length:Int) 0 a0 b0 x x (List.replicate ((x.places.length:Int)).toNat (default:List Int)) [] =(ck (z3i (x.places.length:Int) 8) (ck (z3i (((List.replicate ((x.places.length:Int):Int).toNat (default:Int)).length:Int)) 1) (zw φ φ a0 (((List.replicate ((x.places.length:Int):Int).toNat (default:Int)).length:Int)) 0 b0 x (List.replicate ((x.places.length:Int):Int).toNat (default:Int)) ((List.replicate (((List.replicate ((x.places.length:Int):Int).toNat (default:Int)).length:Int):Int).toNat (default:Bool))) (z4f x) (zao x)))):=by
 have hE:=hx.edges
 have h0 :(List.replicate ((x.places.length:Int)).toNat (default:List Int),([]:Ln))=zjr x.edges x.places.length 0:=by simp [zjr]
 refine z01 (fun n i (s:List (List Int)×Ln)=>zl φ n x.edges (x.edges.length:Int) i a0 b0 x x s.1 s.2) x.edges.length (fun i s=>s=zjr x.edges x.places.length i) (fun o=>o =(ck (z3i (x.places.length:Int) 8) (ck (z3i (((List.replicate ((x.places.length:Int):Int).toNat (default:Int)).length:Int)) 1) (zw φ φ a0 (((List.replicate ((x.places.length:Int):Int).toNat (default:Int)).length:Int)) 0 b0 x (List.replicate ((x.places.length:Int):Int).toNat (default:Int)) ((List.replicate (((List.replicate ((x.places.length:Int):Int).toNat (default:Int)).length:Int):Int).toNat (default:Bool))) (z4f x) (zao x))))) ?_ ?_ φ (List.replicate ((x.places.length:Int)).toNat (default:List Int),[]) h0 (by omega)
 ·intro n i s hi hs hk
  subst hs
  rw [zfq φ x a0 b0 hx n hi (zfg hx i (by omega))]
  exact hk _ rfl
 ·intro n s hs
  subst hs
  rw [zl,if_neg (by simp)]
  exact zfo φ x a0 b0 hx hφ (zao x)
end zq
section z2x
variable (φ:Nat) (K:List Edge->Int->Int->Int->Int->z8->z8->List (List Int)->Ln->Option ((List Int)×Int×Unit)) (x:z8) (a0 b0:Int)
end z2x
section z2x
variable (φ:Nat) (x:z8) (a0 b0:Int)
end z2x
section z4b
variable (φ:Nat) (K:List Edge->Int->Int->List Int->z8->z8->List z3y->List (List Int)->Ln->Option ((List z3y)×Int×Unit)) (x:z8) (rt:List Int) (sh:List z3y)
end z4b
section z4b
variable (φ:Nat) (x:z8) (rt:List Int) (sh:List z3y)
end z4b
end Px
end
section
namespace Px
open Go
section zq
variable (φ:Nat) (x:z8) (a0 b0:Int)
theorem z8n (hx:zl0 x) (hφ:800000<φ) (hs:0<=a0) (hs':a0 <(x.places.length:Int)):∃ t,DF x.places.length (z4f x) (wtN x) a0 t/\
  zw φ φ a0 (((List.replicate ((x.places.length:Int):Int).toNat (default:Int)).length:Int)) 0 b0 x (List.replicate ((x.places.length:Int):Int).toNat (default:Int)) ((List.replicate (((List.replicate ((x.places.length:Int):Int).toNat (default:Int)).length:Int):Int).toNat (default:Bool)))  (z4f x) (zao x) =(ck ((0:Int)<=b0/\b0 <(t.length:Int)) (if(decide (((gt t b0):Int)<0))=true then(some (0,80,())) else(some ((gt t b0),0,())))):=by
 have hG:=grN hx
 have hP:=hx.places
 have hrep :(List.replicate ((x.places.length:Int):Int).toNat (default:Int)).length=x.places.length:=by simp
 rw [hrep]
 have e1 :((x.places.length:Int)).toNat=x.places.length:=by simp
 rw [e1]
 -- the search
 have search:∀ t:List Int,t.length=x.places.length->(∀ i:Int,0<=i->i <(x.places.length:Int)->gt t i=if i=a0 then 0 else -1)->
   ∃ t',DF x.places.length (z4f x) (wtN x) a0 t'/\zn φ φ b0 x t (List.replicate x.places.length (default:Bool))  (z4f x) (zao x) =(ck ((0:Int)<=b0/\b0 <(t'.length:Int)) (if(decide (((gt t' b0):Int)<0))=true then(some (0,80,())) else(some ((gt t' b0),0,())))):=by
  intro t ht hall
  refine y4n hG hs hs' (fun n t d=>zn φ n b0 x t d  (z4f x) (zao x)) (fun t'=>(ck ((0:Int)<=b0/\b0 <(t'.length:Int)) (if(decide (((gt t' b0):Int)<0))=true then(some (0,80,())) else(some ((gt t' b0),0,()))))) φ ?_ φ 0 t _ (y7f hs hs' t ht hall) (by omega)
  intro n k t d hk hD
  obtain⟨p,hp1,hp2⟩:=ydr hP (fun m p i=>z0p φ (zn φ n) m p (x.places.length:Int) i b0 x t d  (z4f x) (zao x))
   (fun p=>(if(decide ((p:Int)<0))=true then(ck ((0:Int)<=b0/\b0 <(t.length:Int)) (if(decide (((gt t b0):Int)<0))=true then(some (0,80,())) else(some ((gt t b0),0,())))) else(ck ((0:Int)<=p/\p <(d.length:Int)) (ck ((0:Int)<=p/\p <((z4f x).length:Int)) (ck ((0:Int)<=p/\p <((z4f x).length:Int)) (ck ((p:Int)=p) (z0q φ (zn φ n) φ p ((gt (z4f x) p).length:Int) 0 b0 x t (zi d p true) (gt (z4f x) p)  (z4f x) p (zao x))))))))
   t d hD.lt hD.ld (fun m p i=>by rw [z0p]) φ (by omega)
  have hM:zn φ (n+1) b0 x t d  (z4f x) (zao x)=z0p φ (zn φ n) φ (-1) (x.places.length:Int) 0 b0 x t d  (z4f x) (zao x):=by
   rw [zn,hD.lt]
  simp only [] at hp1
  simp only [hM]
  rw [hp1]
  rcases hp2 with⟨rfl,hall⟩ |⟨p0,p1,p2,p3,p4⟩
  ·left
   refine⟨t,yel hG hD hall,?_⟩
   rw [if_pos (by decide)]
  ·right
   rw [if_neg (by simp; omega),z7 ⟨p0,by rw [hD.ld]; exact p1⟩,z7 ⟨p0,by rw [hG.len]; exact p1⟩,z7 ⟨p0,by rw [hG.len]; exact p1⟩,z7 trivial]
   obtain⟨t',h1,h2⟩:=ydb hG p0 p1 hk hD p2 (fun m i t=>z0q φ (zn φ n) m p ((gt (z4f x) p).length:Int) i b0 x t (zi d p true) (gt (z4f x) p)  (z4f x) p (zao x))
    (fun t=>zn φ n b0 x t (zi d p true)  (zi (z4f x) p (gt (z4f x) p)) (zao x)) (gt (z4f x) p) rfl x.edges.length (fun q=>(lget (zao x) p q).getD default) (fun i=>(gt x.edges i).minutes)
    (fun q hq=>by
     obtain⟨i,hi,i0,i1,_⟩:=zoo hx p0 p1 hq
     rw [hi]
     exact⟨i0,i1,by unfold wtN; rw [hi]⟩) (fun m i t=>by rw [z0q]) φ (by have:=hG.size p p0 p1; omega)
   refine⟨t',p,p0,p1,y60 hG p0 p1 hD hs hs' p2 p3 p4 h2,?_⟩
   rw [zyb _ p0 (by rw [hG.len]; exact p1)] at h1
   exact h1
 -- all times are unknown at first
 refine z01 (fun n i t=>zw φ n a0 (x.places.length:Int) i b0 x t (List.replicate x.places.length (default:Bool))  (z4f x) (zao x)) x.places.length (fun i t=>t.length=x.places.length/\∀ j:Int,0<=j->j <(i:Int)->gt t j=-1) (fun o=>∃ t,DF x.places.length (z4f x) (wtN x) a0 t/\o =(ck ((0:Int)<=b0/\b0 <(t.length:Int)) (if(decide (((gt t b0):Int)<0))=true then(some (0,80,())) else(some ((gt t b0),0,()))))) ?_ ?_ φ (List.replicate x.places.length (default:Int)) ⟨by simp,fun j h0 h1=>by omega⟩ (by omega)
 ·intro n i t hi ⟨h1,h2⟩ hs
  rw [zw,if_pos (by simp; omega),z7 ⟨by omega,by omega⟩,W_id (by omega) (by omega)]
  refine hs _ ⟨by rw [z17]; exact h1,fun j j0 j1=>?_⟩
  rw [z03 _ _ _ _ (by omega) (by omega) j0]
  by_cases e:j =(i:Int)
  ·rw [if_pos e]
  ·rw [if_neg e]; exact h2 j j0 (by omega)
 ·intro n t ⟨h1,h2⟩
  rw [zw,if_neg (by simp),z7 ⟨hs,by omega⟩]
  obtain⟨t',h3,h4⟩:=search (zi t a0 0) (by rw [z17]; exact h1) (fun i i0 i1=>by
   rw [z03 _ _ _ _ hs (by omega) i0]
   split
   ·rfl
   ·exact h2 i i0 i1)
  exact⟨t',h3,h4⟩
end zq
section z2x
variable (φ:Nat) (x:z8) (a0 b0:Int)
end z2x
theorem zh3 {n b:Nat} (h:n<=100000000) (hb:b<=1000):fits n b:=by
 unfold fits
 have:n*b<=100000000*1000:=Nat.mul_le_mul h hb
 omega
theorem zxs (φ:Nat) (hφ:800000<φ) (x:z8) (a b:Int):∃ t e,zq φ x a b=some (t,e,())/\0<=t/\t<=51200000:=by
 unfold zq
 rw [z8z _ (by omega),Option.bind_some]
 by_cases hn:z65 x=0
 case neg=>
  rw [if_pos (by simpa using hn),if_pos (by simpa using hn)]
  exact⟨0,_,rfl,by omega,by omega⟩
 have hx:=y65 hn
 have hP:=hx.places
 rw [if_neg (by simp [hn])]
 obtain⟨m,rfl⟩:∃ m,φ=m+3:=⟨φ-3,by omega⟩
 have g0:gt [a,b] 0=a:=rfl
 have g1:gt [a,b] 1=b:=rfl
 have L :((([a,b]:List Int).length:Nat):Int)=2:=rfl
 have step:∀ n i,z09 (m+3) (n+1) 2 i a b x [a,b] x [] =(if(decide ((i:Int)<2))=true then(ck ((0:Int)<=i/\i <(2:Int)) (if((decide (((gt [a,b] i):Int)<0))||(decide (((x.places.length:Int):Int)<=(gt [a,b] i))))=true then(some (0,1,())) else(z09 (m+3) n 2 (W (i+1)) a b x [a,b] x []))) else(ck (z3i (x.places.length:Int) 24) (zl (m+3) (m+3) x.edges (x.edges.length:Int) 0 a b x x (List.replicate ((x.places.length:Int):Int).toNat (default :(List Int))) ([]:List ((Nat->Int)×Int))))):=fun n i=>by rw [z09]; rfl
 rw [L,show m+3 =(m+2)+1 from rfl,step,if_pos (by decide),z7 (by decide),g0]
 by_cases ha:0<=a/\a <(x.places.length:Int)
 case neg=>
  rw [if_pos (by simp; omega)]
  exact⟨0,1,rfl,by omega,by omega⟩
 rw [if_neg (by simp; omega),show W (0+1)=1 by rfl,show m+2 =(m+1)+1 from rfl,step,if_pos (by decide),z7 (by decide),g1]
 by_cases hb:0<=b/\b <(x.places.length:Int)
 case neg=>
  rw [if_pos (by simp; omega)]
  exact⟨0,1,rfl,by omega,by omega⟩
 rw [if_neg (by simp; omega),show W (1+1)=2 by rfl,step,if_neg (by decide),z7 (mk_t _ _ (by omega) (by omega) (by omega)),z8h (m+3) x a b hx (by omega),z7 (mk_t _ _ (by omega) (by omega) (by omega)),z7 (mk_t _ _ (by omega) (by simp; omega) (by omega))]
 obtain⟨t,h1,h2⟩:=z8n (m+3) x a b hx (by omega) ha.1 ha.2
 rw [h2,z7 ⟨hb.1,by rw [h1.lt]; exact hb.2⟩]
 rcases h1.bd b hb.1 hb.2 with h3 |⟨h3,h4⟩
 ·rw [if_pos (by simp; omega)]
  exact⟨0,80,rfl,by omega,by omega⟩
 ·rw [if_neg (by simp; omega)]
  exact⟨_,0,rfl,h3,h4⟩
end Px
end
