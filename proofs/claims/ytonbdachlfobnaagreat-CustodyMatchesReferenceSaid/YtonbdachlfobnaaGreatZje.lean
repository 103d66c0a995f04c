/- A part of the proof of custodyMatchesReference_holds. Conditions: none. -/
import Derived.Test.YtonbdachlfobnaaGreatZjd
import Derived.Test.YtonbdachlfobnaaGreatProg
import Derived.Ground.SlsfProg
import Derived.Ground.NamesProg
import Derived.KernelRfl
set_option linter.unusedVariables false
set_option linter.unusedSimpArgs false
section
namespace Go.Proofs
open Go.Shelf
def Tryz.sortEv_ren:Go.Shelf.Ren:=⟨fun | 6=>77 | 15=>106 | 14=>105 | 28=>139 | 29=>110 | 20=>131 | 21=>132 | 22=>133 | 23=>134 | 24=>135 | 25=>136 | 26=>137 | 27=>138 | 46=>164 | 47=>165 | 48=>166 | 49=>167 | 50=>168 | 57=>181 | n=>n,fun | 22=>112 | 24=>114 | 25=>171 | 3=>3 | 39=>198 | 0=>0 | 53=>226 | 55=>134 | 4=>4 | 46=>220 | 45=>219 | 50=>103 | 5=>5 | 9=>9 | 66=>248 | 70=>244 | 76=>261 | 77=>262 | n=>n,fun | n=>n⟩
theorem Tryz.sortEv:Go.Proofs.SlLaysF0.n6 Tryz.prog Tryz.sortEv_ren:={
 mixed:=by kernel_rfl
 f6:=⟨Tryz.f77.name,by decide,Tryz.func77.trans (congrArg some (by kernel_rfl))⟩
 f14:=⟨Tryz.f105.name,by decide,Tryz.func105.trans (congrArg some (by kernel_rfl))⟩
 f15:=Tryz.func106.trans (congrArg some (by kernel_rfl))
 f20:=⟨Tryz.f131.name,by decide,Tryz.func131.trans (congrArg some (by kernel_rfl))⟩
 f21:=⟨Tryz.f132.name,by decide,Tryz.func132.trans (congrArg some (by kernel_rfl))⟩
 f22:=⟨Tryz.f133.name,by decide,Tryz.func133.trans (congrArg some (by kernel_rfl))⟩
 f23:=⟨Tryz.f134.name,by decide,Tryz.func134.trans (congrArg some (by kernel_rfl))⟩
 f24:=⟨Tryz.f135.name,by decide,Tryz.func135.trans (congrArg some (by kernel_rfl))⟩
 f25:=⟨Tryz.f136.name,by decide,Tryz.func136.trans (congrArg some (by kernel_rfl))⟩
 f26:=⟨Tryz.f137.name,by decide,Tryz.func137.trans (congrArg some (by kernel_rfl))⟩
 f27:=⟨Tryz.f138.name,by decide,Tryz.func138.trans (congrArg some (by kernel_rfl))⟩
 f28:=Tryz.func139.trans (congrArg some (by kernel_rfl))
 f29:=Tryz.func110.trans (congrArg some (by kernel_rfl))
 f46:=⟨Tryz.f164.name,by decide,Tryz.func164.trans (congrArg some (by kernel_rfl))⟩
 f47:=Tryz.func165.trans (congrArg some (by kernel_rfl))
 f48:=Tryz.func166.trans (congrArg some (by kernel_rfl))
 f49:=⟨Tryz.f167.name,by decide,Tryz.func167.trans (congrArg some (by kernel_rfl))⟩
 f50:=⟨Tryz.f168.name,by decide,Tryz.func168.trans (congrArg some (by kernel_rfl))⟩
 f57:=⟨Tryz.f181.name,by decide,Tryz.func181.trans (congrArg some (by kernel_rfl))⟩
 t0:=Tryz.underlying0
 a0:=Tryz.isAgg0
 z0:=Tryz.sizeOf0
 v0:=Tryz.zeroValue0
 t3:=Tryz.underlying3
 a3:=Tryz.isAgg3
 z3:=Tryz.sizeOf3
 v3:=Tryz.zeroValue3
 t4:=Tryz.underlying4
 a4:=Tryz.isAgg4
 z4:=Tryz.sizeOf4
 v4:=Tryz.zeroValue4
 t5:=Tryz.underlying5
 a5:=Tryz.isAgg5
 z5:=Tryz.sizeOf5
 v5:=Tryz.zeroValue5
 t9:=Tryz.underlying9
 a9:=Tryz.isAgg9
 z9:=Tryz.sizeOf9
 v9:=Tryz.zeroValue9
 t22:=Tryz.underlying112
 a22:=Tryz.isAgg112
 z22:=Tryz.sizeOf112
 v22:=Tryz.zeroValue112
 t25:=Tryz.underlying171
 a25:=Tryz.isAgg171
 z25:=Tryz.sizeOf171
 v25:=Tryz.zeroValue171
 t39:=Tryz.underlying198
 a39:=Tryz.isAgg198
 z39:=Tryz.sizeOf198
 v39:=Tryz.zeroValue198
 t45:=Tryz.underlying219
 a45:=Tryz.isAgg219
 z45:=Tryz.sizeOf219
 v45:=Tryz.zeroValue219
 t46:=Tryz.underlying220
 a46:=Tryz.isAgg220
 z46:=Tryz.sizeOf220
 v46:=Tryz.zeroValue220
 t50:=Tryz.underlying103
 a50:=Tryz.isAgg103
 z50:=Tryz.sizeOf103
 v50:=Tryz.zeroValue103
 t53:=Tryz.underlying226
 a53:=Tryz.isAgg226
 z53:=Tryz.sizeOf226
 v53:=Tryz.zeroValue226
 t55:=Tryz.underlying134
 a55:=Tryz.isAgg134
 z55:=Tryz.sizeOf134
 v55:=Tryz.zeroValue134
 t66:=Tryz.underlying248
 a66:=Tryz.isAgg248
 z66:=Tryz.sizeOf248
 v66:=Tryz.zeroValue248
 t70:=Tryz.underlying244
 a70:=Tryz.isAgg244
 z70:=Tryz.sizeOf244
 v70:=Tryz.zeroValue244
 t76:=Tryz.underlying261
 a76:=Tryz.isAgg261
 z76:=Tryz.sizeOf261
 v76:=Tryz.zeroValue261
 t77:=Tryz.underlying262
 a77:=Tryz.isAgg262
 z77:=Tryz.sizeOf262
 v77:=Tryz.zeroValue262 }
def Tryz.lays189_ren:Go.Shelf.Ren:=⟨fun | 189=>89 | 125=>106 | 257=>111 | 128=>139 | 129=>110 | 294=>144 | 295=>145 | 296=>146 | 297=>147 | 298=>148 | 299=>149 | 216=>150 | 300=>151 | 301=>152 | 328=>170 | 329=>165 | 330=>166 | 331=>171 | 332=>172 | 215=>107 | 343=>182 | n=>n,fun | 28=>46 | 3=>3 | 46=>198 | 0=>0 | 51=>226 | 53=>134 | 4=>4 | 183=>220 | 182=>219 | 131=>103 | 5=>5 | 9=>9 | 218=>248 | 222=>244 | 228=>261 | 229=>262 | n=>n,fun | n=>n⟩
theorem Tryz.lays189:Go.Proofs.Lays.n189 Tryz.prog Tryz.lays189_ren:={
 mixed:=by kernel_rfl
 f125:=Tryz.func106.trans (congrArg some (by kernel_rfl))
 f128:=Tryz.func139.trans (congrArg some (by kernel_rfl))
 f129:=Tryz.func110.trans (congrArg some (by kernel_rfl))
 f189:=Tryz.func89.trans (congrArg some (by kernel_rfl))
 f215:=Tryz.func107.trans (congrArg some (by kernel_rfl))
 f216:=Tryz.func150.trans (congrArg some (by kernel_rfl))
 f257:=Tryz.func111.trans (congrArg some (by kernel_rfl))
 f294:=Tryz.func144.trans (congrArg some (by kernel_rfl))
 f295:=Tryz.func145.trans (congrArg some (by kernel_rfl))
 f296:=Tryz.func146.trans (congrArg some (by kernel_rfl))
 f297:=Tryz.func147.trans (congrArg some (by kernel_rfl))
 f298:=Tryz.func148.trans (congrArg some (by kernel_rfl))
 f299:=Tryz.func149.trans (congrArg some (by kernel_rfl))
 f300:=Tryz.func151.trans (congrArg some (by kernel_rfl))
 f301:=Tryz.func152.trans (congrArg some (by kernel_rfl))
 f328:=Tryz.func170.trans (congrArg some (by kernel_rfl))
 f329:=Tryz.func165.trans (congrArg some (by kernel_rfl))
 f330:=Tryz.func166.trans (congrArg some (by kernel_rfl))
 f331:=Tryz.func171.trans (congrArg some (by kernel_rfl))
 f332:=Tryz.func172.trans (congrArg some (by kernel_rfl))
 f343:=Tryz.func182.trans (congrArg some (by kernel_rfl))
 t0:=Tryz.underlying0
 a0:=Tryz.isAgg0
 z0:=Tryz.sizeOf0
 v0:=Tryz.zeroValue0
 t3:=Tryz.underlying3
 a3:=Tryz.isAgg3
 z3:=Tryz.sizeOf3
 v3:=Tryz.zeroValue3
 t4:=Tryz.underlying4
 a4:=Tryz.isAgg4
 z4:=Tryz.sizeOf4
 v4:=Tryz.zeroValue4
 t5:=Tryz.underlying5
 a5:=Tryz.isAgg5
 z5:=Tryz.sizeOf5
 v5:=Tryz.zeroValue5
 t9:=Tryz.underlying9
 a9:=Tryz.isAgg9
 z9:=Tryz.sizeOf9
 v9:=Tryz.zeroValue9
 t28:=Tryz.underlying46
 a28:=Tryz.isAgg46
 z28:=Tryz.sizeOf46
 v28:=Tryz.zeroValue46
 t46:=Tryz.underlying198
 a46:=Tryz.isAgg198
 z46:=Tryz.sizeOf198
 v46:=Tryz.zeroValue198
 t51:=Tryz.underlying226
 a51:=Tryz.isAgg226
 z51:=Tryz.sizeOf226
 v51:=Tryz.zeroValue226
 t53:=Tryz.underlying134
 a53:=Tryz.isAgg134
 z53:=Tryz.sizeOf134
 v53:=Tryz.zeroValue134
 t131:=Tryz.underlying103
 a131:=Tryz.isAgg103
 z131:=Tryz.sizeOf103
 v131:=Tryz.zeroValue103
 t182:=Tryz.underlying219
 a182:=Tryz.isAgg219
 z182:=Tryz.sizeOf219
 v182:=Tryz.zeroValue219
 t183:=Tryz.underlying220
 a183:=Tryz.isAgg220
 z183:=Tryz.sizeOf220
 v183:=Tryz.zeroValue220
 t218:=Tryz.underlying248
 a218:=Tryz.isAgg248
 z218:=Tryz.sizeOf248
 v218:=Tryz.zeroValue248
 t222:=Tryz.underlying244
 a222:=Tryz.isAgg244
 z222:=Tryz.sizeOf244
 v222:=Tryz.zeroValue244
 t228:=Tryz.underlying261
 a228:=Tryz.isAgg261
 z228:=Tryz.sizeOf261
 v228:=Tryz.zeroValue261
 t229:=Tryz.underlying262
 a229:=Tryz.isAgg262
 z229:=Tryz.sizeOf262
 v229:=Tryz.zeroValue262 }
end Go.Proofs
end
section
namespace Px
open Go
theorem yh3 {σ ρ:Type} (L:Nat->Int->σ->Option ρ) (len:Nat) (Inv:Nat->σ->Prop) (G:Option ρ->Prop)
  (step:∀ n i s,i<len->Inv i s->(∀ s',Inv (i+1) s'->G (L n ((i:Int)+1) s'))->G (L (n+1) i s))
  (done:∀ n s,Inv len s->G (L (n+1) len s)):∀ n i s,i<=len->Inv i s->len-i<n->G (L n i s):=by
 intro n
 induction n with
 | zero=>intro i s _ _ h; omega
 | succ n ih=>
  intro i s hi hI hn
  by_cases h:i=len
  ·subst h; exact done n s hI
  ·refine step n i s (by omega) hI fun s' hs'=>?_
   have:=ih (i+1) s' (by omega) hs' (by omega)
   simpa using this
theorem zr {σ ρ:Type} (L:Nat->Int->σ->Option ρ) (len:Nat) (Inv:Nat->σ->Prop) (G:Option ρ->Prop)
  (step:∀ n i s,i<len->Inv i s->(∀ s',Inv (i+1) s'->G (L n ((i:Int)+1) s'))->G (L (n+1) i s))
  (done:∀ n s,Inv len s->G (L (n+1) len s)) (n:Nat) (s:σ) (h:Inv 0 s) (hn:len<n):G (L n 0 s):=by
 simpa using yh3 L len Inv G step done n 0 s (Nat.zero_le _) h (by omega)
theorem ys4 (x:Int):W x=if x % 18446744073709551616 >= 9223372036854775808 then x % 18446744073709551616-18446744073709551616 else x % 18446744073709551616:=by
 simp [W,IntKind.wrap,IntKind.bits,IntKind.signed]
theorem yf5 (x:Int):U x=x % 18446744073709551616:=by
 simp [U,IntKind.wrap,IntKind.bits,IntKind.signed]
theorem W_id {x:Int} (h : -9223372036854775808<=x) (h':x<=9223372036854775807):W x=x:=by
 rw [ys4]; split <;> omega
theorem U_id {x:Int} (h:0<=x) (h':x<=18446744073709551615):U x=x:=by
 rw [yf5]; omega
theorem zpv {α:Type} [Inhabited α] (ok:α->Bool) (l:List α) (i:Nat) (h:i<l.length) :(l.take (i+1)).all ok =((l.take i).all ok&&ok (gt l (i:Int))):=by
 rw [List.take_succ_eq_append_getElem h,List.all_append]
 simp [gt,h]
theorem zic {α:Type} [Inhabited α] (ok:α->Bool) (l:List α) (i:Nat) (h:i<l.length) :(l.take (i+1)).any ok =((l.take i).any ok||ok (gt l (i:Int))):=by
 rw [List.take_succ_eq_append_getElem h,List.any_append]
 simp [gt,h]
theorem z0b {α:Type} [Inhabited α] (l:List α) (i:Nat) (h:i<l.length):l.take (i+1)=l.take i++[gt l (i:Int)]:=by
 rw [List.take_succ_eq_append_getElem h]
 simp [gt,h]
theorem z0p {α:Type} [Inhabited α] {l:List α} {i:Int} (h0:0<=i) (h:i <(l.length:Int)):gt l i∈l:=by
 have hlt:i.toNat<l.length:=by omega
 simp [gt,hlt]
theorem z23 {α:Type} [Inhabited α] {l:List α} {i:Nat} (h:i<l.length):gt l (i:Int)=l[i]:=by
 simp [gt,h]
theorem y1c {α:Type} [Inhabited α] (l:List α) (i:Nat) (h:i<l.length):l.drop i=gt l (i:Int)::l.drop (i+1):=by
 rw [z23 h,List.getElem_cons_drop]
theorem zon {α:Type} [Inhabited α] {l:List α} {x:α} (h:x∈l):∃ i:Nat,i<l.length/\gt l (i:Int)=x:=by
 obtain⟨i,hi,e⟩:=List.getElem_of_mem h
 exact⟨i,hi,by rw [z23 hi,e]⟩
theorem zy {α:Type} [Inhabited α] (l:List α) (i j:Int) (x:α) (hi:0<=i) (h:i <(l.length:Int)) (hj:0<=j):gt (zw l i x) j=if j=i then x else gt l j:=by
 unfold gt zw
 by_cases e:j=i
 ·subst e
  have:j.toNat<l.length:=by omega
  simp [List.getD,List.getElem?_set,this]
 ·have:i.toNat≠j.toNat:=by omega
  simp [List.getD,List.getElem?_set,this,e]
theorem z17 {α:Type} [Inhabited α] (n:Nat) (x:α) (j:Int) (hj:0<=j) (h:j<n):gt (List.replicate n x) j=x:=by
 have:j.toNat<n:=by omega
 simp [gt,List.getD,List.getElem?_replicate,this]
theorem zst {α ρ:Type} [Inhabited α] (L:Nat->Int->Int->Option ρ) (k:Int->Option ρ) (l:List α) (ok:α->Bool)
  (step:∀(n i:Nat) (s:Int),i<l.length->L (n+1) i s=L n ((i:Int)+1) (bif ok (gt l i) then s else 1)) (done:∀ n s,L (n+1) l.length s=k s) :
  ∀ n s,l.length<n->L n 0 s=k (bif l.all ok then s else 1):=by
 intro n s hn
 refine yh3 L l.length (fun i t=>t=bif (l.take i).all ok then s else 1) (fun o=>o=k (bif l.all ok then s else 1)) ?_ ?_ n 0 s (Nat.zero_le _) (by simp) (by omega)
 ·intro n i t hi ht hs
  rw [step n i t hi]
  refine hs _ ?_
  rw [zpv ok l i hi,ht]
  cases (l.take i).all ok <;> cases ok (gt l (i:Int)) <;> simp
 ·intro n t ht
  rw [done,ht,List.take_length]
theorem ydz {α ρ:Type} [Inhabited α] (L:Nat->Int->Option ρ) (k:Option ρ) (l:List α) (p:α->Bool) (g:α->Option ρ)
  (step:∀ n i:Nat,i<l.length->L (n+1) i=bif p (gt l i) then g (gt l i) else L n ((i:Int)+1)) (done:∀ n,L (n+1) l.length=k) :
  ∀ n,l.length<n->L n 0=match l.find? p with | some x=>g x | none=>k:=by
 intro n hn
 refine zr (fun n i (_:Unit)=>L n i) l.length (fun i _=>∀ x∈l.take i,p x=false) (fun o=>o=match l.find? p with | some x=>g x | none=>k) ?_ ?_ n () (by simp) hn
 ·intro n i _ hi hI hs
  simp only [step n i hi]
  cases e:p (gt l (i:Int)) with
  | false=>
   refine hs () ?_
   rw [z0b l i hi]
   intro x hx
   rcases List.mem_append.1 hx with h | h
   ·exact hI x h
   ·simp at h; rw [h]; exact e
  | true=>
   have:l.find? p=some (gt l (i:Int)):=by
    have h1:l=l.take i++(gt l (i:Int)::l.drop (i+1)):=by
     rw [z23 hi,List.getElem_cons_drop,List.take_append_drop]
    generalize gt l (i:Int)=y at *
    rw [h1,List.find?_append,List.find?_eq_none.2 (fun x hx=>by simp [hI x hx])]
    simp [List.find?_cons,e]
   rw [this]; rfl
 ·intro n _ hI
  simp only [done]
  rw [List.take_length] at hI
  rw [List.find?_eq_none.2 (fun x hx=>by simp [hI x hx])]
theorem yjq {α ρ:Type} (l:List α) (p:α->Bool) (r k:ρ) :(match l.find? p with | some _=>r | none=>k)=bif l.any p then r else k:=by
 induction l with
 | nil=>rfl
 | cons x l ih=>
  rw [List.find?_cons,List.any_cons]
  cases p x
  ·simpa using ih
  ·rfl
theorem z52 {α ρ:Type} [Inhabited α] (L:Nat->Int->Option ρ) (k r:Option ρ) (l:List α) (p:α->Bool)
  (step:∀ n i:Nat,i<l.length->L (n+1) i=bif p (gt l i) then r else L n ((i:Int)+1)) (done:∀ n,L (n+1) l.length=k)
  (n:Nat) (hn:l.length<n):L n 0=bif l.any p then r else k:=by
 rw [ydz L k l p (fun _=>r) step done n hn,yjq]
def bet (a b c:Int):Bool:=decide (b<=a)&&decide (a<=c)
theorem zgy {a b c:Int} : bet a b c=true↔b<=a/\a<=c:=by simp [bet]
theorem zt7 {a b c:Int} (h:bet a b c=true):b<=a/\a<=c:=zgy.1 h
theorem mk_t (n:Int) (b:Nat) (h0:0<=n) (h:n<=100000) (hb:b<=1000000):z0o n b:=by
 refine⟨h0,?_,by omega⟩
 have :(b:Int)*n<=1000000*100000:=Int.mul_le_mul (by omega) h h0 (by omega)
 omega
theorem zza {x y z:Int} : min2 x y<z↔x<z\/y<z:=by unfold min2; split <;> omega
theorem yoj {x y z:Int} : z<max2 x y↔z<x\/z<y:=by unfold max2; split <;> omega
end Px
end
section
namespace Px
open Go
theorem y9f {a b:Int} : cmpI a b<0↔a<b:=by unfold cmpI; (repeat' split) <;> omega
theorem y6f {a b:Int} : cmpI a b=0↔a=b:=by unfold cmpI; (repeat' split) <;> omega
theorem ypc {a b c d e:Int} : or5 a b c d e<0↔a<0\/(a=0/\(b<0\/(b=0/\(c<0\/(c=0/\(d<0\/(d=0/\e<0))))))):=by
 unfold or5
 by_cases h1:a=0
 ·by_cases h2:b=0
  ·by_cases h3:c=0
   ·by_cases h4:d=0
    ·simp [h1,h2,h3,h4]
    ·simp [h1,h2,h3,h4]
   ·simp [h1,h2,h3]
  ·simp [h1,h2]
 ·simp [h1]
theorem zgr {a b:z6} : cfEv a b<0↔a.visit.early<b.visit.early\/(a.visit.early=b.visit.early/\(a.visit.ref.railway<b.visit.ref.railway\/(a.visit.ref.railway=b.visit.ref.railway/\(a.visit.ref.no<b.visit.ref.no\/(a.visit.ref.no=b.visit.ref.no/\
  (ordB a.second<ordB b.second\/(ordB a.second=ordB b.second/\a.report<b.report))))))):=by
 unfold cfEv
 rw [ypc,y9f,y9f,y9f,y6f,y6f,y6f]
 have e1:∀ x y:Int,(x-y<0) =(x<y):=fun x y=>propext ⟨fun h=>by omega,fun h=>by omega⟩
 have e2:∀ x y:Int,(x-y=0) =(x=y):=fun x y=>propext ⟨fun h=>by omega,fun h=>by omega⟩
 rw [e1,e1,e2]
theorem yjy:Sort.SWO (Proofs.ltOf fun a b : {y:z6 // okEv y=true}=>cfEv a.1 b.1) where
 irrefl:=fun x=>by
  simp only [Proofs.ltOf,decide_eq_false_iff_not]
  rw [zgr]
  omega
 trans:=fun x y z h1 h2=>by
  simp only [Proofs.ltOf,decide_eq_true_eq] at *
  rw [zgr] at *
  omega
 ntrans:=fun x y z h1 h2=>by
  simp only [Proofs.ltOf,decide_eq_false_iff_not] at *
  rw [zgr] at *
  omega
theorem ybq (φ:Nat) (a b:Int):zao φ a b=some (cmpI a b,()):=by
 unfold zao cmpI
 simp only [bne_self_eq_false,Bool.false_eq_true,if_false,decide_eq_true_eq]
 split
 ·rfl
 ·split <;> rfl
theorem yi8 (φ:Nat) (b:Bool):zf1 φ b=some (ordB b,()):=by
 unfold zf1 ordB
 split <;> rfl
theorem ysg (φ:Nat) (h:6<=φ) (a b c d e:Int):yad φ [a,b,c,d,e]=some (or5 a b c d e,()):=by
 obtain⟨n,rfl⟩:∃ n,φ=n+6:=⟨φ-6,by omega⟩
 unfold yad or5
 simp only [zox,List.length_cons,List.length_nil]
 have w:∀ x:Int,0<=x->x<100->W (x+1)=x+1:=fun x h1 h2=>W_id (by omega) (by omega)
 have g0:gt [a,b,c,d,e] 0=a:=rfl
 have g1:gt [a,b,c,d,e] 1=b:=rfl
 have g2:gt [a,b,c,d,e] 2=c:=rfl
 have g3:gt [a,b,c,d,e] 3=d:=rfl
 have g4:gt [a,b,c,d,e] 4=e:=rfl
 rw [w 0 (by omega) (by omega),show (0:Int)+1=1 by rfl,w 1 (by omega) (by omega),show (1:Int)+1=2 by rfl,w 2 (by omega) (by omega),show (2:Int)+1=3 by rfl,w 3 (by omega) (by omega),show (3:Int)+1=4 by rfl,w 4 (by omega) (by omega),show (4:Int)+1=5 by rfl,g0,g1,g2,g3,g4]
 simp [ck]
 repeat' (split; try rfl)
 all_goals simp_all
theorem y2z (φ:Nat) (h:6<=φ) (a b:z6) (ha:okEv a=true) (hb:okEv b=true):zbd φ a b=some (cfEv a b,()):=by
 simp only [okEv,decide_eq_true_eq] at ha hb
 unfold zbd cfEv
 simp only [ybq,yi8,Option.bind_some]
 have w1:W (ordB a.second-ordB b.second)=ordB a.second-ordB b.second:=by
  have:∀ x:Bool,0<=ordB x/\ordB x<=1:=fun x=>by cases x <;> decide
  have h1:=this a.second
  have h2:=this b.second
  exact W_id (by omega) (by omega)
 rw [w1,W_id (by omega) (by omega),ysg φ h]
 rfl
theorem y8h (a b:z6) (ha:okEv a=true) (hb:okEv b=true):zbd 10 a b=some (cfEv a b,()):=y2z 10 (by omega) a b ha hb
end Px
end
section
set_option maxHeartbeats 4000000
set_option maxRecDepth 100000
namespace Px
open Go Go.RowKit Go.Proofs
def zdl (φ:Nat):H TV (RTup TT [.val 0]):=.x
def zhx (P:Program) (φ:Nat):Env TV:=⟨P,lk [],lk [],lk []⟩
theorem zzg (φ:Nat) (a) :(ziv φ).F a=fnX TV (zhx Tryz.prog φ) φ Tryz.f80 [0,0] [.val 0] (zdl φ) a:=by kernel_rfl
theorem zyd (φ:Nat):fnO TV (zhx Tryz.prog φ) φ Tryz.f80 [.val 0] (zdl φ):=by
 unfold fnO
 show obl _ _ _ _ _ _ _
 unfold zdl
 repeat' (first | exact trivial |(refine⟨?_,?_⟩) |(intro _) | kernel_rfl)
theorem zyf (φ:Nat):z02 TV Tryz.prog 80 (ziv φ):=
 z04 (N:=zhx Tryz.prog φ) (zm trivial trivial trivial) (zdl φ) Tryz.func80 (by kernel_rfl) (zzg φ) (zyd φ)
def y1q:Msp TV:=⟨3,0,[],zzw⟩
theorem yg7:yf9 TV Tryz.prog 89 y1q:=fun l l' sv h=>y5u (ρ:=Tryz.lays189_ren) Tryz.lays189 h
def zdm (φ:Nat):H TV (RTup TT [.val 0]):=.x
def ziy (P:Program) (φ:Nat):Env TV:=⟨P,lk [],lk [],lk []⟩
theorem zyo (φ:Nat) (a) :(zid φ).F a=fnX TV (ziy Tryz.prog φ) φ Tryz.f81 [2] [.val 0] (zdm φ) a:=by kernel_rfl
theorem zzo (φ:Nat):fnO TV (ziy Tryz.prog φ) φ Tryz.f81 [.val 0] (zdm φ):=by
 unfold fnO
 show obl _ _ _ _ _ _ _
 unfold zdm
 repeat' (first | exact trivial |(refine⟨?_,?_⟩) |(intro _) | kernel_rfl)
theorem y05 (φ:Nat):z02 TV Tryz.prog 81 (zid φ):=
 z04 (N:=ziy Tryz.prog φ) (zm trivial trivial trivial) (zdm φ) Tryz.func81 (by kernel_rfl) (zyo φ) (zzo φ)
def zsy (φ:Nat):H TV (RTup TT [.val 0]):=(.seq .x (.seq .x (.seq (.seq .x (.body (.loop ⟨[(18,[(3,.val 0),(6,.val 5),(7,.val 0),(8,.val 0)])],[]⟩ (fun n z=>zox φ n z.1 z.2.1 z.2.2.1 z.2.2.2.1) (fun zk6=>.x)))) .x)))
def zzm (P:Program) (φ:Nat):Env TV:=⟨P,lk [],lk [],lk []⟩
theorem yiq (φ:Nat) (a) :(y0s φ).F a=fnX TV (zzm Tryz.prog φ) φ Tryz.f79 [5] [.val 0] (zsy φ) a:=by kernel_rfl
theorem ykg (φ:Nat):fnO TV (zzm Tryz.prog φ) φ Tryz.f79 [.val 0] (zsy φ):=by
 unfold fnO
 show obl _ _ _ _ _ _ _
 unfold zsy
 repeat' (first | exact trivial |(refine⟨?_,?_⟩) |(intro _) | kernel_rfl)
theorem yjl (φ:Nat):z02 TV Tryz.prog 79 (y0s φ):=
 z04 (N:=zzm Tryz.prog φ) (zm trivial trivial trivial) (zsy φ) Tryz.func79 (by kernel_rfl) (yiq φ) (ykg φ)
def z84 (φ:Nat):H TV (RTup TT [.val 0]):=.x
def zco (P:Program) (φ:Nat):Env TV:=⟨P,lk [(80,ziv φ),(81,zid φ),(79,y0s φ)],lk [],lk []⟩
theorem zsl (φ:Nat) (a) :(zjy φ).F a=fnX TV (zco Tryz.prog φ) φ Tryz.f78 [4,4] [.val 0] (z84 φ) a:=by kernel_rfl
theorem zs0 (φ:Nat):fnO TV (zco Tryz.prog φ) φ Tryz.f78 [.val 0] (z84 φ):=by
 unfold fnO
 show obl _ _ _ _ _ _ _
 unfold z84
 repeat' (first | exact trivial |(refine⟨?_,?_⟩) |(intro _) | kernel_rfl)
theorem zsa (φ:Nat):z02 TV Tryz.prog 78 (zjy φ):=
 z04 (N:=zco Tryz.prog φ) (zm ⟨zyf φ,y05 φ,yjl φ,trivial⟩ trivial trivial) (z84 φ) Tryz.func78 (by kernel_rfl) (zsl φ) (zs0 φ)
def y9l:Msp TV:=⟨114,4,[78],sortEv⟩
theorem yjm:yf9 TV Tryz.prog 77 y9l:=
 ye0 (V:=TV) (c:=4) (ρ:=Tryz.sortEv_ren) Tryz.sortEv Tryz.isAgg114 (by rw [show TV.sz 4=11 by kernel_rfl]; exact Tryz.sizeOf114) (by kernel_rfl) (by kernel_rfl) ⟨Tryz.f78,Tryz.func78,by kernel_rfl,by kernel_rfl⟩ yjy fun a b ha hb=>
  (zsa 10 (a,b,()) (cfEv a b,()) (y8h a b ha hb)).mono fun x news ⟨B,hB,h1,h2⟩=>by
   cases B with
   | nil=>exact⟨h1,h2⟩
   | cons y B=>cases hB
def zfw (φ:Nat):H TV (RTup TT [.val 10]):=.x
def zkx (P:Program) (φ:Nat):Env TV:=⟨P,lk [],lk [],lk []⟩
theorem y6a (φ:Nat) (a) :(zl0 φ).F a=fnX TV (zkx Tryz.prog φ) φ Tryz.f31 [0,0,0,0] [.val 10] (zfw φ) a:=by kernel_rfl
theorem y4e (φ:Nat):fnO TV (zkx Tryz.prog φ) φ Tryz.f31 [.val 10] (zfw φ):=by
 unfold fnO
 show obl _ _ _ _ _ _ _
 unfold zfw
 repeat' (first | exact trivial |(refine⟨?_,?_⟩) |(intro _) | kernel_rfl)
theorem y3g (φ:Nat):z02 TV Tryz.prog 31 (zl0 φ):=
 z04 (N:=zkx Tryz.prog φ) (zm trivial trivial trivial) (zfw φ) Tryz.func31 (by kernel_rfl) (y6a φ) (y4e φ)
def zfs (φ:Nat):H TV (RTup TT [.val 10]):=.x
def zkl (P:Program) (φ:Nat):Env TV:=⟨P,lk [],lk [],lk []⟩
theorem y4w (φ:Nat) (a) :(zkn φ).F a=fnX TV (zkl Tryz.prog φ) φ Tryz.f32 [0,0,0] [.val 10] (zfs φ) a:=by kernel_rfl
theorem y2k (φ:Nat):fnO TV (zkl Tryz.prog φ) φ Tryz.f32 [.val 10] (zfs φ):=by
 unfold fnO
 show obl _ _ _ _ _ _ _
 unfold zfs
 repeat' (first | exact trivial |(refine⟨?_,?_⟩) |(intro _) | kernel_rfl)
theorem y5d (φ:Nat):z02 TV Tryz.prog 32 (zkn φ):=
 z04 (N:=zkl Tryz.prog φ) (zm trivial trivial trivial) (zfs φ) Tryz.func32 (by kernel_rfl) (y4w φ) (y2k φ)
def zg9 (φ:Nat):H TV (RTup TT [.val 35]):=.x
def zli (P:Program) (φ:Nat):Env TV:=⟨P,lk [],lk [],lk []⟩
theorem y5j (φ:Nat) (a) :(zc2 φ).F a=fnX TV (zli Tryz.prog φ) φ Tryz.f33 [] [.val 35] (zg9 φ) a:=by kernel_rfl
theorem y2p (φ:Nat):fnO TV (zli Tryz.prog φ) φ Tryz.f33 [.val 35] (zg9 φ):=by
 unfold fnO
 show obl _ _ _ _ _ _ _
 unfold zg9
 repeat' (first | exact trivial |(refine⟨?_,?_⟩) |(intro _) | kernel_rfl)
theorem zlk (φ:Nat):z02 TV Tryz.prog 33 (zc2 φ):=
 z04 (N:=zli Tryz.prog φ) (zm trivial trivial trivial) (zg9 φ) Tryz.func33 (by kernel_rfl) (y5j φ) (y2p φ)
def z9r (φ:Nat):H TV (RTup TT [.val 2]):=.x
def zf0 (P:Program) (φ:Nat):Env TV:=⟨P,lk [],lk [],lk []⟩
theorem zu3 (φ:Nat) (a) :(zeg φ).F a=fnX TV (zf0 Tryz.prog φ) φ Tryz.f85 [11] [.val 2] (z9r φ) a:=by kernel_rfl
theorem zu9 (φ:Nat):fnO TV (zf0 Tryz.prog φ) φ Tryz.f85 [.val 2] (z9r φ):=by
 unfold fnO
 show obl _ _ _ _ _ _ _
 unfold z9r
 repeat' (first | exact trivial |(refine⟨?_,?_⟩) |(intro _) | kernel_rfl)
theorem ztd (φ:Nat):z02 TV Tryz.prog 85 (zeg φ):=
 z04 (N:=zf0 Tryz.prog φ) (zm trivial trivial trivial) (z9r φ) Tryz.func85 (by kernel_rfl) (zu3 φ) (zu9 φ)
def z8x (φ:Nat):H TV (RTup TT [.val 0]):=(.seq .x (.seq .x (.seq .x (.seq (.seq .x (.body (.loop ⟨[(84,[(1,.ptr 0 0),(3,.val 0),(20,.val 12),(21,.val 0),(22,.val 0)])],[.box 25 [.val 15]]⟩ (fun n z=>z44 φ n z.1 z.2.1 z.2.2.1 z.2.2.2.1 z.2.2.2.2.1) (fun zk7=>.x)))) (.seq (.seq .x (.body (.loop ⟨[(84,[(3,.val 0),(31,.val 14),(32,.val 0),(33,.val 0)])],[]⟩ (fun n z=>z2i φ n z.1 z.2.1 z.2.2.1 z.2.2.2.1) (fun zk13=>.x)))) .x)))))
def zek (P:Program) (φ:Nat):Env TV:=⟨P,lk [(85,zeg φ)],lk [],lk []⟩
theorem zus (φ:Nat) (a) :(z9m φ).F a=fnX TV (zek Tryz.prog φ) φ Tryz.f54 [15] [.val 0] (z8x φ) a:=by kernel_rfl
theorem ztb (φ:Nat):fnO TV (zek Tryz.prog φ) φ Tryz.f54 [.val 0] (z8x φ):=by
 unfold fnO
 show obl _ _ _ _ _ _ _
 unfold z8x
 repeat' (first | exact trivial |(refine⟨?_,?_⟩) |(intro _) | kernel_rfl)
theorem zl6 (φ:Nat):z02 TV Tryz.prog 54 (z9m φ):=
 z04 (N:=zek Tryz.prog φ) (zm ⟨ztd φ,trivial⟩ trivial trivial) (z8x φ) Tryz.func54 (by kernel_rfl) (zus φ) (ztb φ)
def z9b (φ:Nat):H TV (RTup TT [.val 2]):=.x
def zfo (P:Program) (φ:Nat):Env TV:=⟨P,lk [],lk [],lk []⟩
theorem zt6 (φ:Nat) (a) :(z9e φ).F a=fnX TV (zfo Tryz.prog φ) φ Tryz.f56 [0,0,0] [.val 2] (z9b φ) a:=by kernel_rfl
theorem zv8 (φ:Nat):fnO TV (zfo Tryz.prog φ) φ Tryz.f56 [.val 2] (z9b φ):=by
 unfold fnO
 show obl _ _ _ _ _ _ _
 unfold z9b
 repeat' (first | exact trivial |(refine⟨?_,?_⟩) |(intro _) | kernel_rfl)
theorem zlw (φ:Nat):z02 TV Tryz.prog 56 (z9e φ):=
 z04 (N:=zfo Tryz.prog φ) (zm trivial trivial trivial) (z9b φ) Tryz.func56 (by kernel_rfl) (zt6 φ) (zv8 φ)
def zcs (φ:Nat):H TV (RTup TT [.val 0]):=(.seq .x (.seq .x (.seq .x (.seq .x (.seq (.seq .x (.body (.loop ⟨[(206,[(1,.ptr 0 0),(3,.ptr 1 0),(4,.func 86 [.ptr 1 0]),(41,.val 18),(42,.val 0),(43,.val 0)])],[.box 31 [.val 25],.box 41 [.val 0]]⟩ (fun n z=>z4p φ n z.1 z.2.1 z.2.2.1 z.2.2.2.1 z.2.2.2.2.1) (fun zk7=>(.seq .x (.seq .x (.seq (.body (.seq .x (.seq (.seq .x (.body (.loop ⟨[(206,[(1,.ptr 0 0),(3,.ptr 1 0),(4,.func 86 [.ptr 1 0]),(6,.ptr 2 0),(41,.val 18),(42,.val 0),(43,.val 0),(55,.own 3),(56,.val 0),(57,.val 0)])],[.box 31 [.val 25],.box 41 [.val 0],.box 153 [.val 17],.row 3 0]⟩ (fun n z=>z2t φ (fun a0 a1 a2 a3 a4=>zk7 (a0,a1,a2,a3,a4,())) n z.1 z.2.1 z.2.2.1 z.2.2.2.1 z.2.2.2.2.1 z.2.2.2.2.2.1 z.2.2.2.2.2.2.1 z.2.2.2.2.2.2.2.1 z.2.2.2.2.2.2.2.2.1) (fun zk17=>.x)))) .x))) .x))))))) (.seq (.seq .x (.body (.loop ⟨[(206,[(1,.ptr 0 0),(3,.ptr 1 0),(4,.func 86 [.ptr 1 0]),(83,.val 20),(84,.val 0),(85,.val 0)])],[.box 31 [.val 25],.box 41 [.val 0]]⟩ (fun n z=>z0r φ n z.1 z.2.1 z.2.2.1 z.2.2.2.1 z.2.2.2.2.1) (fun zk27=>.x)))) (.seq (.seq .x (.body (.loop ⟨[(206,[(1,.ptr 0 0),(3,.ptr 1 0),(4,.func 86 [.ptr 1 0]),(120,.val 22),(121,.val 0),(122,.val 0)])],[.box 31 [.val 25],.box 41 [.val 0]]⟩ (fun n z=>z1d φ n z.1 z.2.1 z.2.2.1 z.2.2.2.1 z.2.2.2.2.1) (fun zk40=>.x)))) (.seq .x (.seq (.seq .x (.body (.loop ⟨[(206,[(3,.ptr 0 0),(4,.func 86 [.ptr 0 0]),(13,.ptr 1 0),(158,.val 24),(159,.val 0),(160,.val 0)])],[.box 41 [.val 0],.box 179 [.val 36]]⟩ (fun n z=>z0a φ n z.1 z.2.1 z.2.2.1 z.2.2.2.1 z.2.2.2.2.1) (fun zk49=>.x)))) .x)))))))))
def zja (P:Program) (φ:Nat):Env TV:=⟨P,lk [(56,z9e φ)],lk [],lk []⟩
theorem zzq (φ:Nat) (a) :(zih φ).F a=fnX TV (zja Tryz.prog φ) φ Tryz.f55 [25] [.val 0] (zcs φ) a:=by kernel_rfl
theorem zxv (φ:Nat):fnO TV (zja Tryz.prog φ) φ Tryz.f55 [.val 0] (zcs φ):=by
 unfold fnO
 show obl _ _ _ _ _ _ _
 unfold zcs
 repeat' (first | exact trivial |(refine⟨?_,?_⟩) |(intro _) | kernel_rfl)
theorem zyh (φ:Nat):z02 TV Tryz.prog 55 (zih φ):=
 z04 (N:=zja Tryz.prog φ) (zm ⟨zlw φ,trivial⟩ trivial trivial) (zcs φ) Tryz.func55 (by kernel_rfl) (zzq φ) (zxv φ)
def z8a (φ:Nat):H TV (RTup TT [.val 0]):=(.seq .x (.seq (.seq .x (.body (.loop ⟨[(45,[(1,.ptr 0 0),(9,.val 31),(10,.val 0)])],[.box 139 [.val 32]]⟩ (fun n z=>z3l φ n z.1 z.2.1 z.2.2.1) (fun zk5=>.x)))) (.seq .x (.seq (.seq .x (.body (.loop ⟨[(45,[(5,.val 0),(30,.val 5),(31,.val 0),(32,.val 0)])],[]⟩ (fun n z=>z2w φ n z.1 z.2.1 z.2.2.1 z.2.2.2.1) (fun zk10=>.x)))) .x))))
def zce (P:Program) (φ:Nat):Env TV:=⟨P,lk [],lk [],lk []⟩
theorem zs1 (φ:Nat) (a) :(zcg φ).F a=fnX TV (zce Tryz.prog φ) φ Tryz.f57 [32] [.val 0] (z8a φ) a:=by kernel_rfl
theorem zsq (φ:Nat):fnO TV (zce Tryz.prog φ) φ Tryz.f57 [.val 0] (z8a φ):=by
 unfold fnO
 show obl _ _ _ _ _ _ _
 unfold z8a
 repeat' (first | exact trivial |(refine⟨?_,?_⟩) |(intro _) | kernel_rfl)
theorem zsh (φ:Nat):z02 TV Tryz.prog 57 (zcg φ):=
 z04 (N:=zce Tryz.prog φ) (zm trivial trivial trivial) (z8a φ) Tryz.func57 (by kernel_rfl) (zs1 φ) (zsq φ)
def zfr (φ:Nat):H TV (RTup TT [.val 16,.val 16]):=.x
def zkq (P:Program) (φ:Nat):Env TV:=⟨P,lk [],lk [],lk []⟩
theorem y3b (φ:Nat) (a) :(zg8 φ).F a=fnX TV (zkq Tryz.prog φ) φ Tryz.f141 [16,16] [.val 16,.val 16] (zfr φ) a:=by kernel_rfl
theorem y3n (φ:Nat):fnO TV (zkq Tryz.prog φ) φ Tryz.f141 [.val 16,.val 16] (zfr φ):=by
 unfold fnO
 show obl _ _ _ _ _ _ _
 unfold zfr
 repeat' (first | exact trivial |(refine⟨?_,?_⟩) |(intro _) | kernel_rfl)
theorem zrj (φ:Nat):z02 TV Tryz.prog 141 (zg8 φ):=
 z04 (N:=zkq Tryz.prog φ) (zm trivial trivial trivial) (zfr φ) Tryz.func141 (by kernel_rfl) (y3b φ) (y3n φ)
def z4h (φ:Nat):H TV (RTup TT [.val 0]):=(.seq .x (.seq (.ins 1 110 (.seq .x (.seq (.join ⟨[(25,[(0,.val 16),(2,.val 0)]),(6,[])],[]⟩ (fun z=>z24 φ z.1 z.2.1) (.seq .x .x)) (.seq (.join ⟨[(25,[(0,.val 16),(2,.val 0)]),(6,[])],[]⟩ (fun z=>z27 φ z.1 z.2.1) (.seq .x .x)) (.seq (.join ⟨[(25,[(0,.val 16),(2,.val 0)]),(6,[])],[]⟩ (fun z=>z1u φ z.1 z.2.1) (.seq .x .x)) .x)))) .x) .x))
def z6m (P:Program) (φ:Nat):Env TV:=⟨P,lk [],lk [],lk []⟩
theorem zkg (φ:Nat) (a) :(z6t φ).F a=fnX TV (z6m Tryz.prog φ) φ Tryz.f169 [16] [.val 0] (z4h φ) a:=by kernel_rfl
theorem zld (φ:Nat):fnO TV (z6m Tryz.prog φ) φ Tryz.f169 [.val 0] (z4h φ):=by
 unfold fnO
 show obl _ _ _ _ _ _ _
 unfold z4h
 repeat' (first | exact trivial |(refine⟨?_,?_⟩) |(intro _) | kernel_rfl)
theorem zle (φ:Nat):z02 TV Tryz.prog 169 (z6t φ):=
 z04 (N:=z6m Tryz.prog φ) (zm trivial trivial trivial) (z4h φ) Tryz.func169 (by kernel_rfl) (zkg φ) (zld φ)
def zfv (φ:Nat):H TV (RTup TT [.val 16,.val 16]):=(.seq .x (.seq .x (.seq .x (.seq .x (.seq .x (.seq .x (.seq .x (.seq .x (.seq .x (.seq .x (.seq .x (.seq .x (.seq .x (.seq .x (.seq (.join ⟨[(135,[(2,.val 16),(8,.val 16),(9,.val 16),(10,.val 16),(11,.val 16),(13,.val 16),(14,.val 16),(15,.val 16)])],[]⟩ (fun z=>z7y φ z.1 z.2.1 z.2.2.1 z.2.2.2.1 z.2.2.2.2.1 z.2.2.2.2.2.1 z.2.2.2.2.2.2.1 z.2.2.2.2.2.2.2.1) (.body (.loop ⟨[(135,[(2,.val 16),(8,.val 16),(9,.val 16),(10,.val 16),(11,.val 16),(13,.val 16),(14,.val 16),(15,.val 16),(16,.val 16)])],[]⟩ (fun n z=>z7s φ n z.1 z.2.1 z.2.2.1 z.2.2.2.1 z.2.2.2.2.1 z.2.2.2.2.2.1 z.2.2.2.2.2.2.1 z.2.2.2.2.2.2.2.1 z.2.2.2.2.2.2.2.2.1) (fun zk40=>.x)))) (.seq .x (.seq .x (.seq .x (.seq (.join ⟨[(135,[(2,.val 16),(8,.val 16),(14,.val 16),(15,.val 16),(17,.val 16),(18,.val 16)])],[]⟩ (fun z=>z7r φ z.1 z.2.1 z.2.2.1 z.2.2.2.1 z.2.2.2.2.1 z.2.2.2.2.2.1) (.body (.loop ⟨[(135,[(2,.val 16),(8,.val 16),(9,.val 16),(10,.val 16),(14,.val 16),(15,.val 16),(16,.val 16),(17,.val 16),(18,.val 16)])],[]⟩ (fun n z=>z80 φ n z.1 z.2.1 z.2.2.1 z.2.2.2.1 z.2.2.2.2.1 z.2.2.2.2.2.1 z.2.2.2.2.2.2.1 z.2.2.2.2.2.2.2.1 z.2.2.2.2.2.2.2.2.1) (fun zk30=>.x)))) .x)))))))))))))))))))
def zkc (P:Program) (φ:Nat):Env TV:=⟨P,lk [(169,z6t φ)],lk [],lk []⟩
theorem y3j (φ:Nat) (a) :(zkm φ).F a=fnX TV (zkc Tryz.prog φ) φ Tryz.f143 [16,16,16] [.val 16,.val 16] (zfv φ) a:=by kernel_rfl
theorem y2n (φ:Nat):fnO TV (zkc Tryz.prog φ) φ Tryz.f143 [.val 16,.val 16] (zfv φ):=by
 unfold fnO
 show obl _ _ _ _ _ _ _
 unfold zfv
 repeat' (first | exact trivial |(refine⟨?_,?_⟩) |(intro _) | kernel_rfl)
theorem y5m (φ:Nat):z02 TV Tryz.prog 143 (zkm φ):=
 z04 (N:=zkc Tryz.prog φ) (zm ⟨zle φ,trivial⟩ trivial trivial) (zfv φ) Tryz.func143 (by kernel_rfl) (y3j φ) (y2n φ)
def zm3 (φ:Nat):H TV (RTup TT [.val 16]):=(.seq .x (.seq .x (.seq .x (.seq (.seq (.ins 1 110 (.seq .x (.seq (.join ⟨[(25,[(0,.val 16),(2,.val 0)]),(33,[(0,.val 16),(1,.val 16),(5,.func 142 [.ptr 0 0]),(6,.val 16)])],[.box 134 [.val 16]]⟩ (fun z=>zfl φ z.1 z.2.1 z.2.2.1 z.2.2.2.1 z.2.2.2.2.1 z.2.2.2.2.2.1) (.seq .x .x)) (.seq (.join ⟨[(25,[(0,.val 16),(2,.val 0)]),(33,[(0,.val 16),(1,.val 16),(5,.func 142 [.ptr 0 0]),(6,.val 16)])],[.box 134 [.val 16]]⟩ (fun z=>zc1 φ z.1 z.2.1 z.2.2.1 z.2.2.2.1 z.2.2.2.2.1 z.2.2.2.2.2.1) (.seq .x .x)) (.seq (.join ⟨[(25,[(0,.val 16),(2,.val 0)]),(33,[(0,.val 16),(1,.val 16),(5,.func 142 [.ptr 0 0]),(6,.val 16)])],[.box 134 [.val 16]]⟩ (fun z=>zbw φ z.1 z.2.1 z.2.2.1 z.2.2.2.1 z.2.2.2.2.1 z.2.2.2.2.2.1) (.seq .x .x)) .x)))) .x) (.body (.loop ⟨[(33,[(0,.val 16),(1,.val 16),(5,.func 142 [.ptr 0 0]),(6,.val 16),(10,.val 0),(11,.val 0)])],[.box 134 [.val 16]]⟩ (fun n z=>z0w φ n z.1 z.2.1 z.2.2.1 z.2.2.2.1 z.2.2.2.2.1 z.2.2.2.2.2.1) (fun zk30=>(.seq .x (.seq .x (.seq (.body (.seq .x (.seq .x (.seq (.ins 2 110 (.seq .x (.seq (.join ⟨[(25,[(0,.val 16),(2,.val 0)]),(33,[(0,.val 16),(1,.val 16),(5,.func 142 [.ptr 0 0]),(6,.val 16),(7,.val 0),(10,.val 0),(11,.val 0),(18,.val 16)])],[.box 134 [.val 16]]⟩ (fun z=>z4f φ (fun a0 a1 a2 a3 a4 a5=>zk30 (a0,a1,a2,a3,a4,a5,())) z.1 z.2.1 z.2.2.1 z.2.2.2.1 z.2.2.2.2.1 z.2.2.2.2.2.1 z.2.2.2.2.2.2.1 z.2.2.2.2.2.2.2.1 z.2.2.2.2.2.2.2.2.1 z.2.2.2.2.2.2.2.2.2.1) (.seq .x .x)) (.seq (.join ⟨[(25,[(0,.val 16),(2,.val 0)]),(33,[(0,.val 16),(1,.val 16),(5,.func 142 [.ptr 0 0]),(6,.val 16),(7,.val 0),(10,.val 0),(11,.val 0),(18,.val 16)])],[.box 134 [.val 16]]⟩ (fun z=>zbn φ (fun a0 a1 a2 a3 a4 a5=>zk30 (a0,a1,a2,a3,a4,a5,())) z.1 z.2.1 z.2.2.1 z.2.2.2.1 z.2.2.2.2.1 z.2.2.2.2.2.1 z.2.2.2.2.2.2.1 z.2.2.2.2.2.2.2.1 z.2.2.2.2.2.2.2.2.1 z.2.2.2.2.2.2.2.2.2.1) (.seq .x .x)) (.seq (.join ⟨[(25,[(0,.val 16),(2,.val 0)]),(33,[(0,.val 16),(1,.val 16),(5,.func 142 [.ptr 0 0]),(6,.val 16),(7,.val 0),(10,.val 0),(11,.val 0),(18,.val 16)])],[.box 134 [.val 16]]⟩ (fun z=>zbo φ (fun a0 a1 a2 a3 a4 a5=>zk30 (a0,a1,a2,a3,a4,a5,())) z.1 z.2.1 z.2.2.1 z.2.2.2.1 z.2.2.2.2.1 z.2.2.2.2.2.1 z.2.2.2.2.2.2.1 z.2.2.2.2.2.2.2.1 z.2.2.2.2.2.2.2.2.1 z.2.2.2.2.2.2.2.2.2.1) (.seq .x .x)) .x)))) .x) .x)))) .x))))))) .x))))
def zqt (P:Program) (φ:Nat):Env TV:=⟨P,lk [(141,zg8 φ),(143,zkm φ)],lk [],lk []⟩
theorem ycq (φ:Nat) (a) :(zrf φ).F a=fnX TV (zqt Tryz.prog φ) φ Tryz.f87 [16,16] [.val 16] (zm3 φ) a:=by kernel_rfl
theorem yc0 (φ:Nat):fnO TV (zqt Tryz.prog φ) φ Tryz.f87 [.val 16] (zm3 φ):=by
 unfold fnO
 show obl _ _ _ _ _ _ _
 unfold zm3
 repeat' (first | exact trivial |(refine⟨?_,?_⟩) |(intro _) | kernel_rfl)
theorem yci (φ:Nat):z02 TV Tryz.prog 87 (zrf φ):=
 z04 (N:=zqt Tryz.prog φ) (zm ⟨zrj φ,y5m φ,trivial⟩ trivial trivial) (zm3 φ) Tryz.func87 (by kernel_rfl) (ycq φ) (yc0 φ)
def zgj (φ:Nat):H TV (RTup TT [.val 2]):=.x
def zls (P:Program) (φ:Nat):Env TV:=⟨P,lk [(87,zrf φ)],lk [],lk []⟩
theorem y4y (φ:Nat) (a) :(zlo φ).F a=fnX TV (zls Tryz.prog φ) φ Tryz.f58 [16] [.val 2] (zgj φ) a:=by kernel_rfl
theorem y5x (φ:Nat):fnO TV (zls Tryz.prog φ) φ Tryz.f58 [.val 2] (zgj φ):=by
 unfold fnO
 show obl _ _ _ _ _ _ _
 unfold zgj
 repeat' (first | exact trivial |(refine⟨?_,?_⟩) |(intro _) | kernel_rfl)
theorem y5w (φ:Nat):z02 TV Tryz.prog 58 (zlo φ):=
 z04 (N:=zls Tryz.prog φ) (zm ⟨yci φ,trivial⟩ trivial trivial) (zgj φ) Tryz.func58 (by kernel_rfl) (y4y φ) (y5x φ)
def z7b (φ:Nat):H TV (RTup TT [.val 0]):=(.seq .x (.seq .x (.seq .x (.seq .x (.seq .x (.seq .x (.seq (.seq .x (.body (.loop ⟨[(193,[(1,.ptr 0 0),(5,.val 12),(6,.val 0),(7,.val 2),(57,.val 27),(58,.val 0),(59,.val 0)])],[.box 36 [.val 35]]⟩ (fun n z=>z2f φ n z.1 z.2.1 z.2.2.1 z.2.2.2.1 z.2.2.2.2.1 z.2.2.2.2.2.1 z.2.2.2.2.2.2.1) (fun zk11=>.x)))) (.seq (.seq .x (.body (.loop ⟨[(193,[(1,.ptr 0 0),(5,.val 12),(6,.val 0),(7,.val 2),(92,.val 29),(93,.val 0),(94,.val 0)])],[.box 36 [.val 35]]⟩ (fun n z=>z1m φ n z.1 z.2.1 z.2.2.1 z.2.2.2.1 z.2.2.2.2.1 z.2.2.2.2.2.1 z.2.2.2.2.2.2.1) (fun zk20=>.x)))) (.seq (.seq .x (.body (.loop ⟨[(193,[(1,.ptr 0 0),(5,.val 12),(6,.val 0),(7,.val 2),(120,.val 20),(121,.val 0),(122,.val 0)])],[.box 36 [.val 35]]⟩ (fun n z=>z1j φ n z.1 z.2.1 z.2.2.1 z.2.2.2.1 z.2.2.2.2.1 z.2.2.2.2.2.1 z.2.2.2.2.2.2.1) (fun zk29=>.x)))) (.seq (.seq .x (.body (.loop ⟨[(193,[(1,.ptr 0 0),(6,.val 0),(7,.val 2),(135,.val 12),(136,.val 0),(137,.val 0)])],[.box 36 [.val 35]]⟩ (fun n z=>z1l φ n z.1 z.2.1 z.2.2.1 z.2.2.2.1 z.2.2.2.2.1 z.2.2.2.2.2.1) (fun zk36=>.x)))) (.seq (.seq .x (.body (.loop ⟨[(193,[(1,.ptr 0 0),(6,.val 0),(7,.val 2),(157,.val 14),(158,.val 0),(159,.val 0)])],[.box 36 [.val 35]]⟩ (fun n z=>z1i φ n z.1 z.2.1 z.2.2.1 z.2.2.2.1 z.2.2.2.2.1 z.2.2.2.2.2.1) (fun zk43=>.x)))) (.seq (.seq .x (.body (.loop ⟨[(193,[(7,.val 2),(172,.val 34),(173,.val 0),(174,.val 0)])],[]⟩ (fun n z=>z1k φ n z.1 z.2.1 z.2.2.1 z.2.2.2.1) (fun zk48=>.x)))) .x))))))))))))
def zaj (P:Program) (φ:Nat):Env TV:=⟨P,lk [(54,z9m φ),(55,zih φ),(56,z9e φ),(57,zcg φ),(58,zlo φ)],lk [],lk []⟩
theorem zre (φ:Nat) (a) :(z57 φ).F a=fnX TV (zaj Tryz.prog φ) φ Tryz.f27 [35] [.val 0] (z7b φ) a:=by kernel_rfl
theorem zqk (φ:Nat):fnO TV (zaj Tryz.prog φ) φ Tryz.f27 [.val 0] (z7b φ):=by
 unfold fnO
 show obl _ _ _ _ _ _ _
 unfold z7b
 repeat' (first | exact trivial |(refine⟨?_,?_⟩) |(intro _) | kernel_rfl)
theorem zat (φ:Nat):z02 TV Tryz.prog 27 (z57 φ):=
 z04 (N:=zaj Tryz.prog φ) (zm ⟨zl6 φ,zyh φ,zlw φ,zsh φ,y5w φ,trivial⟩ trivial trivial) (z7b φ) Tryz.func27 (by kernel_rfl) (zre φ) (zqk φ)
def z8q (φ:Nat):H TV (RTup TT [.val 2]):=.x
def zeu (P:Program) (φ:Nat):Env TV:=⟨P,lk [],lk [],lk []⟩
theorem ztc (φ:Nat) (a) :(zez φ).F a=fnX TV (zeu Tryz.prog φ) φ Tryz.f129 [9] [.val 2] (z8q φ) a:=by kernel_rfl
theorem zvc (φ:Nat):fnO TV (zeu Tryz.prog φ) φ Tryz.f129 [.val 2] (z8q φ):=by
 unfold fnO
 show obl _ _ _ _ _ _ _
 unfold z8q
 repeat' (first | exact trivial |(refine⟨?_,?_⟩) |(intro _) | kernel_rfl)
theorem zvj (φ:Nat):z02 TV Tryz.prog 129 (zez φ):=
 z04 (N:=zeu Tryz.prog φ) (zm trivial trivial trivial) (z8q φ) Tryz.func129 (by kernel_rfl) (ztc φ) (zvc φ)
def zjk (φ:Nat):H TV (RTup TT [.val 2]):=(.seq .x (.seq (.seq .x (.body (.loop ⟨[(43,[(0,.val 8),(1,.val 2),(7,.val 8),(8,.val 0),(9,.val 0)])],[]⟩ (fun n z=>z8m φ n z.1 z.2.1 z.2.2.1 z.2.2.2.1 z.2.2.2.2.1) (fun zk8=>.x)))) .x))
def znp (P:Program) (φ:Nat):Env TV:=⟨P,lk [],lk [],lk []⟩
theorem y7e (φ:Nat) (a) :(zo5 φ).F a=fnX TV (znp Tryz.prog φ) φ Tryz.f180 [8,2] [.val 2] (zjk φ) a:=by kernel_rfl
theorem y6c (φ:Nat):fnO TV (znp Tryz.prog φ) φ Tryz.f180 [.val 2] (zjk φ):=by
 unfold fnO
 show obl _ _ _ _ _ _ _
 unfold zjk
 repeat' (first | exact trivial |(refine⟨?_,?_⟩) |(intro _) | kernel_rfl)
theorem y7p (φ:Nat):z02 TV Tryz.prog 180 (zo5 φ):=
 z04 (N:=znp Tryz.prog φ) (zm trivial trivial trivial) (zjk φ) Tryz.func180 (by kernel_rfl) (y7e φ) (y6c φ)
def zgi (φ:Nat):H TV (RTup TT [.val 2]):=(.seq .x (.seq .x (.seq (.join ⟨[(46,[(5,.ptr 0 0)])],[.box 243 [.val 37]]⟩ (fun z=>zg φ z.1) (.seq .x (.cond (.ins 0 161 (.seq .x (.seq .x (.seq .x (.seq .x (.body (.seq .x (.cond .x (.seq .x (.cond (.seq (.ins 1 176 (.seq .x (.seq (.join ⟨[(66,[(0,.ptr 0 0),(1,.val 0),(4,.ptr 1 0)]),(135,[(0,.ptr 0 0)]),(46,[(5,.ptr 0 0)])],[.box 243 [.val 37],.box 129 [.val 11]]⟩ (fun z=>z5k φ z.1 z.2.1 z.2.2.1) (.seq .x .x)) .x)) .x) .x) (.seq (.join ⟨[(135,[(0,.ptr 0 0),(2,.ptr 0 9),(20,.val 0),(43,.val 2)]),(46,[(5,.ptr 0 0)])],[.box 243 [.val 37]]⟩ (fun z=>z4k φ z.1 z.2.1 z.2.2.1) (.seq .x .x)) (.cond (.seq (.ins 1 176 (.seq .x (.seq (.join ⟨[(66,[(0,.ptr 0 0),(1,.val 0),(4,.ptr 1 0)]),(135,[(0,.ptr 0 0),(2,.ptr 0 9)]),(46,[(5,.ptr 0 0)])],[.box 243 [.val 37],.box 129 [.val 11]]⟩ (fun z=>z4i φ z.1 z.2.1 z.2.2.1) (.seq .x .x)) .x)) .x) .x) (.seq .x (.cond (.seq .x (.seq .x (.seq (.ins 1 176 (.seq .x (.seq (.join ⟨[(66,[(0,.ptr 0 0),(1,.val 0),(4,.ptr 1 0)]),(135,[(0,.ptr 0 0),(2,.ptr 0 9)]),(46,[(5,.ptr 0 0)])],[.box 243 [.val 37],.box 129 [.val 11]]⟩ (fun z=>z4n φ z.1 z.2.1 z.2.2.1) (.seq .x .x)) .x)) .x) .x))) (.seq (.join ⟨[(135,[(0,.ptr 0 0),(2,.ptr 0 9),(116,.val 2)]),(46,[(5,.ptr 0 0)])],[.box 243 [.val 37]]⟩ (fun z=>z4o φ z.1 z.2.1) (.seq .x .x)) (.cond (.seq (.ins 1 176 (.seq .x (.seq (.join ⟨[(66,[(0,.ptr 0 0),(1,.val 0),(4,.ptr 1 0)]),(135,[(0,.ptr 0 0),(2,.ptr 0 9)]),(46,[(5,.ptr 0 0)])],[.box 243 [.val 37],.box 129 [.val 11]]⟩ (fun z=>z4r φ z.1 z.2.1 z.2.2.1) (.seq .x .x)) .x)) .x) .x) .x))))))))))))))) .x) (.ins 0 162 (.seq .x (.seq .x (.body (.seq .x (.cond .x (.seq .x (.cond (.seq .x (.seq (.ins 1 176 (.seq .x (.seq (.join ⟨[(66,[(0,.ptr 0 0),(1,.val 0),(4,.ptr 1 0)]),(168,[(0,.ptr 0 0),(2,.ptr 0 9)]),(46,[(5,.ptr 0 0)])],[.box 243 [.val 37],.box 129 [.val 11]]⟩ (fun z=>z4q φ z.1 z.2.1 z.2.2.1) (.seq .x .x)) .x)) .x) .x)) (.seq .x (.cond .x (.seq (.join ⟨[(168,[(0,.ptr 0 0),(2,.ptr 0 9),(9,.val 0),(91,.val 2)]),(46,[(5,.ptr 0 0)])],[.box 243 [.val 37]]⟩ (fun z=>z1t φ z.1 z.2.1 z.2.2.1) (.seq .x .x)) (.cond .x (.seq .x (.cond .x (.seq .x (.cond (.seq .x (.seq (.ins 1 176 (.seq .x (.seq (.join ⟨[(66,[(0,.ptr 0 0),(1,.val 0),(4,.ptr 1 0)]),(168,[(0,.ptr 0 0),(2,.ptr 0 9)]),(46,[(5,.ptr 0 0)])],[.box 243 [.val 37],.box 129 [.val 11]]⟩ (fun z=>z4t φ z.1 z.2.1 z.2.2.1) (.seq .x .x)) .x)) .x) .x)) .x))))))))))))))) .x)))) (.seq (.seq .x (.body (.unr 12 .x))) .x))))
def zk3 (P:Program) (φ:Nat):Env TV:=⟨P,lk [(180,zo5 φ)],lk [],lk []⟩
theorem y5p (φ:Nat) (a) :(zke φ).F a=fnX TV (zk3 Tryz.prog φ) φ Tryz.f130 [35,9] [.val 2] (zgi φ) a:=by kernel_rfl
theorem y5c (φ:Nat):fnO TV (zk3 Tryz.prog φ) φ Tryz.f130 [.val 2] (zgi φ):=by
 unfold fnO
 show obl _ _ _ _ _ _ _
 unfold zgi
 repeat' (first | exact trivial |(refine⟨?_,?_⟩) |(intro _) | kernel_rfl)
theorem y4z (φ:Nat):z02 TV Tryz.prog 130 (zke φ):=
 z04 (N:=zk3 Tryz.prog φ) (zm ⟨y7p φ,trivial⟩ trivial trivial) (zgi φ) Tryz.func130 (by kernel_rfl) (y5p φ) (y5c φ)
def zhu (φ:Nat):H TV (RTup TT [.val 0]):=.x
def znf (P:Program) (φ:Nat):Env TV:=⟨P,lk [(27,z57 φ),(129,zez φ),(130,zke φ)],lk [],lk []⟩
theorem y7s (φ:Nat) (a) :(zo1 φ).F a=fnX TV (znf Tryz.prog φ) φ Tryz.f103 [35,9] [.val 0] (zhu φ) a:=by kernel_rfl
theorem y8j (φ:Nat):fnO TV (znf Tryz.prog φ) φ Tryz.f103 [.val 0] (zhu φ):=by
 unfold fnO
 show obl _ _ _ _ _ _ _
 unfold zhu
 repeat' (first | exact trivial |(refine⟨?_,?_⟩) |(intro _) | kernel_rfl)
theorem y7d (φ:Nat):z02 TV Tryz.prog 103 (zo1 φ):=
 z04 (N:=znf Tryz.prog φ) (zm ⟨zat φ,zvj φ,y4z φ,trivial⟩ trivial trivial) (zhu φ) Tryz.func103 (by kernel_rfl) (y7s φ) (y8j φ)
def z8w (φ:Nat):H TV (RTup TT [.val 5]):=(.seq .x (.seq .x (.seq (.seq .x (.body (.loop ⟨[(26,[(2,.ptr 0 0),(5,.own 1),(8,.val 38),(9,.val 0),(10,.val 0)])],[.box 36 [.val 35],.row 3 0]⟩ (fun n z=>z34 φ n z.1 z.2.1 z.2.2.1 z.2.2.2.1 z.2.2.2.2.1) (fun zk8=>.x)))) .x)))
def zf9 (P:Program) (φ:Nat):Env TV:=⟨P,lk [(103,zo1 φ)],lk [],lk []⟩
theorem zun (φ:Nat) (a) :(zei φ).F a=fnX TV (zf9 Tryz.prog φ) φ Tryz.f75 [35,38] [.val 5] (z8w φ) a:=by kernel_rfl
theorem zuc (φ:Nat):fnO TV (zf9 Tryz.prog φ) φ Tryz.f75 [.val 5] (z8w φ):=by
 unfold fnO
 show obl _ _ _ _ _ _ _
 unfold z8w
 repeat' (first | exact trivial |(refine⟨?_,?_⟩) |(intro _) | kernel_rfl)
theorem zur (φ:Nat):z02 TV Tryz.prog 75 (zei φ):=
 z04 (N:=zf9 Tryz.prog φ) (zm ⟨y7d φ,trivial⟩ trivial trivial) (z8w φ) Tryz.func75 (by kernel_rfl) (zun φ) (zuc φ)
def z6k (φ:Nat):H TV (RTup TT [.val 4]):=.x
def z8y (P:Program) (φ:Nat):Env TV:=⟨P,lk [],lk [],lk []⟩
theorem zp6 (φ:Nat) (a b) :(z9h φ).F a b=fnXc TV (z8y Tryz.prog φ) φ Tryz.f104 [0,0] [9,10,0] [.val 4] (z6k φ) a b:=by kernel_rfl
theorem zoi (φ:Nat):fnO TV (z8y Tryz.prog φ) φ Tryz.f104 [.val 4] (z6k φ):=by
 unfold fnO
 show obl _ _ _ _ _ _ _
 unfold z6k
 repeat' (first | exact trivial |(refine⟨?_,?_⟩) |(intro _) | kernel_rfl)
theorem zph (φ:Nat):yc4 TV Tryz.prog 104 (z9h φ):=
 yhd (N:=z8y Tryz.prog φ) (zm trivial trivial trivial) (z6k φ) Tryz.func104 (by kernel_rfl) (zp6 φ) (zoi φ)
theorem zlc (φ:Nat) (x14:Item) (x15:zd) (x16:Int):z0z (z2y φ x14 x15 x16) (z8g φ x14 x15 x16):=by
 unfold z2y z8g
 repeat' (first | exact z0z.one | exact z0z.nil | refine z0z.cons ?_ ?_ | refine z0z.ck ?_ | exact z0z.same (n:=2) rfl | exact z0z.same (n:=3) rfl | exact z0z.same (n:=4) rfl | exact z0z.same (n:=6) rfl | refine z0z.bind fun _=>?_)
def z88 (φ:Nat):H TV (RTup TT [.val 39]):=(.seq .x (.seq .x (.seq .x (.seq (.seq .x (.body (.seq .x (.cond .x (.seq (.join ⟨[(68,[(7,.ptr 0 0),(8,.func 104 [.ptr 0 0,.ptr 1 0,.ptr 2 0]),(16,.val 0),(35,.val 2)])],[.box 81 [.val 9],.box 83 [.val 10],.box 3 [.val 0]]⟩ (fun z=>z0j φ z.1 z.2.1 z.2.2.1 z.2.2.2.1 z.2.2.2.2.1) (.seq .x .x)) (.cond (.seq (.join ⟨[(68,[(10,.ptr 0 0),(11,.ptr 1 0)])],[.box 114 [.val 4],.box 114 [.val 4]]⟩ (fun z=>z30 φ z.1 z.2.1) (.alt ⟨[(68,[(7,.ptr 0 0),(8,.func 104 [.ptr 0 0,.ptr 1 0,.ptr 2 0])])],[.box 81 [.val 9],.box 83 [.val 10],.box 3 [.val 0]]⟩ (fun z=>z2y φ z.1 z.2.1 z.2.2.1) (fun z=>z8g φ z.1 z.2.1 z.2.2.1))) .x) (.seq (.join ⟨[(68,[(7,.ptr 0 0),(8,.func 104 [.ptr 0 0,.ptr 1 0,.ptr 2 0]),(56,.val 2)])],[.box 81 [.val 9],.box 83 [.val 10],.box 3 [.val 0]]⟩ (fun z=>z0k φ z.1 z.2.1 z.2.2.1 z.2.2.2.1) (.seq .x .x)) .x))))))) .x))))
def zcm (P:Program) (φ:Nat):Env TV:=⟨P,lk [],lk [],lk [(104,z9h φ)]⟩
theorem zsp (φ:Nat) (a) :(zcj φ).F a=fnX TV (zcm Tryz.prog φ) φ Tryz.f76 [35,10,0] [.val 39] (z88 φ) a:=by kernel_rfl
theorem zs8 (φ:Nat):fnO TV (zcm Tryz.prog φ) φ Tryz.f76 [.val 39] (z88 φ):=by
 unfold fnO
 show obl _ _ _ _ _ _ _
 unfold z88
 repeat' (first | exact trivial |(refine⟨?_,?_⟩) |(intro _) | kernel_rfl | exact zlc ..)
theorem zsg (φ:Nat):z02 TV Tryz.prog 76 (zcj φ):=
 z04 (N:=zcm Tryz.prog φ) (zm trivial trivial ⟨zph φ,trivial⟩) (z88 φ) Tryz.func76 (by kernel_rfl) (zsp φ) (zs8 φ)
def zay (φ:Nat):H TV (RTup TT [.val 40]):=(.seq .x (.seq .x (.seq (.seq .x (.body (.loop ⟨[(63,[(1,.val 38),(2,.ptr 0 0),(5,.own 1),(19,.val 5),(20,.val 0),(21,.val 0)])],[.box 36 [.val 35],.nst 112 114 39 none]⟩ (fun n z=>z36 φ n z.1 z.2.1 z.2.2.1 z.2.2.2.1 z.2.2.2.2.1 z.2.2.2.2.2.1) (fun zk10=>(.seq .x (.seq .x (.seq (.body (.seq .x (.seq .x (.seq .x (.cond (.seq .x (.foc (5,none) (9,none) .x)) .x))))) .x))))))) (.seq (.seq .x (.body (.loop ⟨[(63,[(5,.own 0),(51,.own 0),(52,.val 0),(53,.val 0)])],[.nst 112 114 39 none]⟩ (fun n z=>z21 φ n z.1 z.2.1 z.2.2.1) (fun zk15=>(.seq .x (.seq .x (.seq (.body (.seq (.foc (5,none) (53,none) .x) (.seq .x (.ins 1 82 (.seq .x (.seq .x (.body (.loop ⟨[(48,[(0,.own 0),(2,.own 1),(6,.val 0),(7,.val 0)]),(63,[(5,.own 2),(51,.own 2),(52,.val 0),(53,.val 0)])],[.row 114 4,.map 0 2,.nst 112 114 39 (some 0)]⟩ (fun n z=>z1f φ (fun a0 a1 a2=>zk15 (a0,a1,a2,())) n z.1 z.2.1 z.2.2.1 z.2.2.2.1 z.2.2.2.2.1 z.2.2.2.2.2.1 z.2.2.2.2.2.2.1 z.2.2.2.2.2.2.2.1) (fun zk25=>(.seq .x (.seq .x (.seq (.body (.seq .x (.seq (.join ⟨[(48,[(0,.own 0),(2,.own 1),(3,.val 0),(6,.val 0),(7,.val 0)]),(63,[(5,.own 2),(51,.own 2),(52,.val 0),(53,.val 0)])],[.row 114 4,.map 0 2,.nst 112 114 39 (some 0)]⟩ (fun z=>z48 φ (fun a0 a1 a2 a3 a4 a5 a6 a7=>zk25 (a0,a1,a2,a3,a4,a5,a6,a7,())) z.1 z.2.1 z.2.2.1 z.2.2.2.1 z.2.2.2.2.1 z.2.2.2.2.2.1 z.2.2.2.2.2.2.1 z.2.2.2.2.2.2.2.1 z.2.2.2.2.2.2.2.2.1) (.seq .x .x)) .x))) .x)))))))) .x)))) .x))))))) .x))))
def zhb (P:Program) (φ:Nat):Env TV:=⟨P,lk [(75,zei φ),(76,zcj φ)],lk [(77,y9l)],lk []⟩
theorem zwe (φ:Nat) (a) :(zgq φ).F a=fnX TV (zhb Tryz.prog φ) φ Tryz.f49 [35,38] [.val 40] (zay φ) a:=by kernel_rfl
theorem zvw (φ:Nat):fnO TV (zhb Tryz.prog φ) φ Tryz.f49 [.val 40] (zay φ):=by
 unfold fnO
 show obl _ _ _ _ _ _ _
 unfold zay
 repeat' (first | exact trivial |(refine⟨?_,?_⟩) |(intro _) | kernel_rfl)
theorem zwz (φ:Nat):z02 TV Tryz.prog 49 (zgq φ):=
 z04 (N:=zhb Tryz.prog φ) (zm ⟨zur φ,zsg φ,trivial⟩ ⟨yjm,trivial⟩ trivial) (zay φ) Tryz.func49 (by kernel_rfl) (zwe φ) (zvw φ)
def z72 (φ:Nat):H TV (RTup TT [.val 0,.val 0]):=(.seq .x (.seq (.ins 4 59 (.seq .x (.seq .x (.seq (.seq .x (.body (.loop ⟨[(77,[(2,.ptr 0 0),(4,.ptr 1 0),(19,.own 2),(20,.val 0),(21,.val 0)]),(30,[(1,.val 0),(2,.val 0),(3,.ptr 3 0)])],[.box 25 [.val 15],.box 147 [.own 4,.raw (.map none)],.row 3 0,.box 25 [.val 15],.row 46 5]⟩ (fun n z=>z07 φ n z.1 z.2.1 z.2.2.1 z.2.2.2.1 z.2.2.2.2.1 z.2.2.2.2.2.1 z.2.2.2.2.2.2.1 z.2.2.2.2.2.2.2.1) (fun zk13=>.x)))) (.seq .x (.seq .x (.seq (.seq .x (.body (.loop ⟨[(77,[(4,.ptr 0 0),(8,.func 88 [.ptr 0 0,.ptr 1 0]),(44,.val 14),(45,.val 0),(46,.val 0)]),(30,[(1,.val 0),(2,.val 0),(3,.ptr 2 0)])],[.box 147 [.own 3,.own 4],.box 25 [.val 15],.box 25 [.val 15],.nst 46 3 5 none,.map 41 0]⟩ (fun n z=>z01 φ n z.1 z.2.1 z.2.2.1 z.2.2.2.1 z.2.2.2.2.1 z.2.2.2.2.2.1 z.2.2.2.2.2.2.1 z.2.2.2.2.2.2.2.1 z.2.2.2.2.2.2.2.2.1) (fun zk23=>(.seq .x (.seq .x (.seq (.body (.seq .x (.seq (.ins 6 88 (.seq .x (.seq .x (.seq (.join ⟨[(56,[(2,.val 0),(3,.ptr 0 0),(4,.ptr 1 0),(8,.ptr 2 0),(9,.val 0),(10,.val 2)]),(77,[(4,.ptr 0 0),(8,.func 88 [.ptr 0 0,.ptr 1 0]),(9,.val 0),(10,.ptr 3 0),(44,.val 14),(45,.val 0),(46,.val 0)]),(30,[(1,.val 0),(2,.val 0),(3,.ptr 4 0)])],[.box 147 [.own 5,.own 6],.box 25 [.val 15],.box 183 [.val 41],.box 133 [.val 13],.box 25 [.val 15],.nst 46 3 5 none,.map 41 0]⟩ (fun z=>z3o φ (fun a0 a1 a2 a3 a4 a5 a6 a7 a8=>zk23 (a0,a1,a2,a3,a4,a5,a6,a7,a8,())) z.1 z.2.1 z.2.2.1 z.2.2.2.1 z.2.2.2.2.1 z.2.2.2.2.2.1 z.2.2.2.2.2.2.1 z.2.2.2.2.2.2.2.1 z.2.2.2.2.2.2.2.2.1 z.2.2.2.2.2.2.2.2.2.1 z.2.2.2.2.2.2.2.2.2.2.1 z.2.2.2.2.2.2.2.2.2.2.2.1 z.2.2.2.2.2.2.2.2.2.2.2.2.1 z.2.2.2.2.2.2.2.2.2.2.2.2.2.1 z.2.2.2.2.2.2.2.2.2.2.2.2.2.2.1) (.seq .x (.cond (.foc (3,some 0) (0,none) .x) .x))) .x))) .x) (.ins 6 88 (.seq .x (.seq .x (.seq (.join ⟨[(56,[(2,.val 0),(3,.ptr 0 0),(4,.ptr 1 0),(8,.ptr 2 0),(9,.val 0),(10,.val 2)]),(77,[(4,.ptr 0 0),(8,.func 88 [.ptr 0 0,.ptr 1 0]),(44,.val 14),(45,.val 0),(46,.val 0)]),(30,[(1,.val 0),(2,.val 0),(3,.ptr 3 0)])],[.box 147 [.own 4,.own 5],.box 25 [.val 15],.box 183 [.val 41],.box 25 [.val 15],.nst 46 3 5 none,.map 41 0]⟩ (fun z=>z3s φ (fun a0 a1 a2 a3 a4 a5 a6 a7 a8=>zk23 (a0,a1,a2,a3,a4,a5,a6,a7,a8,())) z.1 z.2.1 z.2.2.1 z.2.2.2.1 z.2.2.2.2.1 z.2.2.2.2.2.1 z.2.2.2.2.2.2.1 z.2.2.2.2.2.2.2.1 z.2.2.2.2.2.2.2.2.1 z.2.2.2.2.2.2.2.2.2.1 z.2.2.2.2.2.2.2.2.2.2.1 z.2.2.2.2.2.2.2.2.2.2.2.1 z.2.2.2.2.2.2.2.2.2.2.2.2.1) (.seq .x (.cond (.foc (3,some 0) (0,none) .x) .x))) .x))) .x)))) .x))))))) (.seq (.seq .x (.body (.loop ⟨[(77,[(4,.ptr 0 0),(67,.own 1),(68,.val 0),(69,.val 0)]),(30,[(1,.val 0),(2,.val 0),(3,.ptr 2 0)])],[.box 147 [.own 1,.own 3],.nst 46 3 5 none,.box 25 [.val 15],.map 41 0]⟩ (fun n z=>z1h φ n z.1 z.2.1 z.2.2.1 z.2.2.2.1 z.2.2.2.2.1 z.2.2.2.2.2.1 z.2.2.2.2.2.2.1) (fun zk75=>(.seq .x (.seq .x (.seq (.body (.seq (.foc (67,none) (69,none) .x) .x)) .x))))))) .x))))))) .x) (.seq .x (.seq (.seq (.ins 3 60 (.seq .x (.seq .x (.seq .x (.seq (.seq .x (.body (.loop ⟨[(118,[(2,.val 0),(3,.ptr 0 0),(4,.ptr 1 0),(7,.own 2),(8,.own 3),(23,.val 0),(24,.val 0)]),(30,[(2,.val 0)])],[.box 25 [.val 15],.box 147 [.own 4,.own 5],.row 3 0,.row 4 2,.nst 46 3 5 none,.map 41 0]⟩ (fun n z=>z0f φ n z.1 z.2.1 z.2.2.1 z.2.2.2.1 z.2.2.2.2.1 z.2.2.2.2.2.1 z.2.2.2.2.2.2.1 z.2.2.2.2.2.2.2.1 z.2.2.2.2.2.2.2.2.1) (fun zk86=>.x)))) (.seq .x (.body (.loop ⟨[(118,[(3,.ptr 0 0),(4,.ptr 1 0),(7,.own 2),(8,.own 3)]),(30,[(2,.val 0)])],[.box 25 [.val 15],.box 147 [.own 4,.own 5],.row 3 0,.row 4 2,.nst 46 3 5 none,.map 41 0]⟩ (fun n z=>z06 φ n z.1 z.2.1 z.2.2.1 z.2.2.2.1 z.2.2.2.2.1 z.2.2.2.2.2.1) (fun zk93=>(.body (.seq .x (.seq (.seq .x (.body (.loop ⟨[(118,[(3,.ptr 0 0),(4,.ptr 1 0),(7,.own 2),(8,.own 3),(10,.val 0),(35,.val 0),(36,.val 0)]),(30,[(2,.val 0)])],[.box 25 [.val 15],.box 147 [.own 4,.own 5],.row 3 0,.row 4 2,.nst 46 3 5 none,.map 41 0]⟩ (fun n z=>z12 φ (fun a0 a1 a2 a3 a4 a5=>zk93 (a0,a1,a2,a3,a4,a5,())) n z.1 z.2.1 z.2.2.1 z.2.2.2.1 z.2.2.2.2.1 z.2.2.2.2.2.1 z.2.2.2.2.2.2.1 z.2.2.2.2.2.2.2.1 z.2.2.2.2.2.2.2.2.1) (fun zk103=>.x)))) (.seq .x (.seq .x (.seq (.foc (4,some 0) (10,none) .x) (.body (.loop ⟨[(118,[(3,.ptr 0 0),(4,.ptr 1 0),(7,.own 2),(8,.own 3),(10,.val 0),(78,.own 4),(79,.val 0),(80,.val 0)]),(30,[(2,.val 0)])],[.box 25 [.val 15],.box 147 [.own 5,.own 6],.row 3 0,.row 4 2,.row 3 0,.nst 46 3 5 (some 4),.map 41 0]⟩ (fun n z=>z15 φ (fun a0 a1 a2 a3 a4 a5=>zk93 (a0,a1,a2,a3,a4,a5,())) n z.1 z.2.1 z.2.2.1 z.2.2.2.1 z.2.2.2.2.1 z.2.2.2.2.2.1 z.2.2.2.2.2.2.1 z.2.2.2.2.2.2.2.1 z.2.2.2.2.2.2.2.2.1 z.2.2.2.2.2.2.2.2.2.1 z.2.2.2.2.2.2.2.2.2.2.1) (fun zk115=>.x))))))))))))))))) .x) .x) .x))))
def zag (P:Program) (φ:Nat):Env TV:=⟨P,lk [(54,z9m φ)],lk [(89,y1q)],lk []⟩
theorem zq7 (φ:Nat) (a) :(z5a φ).F a=fnX TV (zag Tryz.prog φ) φ Tryz.f28 [15,0,0] [.val 0,.val 0] (z72 φ) a:=by kernel_rfl
theorem zq3 (φ:Nat):fnO TV (zag Tryz.prog φ) φ Tryz.f28 [.val 0,.val 0] (z72 φ):=by
 unfold fnO
 show obl _ _ _ _ _ _ _
 unfold z72
 repeat' (first | exact trivial |(refine⟨?_,?_⟩) |(intro _) | kernel_rfl)
theorem za7 (φ:Nat):z02 TV Tryz.prog 28 (z5a φ):=
 z04 (N:=zag Tryz.prog φ) (zm ⟨zl6 φ,trivial⟩ ⟨yg7,trivial⟩ trivial) (z72 φ) Tryz.func28 (by kernel_rfl) (zq7 φ) (zq3 φ)
def zb6 (φ:Nat):H TV (RTup TT [.val 0]):=.x
def zha (P:Program) (φ:Nat):Env TV:=⟨P,lk [(28,z5a φ)],lk [],lk []⟩
theorem zvs (φ:Nat) (a) :(zh3 φ).F a=fnX TV (zha Tryz.prog φ) φ Tryz.f51 [15,3,3] [.val 0] (zb6 φ) a:=by kernel_rfl
theorem zw9 (φ:Nat):fnO TV (zha Tryz.prog φ) φ Tryz.f51 [.val 0] (zb6 φ):=by
 unfold fnO
 show obl _ _ _ _ _ _ _
 unfold zb6
 repeat' (first | exact trivial |(refine⟨?_,?_⟩) |(intro _) | kernel_rfl)
theorem zwt (φ:Nat):z02 TV Tryz.prog 51 (zh3 φ):=
 z04 (N:=zha Tryz.prog φ) (zm ⟨za7 φ,trivial⟩ trivial trivial) (zb6 φ) Tryz.func51 (by kernel_rfl) (zvs φ) (zw9 φ)
def zdd (φ:Nat):H TV (RTup TT [.val 48,.val 0]):=(.seq .x (.seq .x (.seq .x (.seq .x (.seq .x (.seq (.seq .x (.body (.loop ⟨[(257,[(2,.ptr 0 0),(4,.ptr 1 0),(7,.val 40),(8,.ptr 2 0),(9,.own 3),(40,.val 40),(41,.val 0),(42,.val 0)])],[.box 36 [.val 35],.box 56 [.val 0,.own 4,.own 5,.own 6],.box 110 [.val 0,.own 7,.own 8,.own 9],.map 0 0,.row 69 42,.row 118 44,.row 63 46,.row 69 42,.row 118 44,.row 63 46]⟩ (fun n z=>z2p φ n z.1 z.2.1 z.2.2.1 z.2.2.2.1 z.2.2.2.2.1 z.2.2.2.2.2.1 z.2.2.2.2.2.2.1 z.2.2.2.2.2.2.2.1 z.2.2.2.2.2.2.2.2.1 z.2.2.2.2.2.2.2.2.2.1 z.2.2.2.2.2.2.2.2.2.2.1 z.2.2.2.2.2.2.2.2.2.2.2.1 z.2.2.2.2.2.2.2.2.2.2.2.2.1 z.2.2.2.2.2.2.2.2.2.2.2.2.2.1) (fun zk19=>(.seq .x (.seq .x (.seq (.body (.seq .x (.seq .x (.body (.loop ⟨[(257,[(2,.ptr 0 0),(4,.ptr 1 0),(7,.val 40),(8,.ptr 2 0),(9,.own 3),(40,.val 40),(41,.val 0),(42,.val 0),(46,.val 39),(47,.val 0),(48,.val 0)])],[.box 36 [.val 35],.box 56 [.val 0,.own 4,.own 5,.own 6],.box 110 [.val 0,.own 7,.own 8,.own 9],.map 0 0,.row 69 42,.row 118 44,.row 63 46,.row 69 42,.row 118 44,.row 63 46]⟩ (fun n z=>z2l φ (fun a0 a1 a2 a3 a4 a5 a6 a7 a8 a9 a10 a11 a12 a13=>zk19 (a0,a1,a2,a3,a4,a5,a6,a7,a8,a9,a10,a11,a12,a13,())) n z.1 z.2.1 z.2.2.1 z.2.2.2.1 z.2.2.2.2.1 z.2.2.2.2.2.1 z.2.2.2.2.2.2.1 z.2.2.2.2.2.2.2.1 z.2.2.2.2.2.2.2.2.1 z.2.2.2.2.2.2.2.2.2.1 z.2.2.2.2.2.2.2.2.2.2.1 z.2.2.2.2.2.2.2.2.2.2.2.1 z.2.2.2.2.2.2.2.2.2.2.2.2.1 z.2.2.2.2.2.2.2.2.2.2.2.2.2.1 z.2.2.2.2.2.2.2.2.2.2.2.2.2.2.1 z.2.2.2.2.2.2.2.2.2.2.2.2.2.2.2.1 z.2.2.2.2.2.2.2.2.2.2.2.2.2.2.2.2.1) (fun zk37=>.x)))))) .x))))))) (.seq (.seq .x (.body (.loop ⟨[(257,[(2,.ptr 0 0),(4,.ptr 1 0),(7,.val 40),(8,.ptr 2 0),(9,.own 3),(61,.val 27),(62,.val 0),(63,.val 0)])],[.box 36 [.val 35],.box 56 [.val 0,.own 4,.own 5,.own 6],.box 110 [.val 0,.own 7,.own 8,.own 9],.map 0 0,.row 69 42,.row 118 44,.row 63 46,.row 69 42,.row 118 44,.row 63 46]⟩ (fun n z=>z1v φ n z.1 z.2.1 z.2.2.1 z.2.2.2.1 z.2.2.2.2.1 z.2.2.2.2.2.1 z.2.2.2.2.2.2.1 z.2.2.2.2.2.2.2.1 z.2.2.2.2.2.2.2.2.1 z.2.2.2.2.2.2.2.2.2.1 z.2.2.2.2.2.2.2.2.2.2.1 z.2.2.2.2.2.2.2.2.2.2.2.1 z.2.2.2.2.2.2.2.2.2.2.2.2.1 z.2.2.2.2.2.2.2.2.2.2.2.2.2.1) (fun zk52=>(.seq .x (.seq .x (.seq (.body (.seq .x (.seq .x (.seq .x (.cond (.seq .x (.seq (.ins 20 50 (.seq .x (.seq .x (.body (.loop ⟨[(39,[(0,.ptr 0 0),(4,.ptr 1 0),(8,.own 2),(9,.val 0),(10,.val 0)]),(257,[(2,.ptr 3 0),(4,.ptr 4 0),(7,.val 40),(8,.ptr 0 0),(9,.own 5),(61,.val 27),(62,.val 0),(63,.val 0),(82,.ptr 0 0),(83,.val 44),(84,.ptr 0 0),(85,.ptr 0 0),(86,.ptr 0 0),(87,.ptr 0 0),(88,.val 0),(89,.ptr 6 1),(90,.val 0),(91,.val 0),(92,.val 42),(93,.ptr 0 0),(94,.ptr 0 0),(95,.ptr 0 0),(96,.ptr 0 0),(97,.val 0),(98,.ptr 6 2),(99,.val 0),(100,.val 42),(101,.own 2)])],[.box 110 [.val 0,.own 7,.own 8,.own 9],.box 118 [.val 44],.row 69 42,.box 36 [.val 35],.box 56 [.val 0,.own 10,.own 11,.own 12],.map 0 0,.box 116 [.val 26],.row 69 42,.row 118 44,.row 63 46,.row 69 42,.row 118 44,.row 63 46]⟩ (fun n z=>z3u φ (fun a0 a1 a2 a3 a4 a5 a6 a7 a8 a9 a10 a11 a12 a13=>zk52 (a0,a1,a2,a3,a4,a5,a6,a7,a8,a9,a10,a11,a12,a13,())) n z.1 z.2.1 z.2.2.1 z.2.2.2.1 z.2.2.2.2.1 z.2.2.2.2.2.1 z.2.2.2.2.2.2.1 z.2.2.2.2.2.2.2.1 z.2.2.2.2.2.2.2.2.1 z.2.2.2.2.2.2.2.2.2.1 z.2.2.2.2.2.2.2.2.2.2.1 z.2.2.2.2.2.2.2.2.2.2.2.1 z.2.2.2.2.2.2.2.2.2.2.2.2.1 z.2.2.2.2.2.2.2.2.2.2.2.2.2.1 z.2.2.2.2.2.2.2.2.2.2.2.2.2.2.1 z.2.2.2.2.2.2.2.2.2.2.2.2.2.2.2.1 z.2.2.2.2.2.2.2.2.2.2.2.2.2.2.2.2.1 z.2.2.2.2.2.2.2.2.2.2.2.2.2.2.2.2.2.1 z.2.2.2.2.2.2.2.2.2.2.2.2.2.2.2.2.2.2.1 z.2.2.2.2.2.2.2.2.2.2.2.2.2.2.2.2.2.2.2.1 z.2.2.2.2.2.2.2.2.2.2.2.2.2.2.2.2.2.2.2.2.1 z.2.2.2.2.2.2.2.2.2.2.2.2.2.2.2.2.2.2.2.2.2.1 z.2.2.2.2.2.2.2.2.2.2.2.2.2.2.2.2.2.2.2.2.2.2.1 z.2.2.2.2.2.2.2.2.2.2.2.2.2.2.2.2.2.2.2.2.2.2.2.1 z.2.2.2.2.2.2.2.2.2.2.2.2.2.2.2.2.2.2.2.2.2.2.2.2.1 z.2.2.2.2.2.2.2.2.2.2.2.2.2.2.2.2.2.2.2.2.2.2.2.2.2.1 z.2.2.2.2.2.2.2.2.2.2.2.2.2.2.2.2.2.2.2.2.2.2.2.2.2.2.1) (fun zk80=>.x))))) .x) .x)) .x))))) .x))))))) (.seq (.seq .x (.body (.loop ⟨[(257,[(2,.ptr 0 0),(4,.ptr 1 0),(8,.ptr 2 0),(9,.own 3),(113,.val 40),(114,.val 0),(115,.val 0)])],[.box 36 [.val 35],.box 56 [.val 0,.own 4,.own 5,.own 6],.box 110 [.val 0,.own 7,.own 8,.own 9],.map 0 0,.row 69 42,.row 118 44,.row 63 46,.row 69 42,.row 118 44,.row 63 46]⟩ (fun n z=>z2o φ n z.1 z.2.1 z.2.2.1 z.2.2.2.1 z.2.2.2.2.1 z.2.2.2.2.2.1 z.2.2.2.2.2.2.1 z.2.2.2.2.2.2.2.1 z.2.2.2.2.2.2.2.2.1 z.2.2.2.2.2.2.2.2.2.1 z.2.2.2.2.2.2.2.2.2.2.1 z.2.2.2.2.2.2.2.2.2.2.2.1 z.2.2.2.2.2.2.2.2.2.2.2.2.1) (fun zk94=>(.seq .x (.seq .x (.seq (.body (.seq .x (.seq .x (.body (.loop ⟨[(257,[(2,.ptr 0 0),(4,.ptr 1 0),(8,.ptr 2 0),(9,.own 3),(19,.val 39),(113,.val 40),(114,.val 0),(115,.val 0),(119,.val 39),(120,.val 0),(121,.val 0)])],[.box 36 [.val 35],.box 56 [.val 0,.own 4,.own 5,.own 6],.box 110 [.val 0,.own 7,.own 8,.own 9],.map 0 0,.row 69 42,.row 118 44,.row 63 46,.row 69 42,.row 118 44,.row 63 46]⟩ (fun n z=>z0q φ (fun a0 a1 a2 a3 a4 a5 a6 a7 a8 a9 a10 a11 a12=>zk94 (a0,a1,a2,a3,a4,a5,a6,a7,a8,a9,a10,a11,a12,())) n z.1 z.2.1 z.2.2.1 z.2.2.2.1 z.2.2.2.2.1 z.2.2.2.2.2.1 z.2.2.2.2.2.2.1 z.2.2.2.2.2.2.2.1 z.2.2.2.2.2.2.2.2.1 z.2.2.2.2.2.2.2.2.2.1 z.2.2.2.2.2.2.2.2.2.2.1 z.2.2.2.2.2.2.2.2.2.2.2.1 z.2.2.2.2.2.2.2.2.2.2.2.2.1 z.2.2.2.2.2.2.2.2.2.2.2.2.2.1 z.2.2.2.2.2.2.2.2.2.2.2.2.2.2.1 z.2.2.2.2.2.2.2.2.2.2.2.2.2.2.2.1 z.2.2.2.2.2.2.2.2.2.2.2.2.2.2.2.2.1) (fun zk112=>(.seq .x (.seq .x (.seq (.body (.seq .x (.seq .x (.seq .x (.seq .x (.seq (.join ⟨[(257,[(2,.ptr 0 0),(4,.ptr 1 0),(8,.ptr 2 0),(9,.own 3),(19,.val 39),(20,.val 0),(21,.ptr 4 0),(22,.val 0),(113,.val 40),(114,.val 0),(115,.val 0),(119,.val 39),(120,.val 0),(121,.val 0)])],[.box 36 [.val 35],.box 56 [.val 0,.own 5,.own 6,.own 7],.box 110 [.val 0,.own 8,.own 9,.own 10],.map 0 0,.box 114 [.val 4],.row 69 42,.row 118 44,.row 63 46,.row 69 42,.row 118 44,.row 63 46]⟩ (fun z=>z1e φ (fun a0 a1 a2 a3 a4 a5 a6 a7 a8 a9 a10 a11 a12 a13 a14 a15 a16=>zk112 (a0,a1,a2,a3,a4,a5,a6,a7,a8,a9,a10,a11,a12,a13,a14,a15,a16,())) z.1 z.2.1 z.2.2.1 z.2.2.2.1 z.2.2.2.2.1 z.2.2.2.2.2.1 z.2.2.2.2.2.2.1 z.2.2.2.2.2.2.2.1 z.2.2.2.2.2.2.2.2.1 z.2.2.2.2.2.2.2.2.2.1 z.2.2.2.2.2.2.2.2.2.2.1 z.2.2.2.2.2.2.2.2.2.2.2.1 z.2.2.2.2.2.2.2.2.2.2.2.2.1 z.2.2.2.2.2.2.2.2.2.2.2.2.2.1 z.2.2.2.2.2.2.2.2.2.2.2.2.2.2.1 z.2.2.2.2.2.2.2.2.2.2.2.2.2.2.2.1 z.2.2.2.2.2.2.2.2.2.2.2.2.2.2.2.2.1 z.2.2.2.2.2.2.2.2.2.2.2.2.2.2.2.2.2.1 z.2.2.2.2.2.2.2.2.2.2.2.2.2.2.2.2.2.2.1 z.2.2.2.2.2.2.2.2.2.2.2.2.2.2.2.2.2.2.2.1) (.seq .x (.cond (.ins 10 50 (.seq .x (.seq .x (.body (.loop ⟨[(39,[(0,.ptr 0 0),(4,.ptr 1 0),(8,.own 2),(9,.val 0),(10,.val 0)]),(257,[(2,.ptr 3 0),(4,.ptr 4 0),(8,.ptr 0 0),(9,.own 5),(19,.val 39),(20,.val 0),(21,.ptr 6 0),(22,.val 0),(113,.val 40),(114,.val 0),(115,.val 0),(119,.val 39),(120,.val 0),(121,.val 0)])],[.box 110 [.val 0,.own 7,.own 8,.own 9],.box 118 [.val 44],.row 69 42,.box 36 [.val 35],.box 56 [.val 0,.own 10,.own 11,.own 12],.map 0 0,.box 114 [.val 4],.row 69 42,.row 118 44,.row 63 46,.row 69 42,.row 118 44,.row 63 46]⟩ (fun n z=>z32 φ (fun a0 a1 a2 a3 a4 a5 a6 a7 a8 a9 a10 a11 a12 a13 a14 a15 a16=>zk112 (a0,a1,a2,a3,a4,a5,a6,a7,a8,a9,a10,a11,a12,a13,a14,a15,a16,())) n z.1 z.2.1 z.2.2.1 z.2.2.2.1 z.2.2.2.2.1 z.2.2.2.2.2.1 z.2.2.2.2.2.2.1 z.2.2.2.2.2.2.2.1 z.2.2.2.2.2.2.2.2.1 z.2.2.2.2.2.2.2.2.2.1 z.2.2.2.2.2.2.2.2.2.2.1 z.2.2.2.2.2.2.2.2.2.2.2.1 z.2.2.2.2.2.2.2.2.2.2.2.2.1 z.2.2.2.2.2.2.2.2.2.2.2.2.2.1 z.2.2.2.2.2.2.2.2.2.2.2.2.2.2.1 z.2.2.2.2.2.2.2.2.2.2.2.2.2.2.2.1 z.2.2.2.2.2.2.2.2.2.2.2.2.2.2.2.2.1 z.2.2.2.2.2.2.2.2.2.2.2.2.2.2.2.2.2.1 z.2.2.2.2.2.2.2.2.2.2.2.2.2.2.2.2.2.2.1 z.2.2.2.2.2.2.2.2.2.2.2.2.2.2.2.2.2.2.2.1 z.2.2.2.2.2.2.2.2.2.2.2.2.2.2.2.2.2.2.2.2.1 z.2.2.2.2.2.2.2.2.2.2.2.2.2.2.2.2.2.2.2.2.2.1 z.2.2.2.2.2.2.2.2.2.2.2.2.2.2.2.2.2.2.2.2.2.2.1 z.2.2.2.2.2.2.2.2.2.2.2.2.2.2.2.2.2.2.2.2.2.2.2.1) (fun zk195=>.x))))) .x) (.seq .x (.ins 16 50 (.seq .x (.seq .x (.body (.loop ⟨[(39,[(0,.ptr 0 0),(4,.ptr 1 0),(8,.own 2),(9,.val 0),(10,.val 0)]),(257,[(2,.ptr 3 0),(4,.ptr 4 0),(8,.ptr 0 0),(9,.own 5),(19,.val 39),(20,.val 0),(21,.ptr 6 0),(22,.val 0),(113,.val 40),(114,.val 0),(115,.val 0),(119,.val 39),(120,.val 0),(121,.val 0)])],[.box 110 [.val 0,.own 7,.own 8,.own 9],.box 118 [.val 44],.row 69 42,.box 36 [.val 35],.box 56 [.val 0,.own 10,.own 11,.own 12],.map 0 0,.box 114 [.val 4],.row 69 42,.row 118 44,.row 63 46,.row 69 42,.row 118 44,.row 63 46]⟩ (fun n z=>z35 φ (fun a0 a1 a2 a3 a4 a5 a6 a7 a8 a9 a10 a11 a12 a13 a14 a15 a16=>zk112 (a0,a1,a2,a3,a4,a5,a6,a7,a8,a9,a10,a11,a12,a13,a14,a15,a16,())) n z.1 z.2.1 z.2.2.1 z.2.2.2.1 z.2.2.2.2.1 z.2.2.2.2.2.1 z.2.2.2.2.2.2.1 z.2.2.2.2.2.2.2.1 z.2.2.2.2.2.2.2.2.1 z.2.2.2.2.2.2.2.2.2.1 z.2.2.2.2.2.2.2.2.2.2.1 z.2.2.2.2.2.2.2.2.2.2.2.1 z.2.2.2.2.2.2.2.2.2.2.2.2.1 z.2.2.2.2.2.2.2.2.2.2.2.2.2.1 z.2.2.2.2.2.2.2.2.2.2.2.2.2.2.1 z.2.2.2.2.2.2.2.2.2.2.2.2.2.2.2.1 z.2.2.2.2.2.2.2.2.2.2.2.2.2.2.2.2.1 z.2.2.2.2.2.2.2.2.2.2.2.2.2.2.2.2.2.1 z.2.2.2.2.2.2.2.2.2.2.2.2.2.2.2.2.2.2.1 z.2.2.2.2.2.2.2.2.2.2.2.2.2.2.2.2.2.2.2.1 z.2.2.2.2.2.2.2.2.2.2.2.2.2.2.2.2.2.2.2.2.1 z.2.2.2.2.2.2.2.2.2.2.2.2.2.2.2.2.2.2.2.2.2.1 z.2.2.2.2.2.2.2.2.2.2.2.2.2.2.2.2.2.2.2.2.2.2.1 z.2.2.2.2.2.2.2.2.2.2.2.2.2.2.2.2.2.2.2.2.2.2.2.1) (fun zk220=>.x))))) .x))))) (.seq .x (.cond (.seq .x (.ins 19 50 (.seq .x (.seq .x (.body (.loop ⟨[(39,[(0,.ptr 0 0),(4,.ptr 1 0),(8,.own 2),(9,.val 0),(10,.val 0)]),(257,[(2,.ptr 3 0),(4,.ptr 4 0),(8,.ptr 0 0),(9,.own 5),(19,.val 39),(113,.val 40),(114,.val 0),(115,.val 0),(119,.val 39),(120,.val 0),(121,.val 0),(215,.ptr 0 0),(216,.ptr 6 2),(217,.val 1),(218,.ptr 7 0),(219,.ptr 7 2),(220,.val 1),(221,.val 44),(222,.val 0),(223,.val 0),(224,.val 0),(225,.ptr 3 0),(226,.val 15),(227,.val 3),(228,.ptr 7 0),(229,.val 3),(230,.val 0),(231,.val 0),(232,.val 42),(233,.own 2)])],[.box 110 [.val 0,.own 8,.own 9,.own 10],.box 118 [.val 44],.row 69 42,.box 36 [.val 35],.box 56 [.val 0,.own 11,.own 12,.own 13],.map 0 0,.box 65 [.val 3],.box 114 [.val 4],.row 69 42,.row 118 44,.row 63 46,.row 69 42,.row 118 44,.row 63 46]⟩ (fun n z=>z38 φ (fun a0 a1 a2 a3 a4 a5 a6 a7 a8 a9 a10 a11 a12 a13 a14 a15 a16=>zk112 (a0,a1,a2,a3,a4,a5,a6,a7,a8,a9,a10,a11,a12,a13,a14,a15,a16,())) n z.1 z.2.1 z.2.2.1 z.2.2.2.1 z.2.2.2.2.1 z.2.2.2.2.2.1 z.2.2.2.2.2.2.1 z.2.2.2.2.2.2.2.1 z.2.2.2.2.2.2.2.2.1 z.2.2.2.2.2.2.2.2.2.1 z.2.2.2.2.2.2.2.2.2.2.1 z.2.2.2.2.2.2.2.2.2.2.2.1 z.2.2.2.2.2.2.2.2.2.2.2.2.1 z.2.2.2.2.2.2.2.2.2.2.2.2.2.1 z.2.2.2.2.2.2.2.2.2.2.2.2.2.2.1 z.2.2.2.2.2.2.2.2.2.2.2.2.2.2.2.1 z.2.2.2.2.2.2.2.2.2.2.2.2.2.2.2.2.1 z.2.2.2.2.2.2.2.2.2.2.2.2.2.2.2.2.2.1 z.2.2.2.2.2.2.2.2.2.2.2.2.2.2.2.2.2.2.1 z.2.2.2.2.2.2.2.2.2.2.2.2.2.2.2.2.2.2.2.1 z.2.2.2.2.2.2.2.2.2.2.2.2.2.2.2.2.2.2.2.2.1 z.2.2.2.2.2.2.2.2.2.2.2.2.2.2.2.2.2.2.2.2.2.1 z.2.2.2.2.2.2.2.2.2.2.2.2.2.2.2.2.2.2.2.2.2.2.1 z.2.2.2.2.2.2.2.2.2.2.2.2.2.2.2.2.2.2.2.2.2.2.2.1 z.2.2.2.2.2.2.2.2.2.2.2.2.2.2.2.2.2.2.2.2.2.2.2.2.1 z.2.2.2.2.2.2.2.2.2.2.2.2.2.2.2.2.2.2.2.2.2.2.2.2.2.1 z.2.2.2.2.2.2.2.2.2.2.2.2.2.2.2.2.2.2.2.2.2.2.2.2.2.2.1 z.2.2.2.2.2.2.2.2.2.2.2.2.2.2.2.2.2.2.2.2.2.2.2.2.2.2.2.1 z.2.2.2.2.2.2.2.2.2.2.2.2.2.2.2.2.2.2.2.2.2.2.2.2.2.2.2.2.1 z.2.2.2.2.2.2.2.2.2.2.2.2.2.2.2.2.2.2.2.2.2.2.2.2.2.2.2.2.2.1 z.2.2.2.2.2.2.2.2.2.2.2.2.2.2.2.2.2.2.2.2.2.2.2.2.2.2.2.2.2.2.1 z.2.2.2.2.2.2.2.2.2.2.2.2.2.2.2.2.2.2.2.2.2.2.2.2.2.2.2.2.2.2.2.1 z.2.2.2.2.2.2.2.2.2.2.2.2.2.2.2.2.2.2.2.2.2.2.2.2.2.2.2.2.2.2.2.2.1 z.2.2.2.2.2.2.2.2.2.2.2.2.2.2.2.2.2.2.2.2.2.2.2.2.2.2.2.2.2.2.2.2.2.1 z.2.2.2.2.2.2.2.2.2.2.2.2.2.2.2.2.2.2.2.2.2.2.2.2.2.2.2.2.2.2.2.2.2.2.1) (fun zk170=>.x))))) .x)) .x)))))))) .x))))))))) .x))))))) .x))))))))
def zj0 (P:Program) (φ:Nat):Env TV:=⟨P,lk [(27,z57 φ),(49,zgq φ),(51,zh3 φ)],lk [],lk []⟩
theorem y08 (φ:Nat) (a) :(zd8 φ).F a=fnX TV (zj0 Tryz.prog φ) φ Tryz.f22 [35,38] [.val 48,.val 0] (zdd φ) a:=by kernel_rfl
theorem zzj (φ:Nat):fnO TV (zj0 Tryz.prog φ) φ Tryz.f22 [.val 48,.val 0] (zdd φ):=by
 unfold fnO
 show obl _ _ _ _ _ _ _
 unfold zdd
 repeat' (first | exact trivial |(refine⟨?_,?_⟩) |(intro _) | kernel_rfl)
theorem zpd (φ:Nat):z02 TV Tryz.prog 22 (zd8 φ):=
 z04 (N:=zj0 Tryz.prog φ) (zm ⟨zat φ,zwz φ,zwt φ,trivial⟩ trivial trivial) (zdd φ) Tryz.func22 (by kernel_rfl) (y08 φ) (zzj φ)
def zg0 (φ:Nat):H TV (RTup TT [.val 0]):=(.seq .x (.seq .x (.seq .x (.seq (.seq .x (.body (.loop ⟨[(48,[(0,.val 0),(16,.val 43),(17,.val 0),(18,.val 0)])],[]⟩ (fun n z=>z71 φ n z.1 z.2.1 z.2.2.1 z.2.2.2.1) (fun zk7=>.x)))) .x))))
def zla (P:Program) (φ:Nat):Env TV:=⟨P,lk [],lk [],lk []⟩
theorem y5z (φ:Nat) (a) :(zgk φ).F a=fnX TV (zla Tryz.prog φ) φ Tryz.f52 [0,43] [.val 0] (zg0 φ) a:=by kernel_rfl
theorem y3t (φ:Nat):fnO TV (zla Tryz.prog φ) φ Tryz.f52 [.val 0] (zg0 φ):=by
 unfold fnO
 show obl _ _ _ _ _ _ _
 unfold zg0
 repeat' (first | exact trivial |(refine⟨?_,?_⟩) |(intro _) | kernel_rfl)
theorem zrw (φ:Nat):z02 TV Tryz.prog 52 (zgk φ):=
 z04 (N:=zla Tryz.prog φ) (zm trivial trivial trivial) (zg0 φ) Tryz.func52 (by kernel_rfl) (y5z φ) (y3t φ)
end Px
end
section
set_option maxHeartbeats 4000000
set_option maxRecDepth 100000
namespace Px
open Go Go.RowKit Go.Proofs
def zg3 (φ:Nat):H TV (RTup TT [.val 50,.val 50]):=.x
def zl2 (P:Program) (φ:Nat):Env TV:=⟨P,lk [],lk [],lk []⟩
theorem y5b (φ:Nat) (a) :(zl8 φ).F a=fnX TV (zl2 Tryz.prog φ) φ Tryz.f140 [50,50] [.val 50,.val 50] (zg3 φ) a:=by kernel_rfl
theorem y3a (φ:Nat):fnO TV (zl2 Tryz.prog φ) φ Tryz.f140 [.val 50,.val 50] (zg3 φ):=by
 unfold fnO
 show obl _ _ _ _ _ _ _
 unfold zg3
 repeat' (first | exact trivial |(refine⟨?_,?_⟩) |(intro _) | kernel_rfl)
theorem y3m (φ:Nat):z02 TV Tryz.prog 140 (zl8 φ):=
 z04 (N:=zl2 Tryz.prog φ) (zm trivial trivial trivial) (zg3 φ) Tryz.func140 (by kernel_rfl) (y5b φ) (y3a φ)
def zmk (φ:Nat):H TV (RTup TT [.val 16,.val 16]):=.x
def zra (P:Program) (φ:Nat):Env TV:=⟨P,lk [(140,zl8 φ),(141,zg8 φ)],lk [],lk []⟩
theorem yc1 (φ:Nat) (a) :(zqg φ).F a=fnX TV (zra Tryz.prog φ) φ Tryz.f108 [16,16] [.val 16,.val 16] (zmk φ) a:=by kernel_rfl
theorem ycr (φ:Nat):fnO TV (zra Tryz.prog φ) φ Tryz.f108 [.val 16,.val 16] (zmk φ):=by
 unfold fnO
 show obl _ _ _ _ _ _ _
 unfold zmk
 repeat' (first | exact trivial |(refine⟨?_,?_⟩) |(intro _) | kernel_rfl)
theorem ycf (φ:Nat):z02 TV Tryz.prog 108 (zqg φ):=
 z04 (N:=zra Tryz.prog φ) (zm ⟨y3m φ,zrj φ,trivial⟩ trivial trivial) (zmk φ) Tryz.func108 (by kernel_rfl) (yc1 φ) (ycr φ)
def z9w (φ:Nat):H TV (RTup TT [.row 3 0]):=(.seq .x (.seq .x (.seq .x (.seq .x (.seq .x (.seq .x (.seq (.body (.loop ⟨[(48,[(7,.own 0),(8,.val 0)])],[.row 3 0]⟩ (fun n z=>z5u φ n z.1 z.2.1) (fun zk6=>.x))) .x)))))))
def zfa (P:Program) (φ:Nat):Env TV:=⟨P,lk [(108,zqg φ)],lk [],lk []⟩
theorem zve (φ:Nat) (a) :(zev φ).F a=fnX TV (zfa Tryz.prog φ) φ Tryz.f83 [5,0] [.row 3 0] (z9w φ) a:=by kernel_rfl
theorem zu1 (φ:Nat):fnO TV (zfa Tryz.prog φ) φ Tryz.f83 [.row 3 0] (z9w φ):=by
 unfold fnO
 show obl _ _ _ _ _ _ _
 unfold z9w
 repeat' (first | exact trivial |(refine⟨?_,?_⟩) |(intro _) | kernel_rfl)
theorem zv5 (φ:Nat):z02 TV Tryz.prog 83 (zev φ):=
 z04 (N:=zfa Tryz.prog φ) (zm ⟨ycf φ,trivial⟩ trivial trivial) (z9w φ) Tryz.func83 (by kernel_rfl) (zve φ) (zu1 φ)
theorem zpk (φ:Nat) (k24 :((List z8)->Int->Int->Int->(List z8)->Int->Int->(List Int)->(List Int)->Option ((List Int)×(List Int)×Int×Unit))) (x25:Int) (x26:Int) (x27 :(List z8)) (x28:Int) (x29:Int) (x30:Int) (x31:Int) (x32 :(List z8)) (x33:Int) (x34:Int) (x35:z8) (x36 :(List Int)) (x37 :(List Int)):z0z (z6q φ k24 x25 x26 x27 x28 x29 x30 x31 x32 x33 x34 x35 x36 x37) (zc6 φ k24 x25 x26 x27 x28 x29 x30 x31 x32 x33 x34 x35 x36 x37):=by
 unfold z6q zc6
 repeat' (first | exact z0z.one | exact z0z.nil | refine z0z.cons ?_ ?_ | refine z0z.ck ?_ | exact z0z.same (n:=2) rfl | exact z0z.same (n:=3) rfl | exact z0z.same (n:=4) rfl | exact z0z.same (n:=6) rfl | refine z0z.bind fun _=>?_)
theorem zpg (φ:Nat) (x39:Int) (x40 :(List Int)) (x41 :(List Int)):z0z (zfn φ x39 x40 x41) (zjx φ x39 x40 x41):=by
 unfold zfn zjx
 repeat' (first | exact z0z.one | exact z0z.nil | refine z0z.cons ?_ ?_ | refine z0z.ck ?_ | exact z0z.same (n:=2) rfl | exact z0z.same (n:=3) rfl | exact z0z.same (n:=4) rfl | exact z0z.same (n:=6) rfl | refine z0z.bind fun _=>?_)
theorem zot (φ:Nat) (x43:Int) (x44 :(List Int)) (x45 :(List Int)):z0z (z94 φ x43 x44 x45) (zcd φ x43 x44 x45):=by
 unfold z94 zcd
 repeat' (first | exact z0z.one | exact z0z.nil | refine z0z.cons ?_ ?_ | refine z0z.ck ?_ | exact z0z.same (n:=2) rfl | exact z0z.same (n:=3) rfl | exact z0z.same (n:=4) rfl | exact z0z.same (n:=6) rfl | refine z0z.bind fun _=>?_)
theorem zoz (φ:Nat) (x47:Int) (x48 :(List z8)) (x49 :(List Int)) (x50 :(List Int)):z0z (z6s φ x47 x48 x49 x50) (zc3 φ x47 x48 x49 x50):=by
 unfold z6s zc3
 constructor
 intro r h
 obtain⟨hp,h⟩:=zh1 h
 obtain⟨y,hy,hk⟩:=bind_some h
 exact⟨[some r,some r,some r],by simp [z7 hp,hy,catL,cat2]; exact hk,by simp⟩
def zcw (φ:Nat):H TV (RTup TT [.val 5,.val 5,.val 0]):=(.seq .x (.seq (.join ⟨[(19,[(0,.val 0),(1,.val 43),(4,.ptr 0 0),(5,.ptr 1 0)])],[.box 46 [.own 2],.box 46 [.own 3],.row 3 0,.row 3 0]⟩ (fun z=>z60 φ z.1 z.2.1 z.2.2.1 z.2.2.2.1) (.alt ⟨[(19,[(0,.val 0),(1,.val 43),(4,.ptr 0 0),(5,.ptr 1 0)])],[.box 46 [.own 2],.box 46 [.own 3],.row 3 0,.row 3 0]⟩ (fun z=>z6s φ z.1 z.2.1 z.2.2.1 z.2.2.2.1) (fun z=>zc3 φ z.1 z.2.1 z.2.2.1 z.2.2.2.1))) (.seq (.ins 3 72 (.seq .x (.body (.seq .x (.seq .x (.seq (.seq .x (.body (.loop ⟨[(30,[(1,.val 43),(2,.func 84 [.ptr 0 0,.ptr 1 0]),(7,.val 0),(10,.val 0),(11,.val 0)]),(19,[(4,.ptr 0 0),(5,.ptr 1 0)])],[.box 46 [.own 2],.box 46 [.own 3],.row 3 0,.row 3 0]⟩ (fun n z=>z59 φ n z.1 z.2.1 z.2.2.1 z.2.2.2.1 z.2.2.2.2.1 z.2.2.2.2.2.1) (fun zk14=>(.seq .x (.seq .x (.seq (.body (.seq .x (.seq (.seq .x (.body (.loop ⟨[(30,[(1,.val 43),(2,.func 84 [.ptr 0 0,.ptr 1 0]),(7,.val 0),(10,.val 0),(11,.val 0),(13,.val 43),(14,.val 0),(15,.val 0)]),(19,[(4,.ptr 0 0),(5,.ptr 1 0)])],[.box 46 [.own 2],.box 46 [.own 3],.row 3 0,.row 3 0]⟩ (fun n z=>z2m φ (fun a0 a1 a2 a3 a4 a5=>zk14 (a0,a1,a2,a3,a4,a5,())) n z.1 z.2.1 z.2.2.1 z.2.2.2.1 z.2.2.2.2.1 z.2.2.2.2.2.1 z.2.2.2.2.2.2.1 z.2.2.2.2.2.2.2.1 z.2.2.2.2.2.2.2.2.1) (fun zk24=>(.seq .x (.seq .x (.seq (.body (.seq .x (.seq (.ins 3 84 (.seq .x (.seq (.seq .x (.seq .x (.cond (.seq (.alt ⟨[(33,[(0,.val 0),(2,.ptr 0 0),(3,.ptr 1 0),(5,.ptr 2 0),(7,.val 0)]),(30,[(1,.val 43),(2,.func 84 [.ptr 0 0,.ptr 1 0]),(7,.val 0),(8,.val 0),(10,.val 0),(11,.val 0),(13,.val 43),(14,.val 0),(15,.val 0)]),(19,[(4,.ptr 0 0),(5,.ptr 1 0)])],[.box 46 [.own 3],.box 46 [.own 4],.box 69 [.val 42],.row 3 0,.row 3 0]⟩ (fun z=>z6q φ (fun a0 a1 a2 a3 a4 a5 a6 a7 a8=>zk24 (a0,a1,a2,a3,a4,a5,a6,a7,a8,())) z.1 z.2.1 z.2.2.1 z.2.2.2.1 z.2.2.2.2.1 z.2.2.2.2.2.1 z.2.2.2.2.2.2.1 z.2.2.2.2.2.2.2.1 z.2.2.2.2.2.2.2.2.1 z.2.2.2.2.2.2.2.2.2.1 z.2.2.2.2.2.2.2.2.2.2.1 z.2.2.2.2.2.2.2.2.2.2.2.1 z.2.2.2.2.2.2.2.2.2.2.2.2.1) (fun z=>zc6 φ (fun a0 a1 a2 a3 a4 a5 a6 a7 a8=>zk24 (a0,a1,a2,a3,a4,a5,a6,a7,a8,())) z.1 z.2.1 z.2.2.1 z.2.2.2.1 z.2.2.2.2.1 z.2.2.2.2.2.1 z.2.2.2.2.2.2.1 z.2.2.2.2.2.2.2.1 z.2.2.2.2.2.2.2.2.1 z.2.2.2.2.2.2.2.2.2.1 z.2.2.2.2.2.2.2.2.2.2.1 z.2.2.2.2.2.2.2.2.2.2.2.1 z.2.2.2.2.2.2.2.2.2.2.2.2.1)) .x) .x))) .x)) .x) .x))) .x))))))) .x))) .x))))))) .x))))) .x) (.seq (.alt ⟨[(19,[(4,.ptr 0 0),(5,.ptr 1 0),(6,.val 0)])],[.box 46 [.own 2],.box 46 [.own 3],.row 3 0,.row 3 0]⟩ (fun z=>z94 φ z.1 z.2.1 z.2.2.1) (fun z=>zcd φ z.1 z.2.1 z.2.2.1)) .x))))
def zjq (P:Program) (φ:Nat):Env TV:=⟨P,lk [(83,zev φ)],lk [],lk []⟩
theorem zzs (φ:Nat) (a) :(zda φ).F a=fnX TV (zjq Tryz.prog φ) φ Tryz.f53 [0,43] [.val 5,.val 5,.val 0] (zcw φ) a:=by kernel_rfl
theorem zy5 (φ:Nat):fnO TV (zjq Tryz.prog φ) φ Tryz.f53 [.val 5,.val 5,.val 0] (zcw φ):=by
 unfold fnO
 show obl _ _ _ _ _ _ _
 unfold zcw
 repeat' (first | exact trivial |(refine⟨?_,?_⟩) |(intro _) | kernel_rfl | exact zpk .. | exact zpg .. | exact zot .. | exact zoz ..)
theorem zoh (φ:Nat):z02 TV Tryz.prog 53 (zda φ):=
 z04 (N:=zjq Tryz.prog φ) (zm ⟨zv5 φ,trivial⟩ trivial trivial) (zcw φ) Tryz.func53 (by kernel_rfl) (zzs φ) (zy5 φ)
def zfu (φ:Nat):H TV (RTup TT [.val 5,.val 0]):=.x
def zlm (P:Program) (φ:Nat):Env TV:=⟨P,lk [(52,zgk φ),(53,zda φ)],lk [],lk []⟩
theorem y3q (φ:Nat) (a) :(zgb φ).F a=fnX TV (zlm Tryz.prog φ) φ Tryz.f23 [0,43] [.val 5,.val 0] (zfu φ) a:=by kernel_rfl
theorem y2v (φ:Nat):fnO TV (zlm Tryz.prog φ) φ Tryz.f23 [.val 5,.val 0] (zfu φ):=by
 unfold fnO
 show obl _ _ _ _ _ _ _
 unfold zfu
 repeat' (first | exact trivial |(refine⟨?_,?_⟩) |(intro _) | kernel_rfl)
theorem zri (φ:Nat):z02 TV Tryz.prog 23 (zgb φ):=
 z04 (N:=zlm Tryz.prog φ) (zm ⟨zrw φ,zoh φ,trivial⟩ trivial trivial) (zfu φ) Tryz.func23 (by kernel_rfl) (y3q φ) (y2v φ)
def z5i (φ:Nat):H TV (RTup TT [.val 5]):=(.seq .x (.seq .x (.seq (.seq .x (.body (.loop ⟨[(45,[(2,.ptr 0 0),(3,.ptr 1 0),(5,.ptr 2 0),(15,.val 0),(16,.val 0)])],[.box 56 [.val 48],.box 4 [.val 2],.box 46 [.own 3],.row 3 0]⟩ (fun n z=>z14 φ n z.1 z.2.1 z.2.2.1 z.2.2.2.1 z.2.2.2.2.1) (fun zk8=>.x)))) (.seq .x (.seq .x (.seq (.seq .x (.body (.loop ⟨[(45,[(2,.ptr 0 0),(5,.ptr 1 0),(7,.ptr 2 0),(8,.func 90 [.ptr 3 0,.ptr 1 0,.ptr 2 0]),(27,.val 0),(28,.val 0)])],[.box 56 [.val 48],.box 46 [.own 4],.box 4 [.val 2],.box 4 [.val 2],.row 3 0]⟩ (fun n z=>z1o φ n z.1 z.2.1 z.2.2.1 z.2.2.2.1 z.2.2.2.2.1 z.2.2.2.2.2.1) (fun zk15=>(.seq .x (.seq .x (.seq (.body (.seq .x (.seq .x (.seq .x (.body (.loop ⟨[(45,[(2,.ptr 0 0),(5,.ptr 1 0),(7,.ptr 2 0),(8,.func 90 [.ptr 3 0,.ptr 1 0,.ptr 2 0]),(27,.val 0),(28,.val 0),(33,.val 43),(34,.val 0),(35,.val 0)])],[.box 56 [.val 48],.box 46 [.own 4],.box 4 [.val 2],.box 4 [.val 2],.row 3 0]⟩ (fun n z=>z0c φ (fun a0 a1 a2 a3 a4 a5=>zk15 (a0,a1,a2,a3,a4,a5,())) n z.1 z.2.1 z.2.2.1 z.2.2.2.1 z.2.2.2.2.1 z.2.2.2.2.2.1 z.2.2.2.2.2.2.1 z.2.2.2.2.2.2.2.1 z.2.2.2.2.2.2.2.2.1) (fun zk25=>(.seq .x (.seq .x (.seq (.body (.seq .x (.ins 2 90 (.seq .x (.seq .x (.seq (.join ⟨[(43,[(2,.ptr 0 0),(3,.ptr 1 0),(4,.ptr 2 0),(5,.val 0),(6,.val 0)]),(45,[(2,.ptr 3 0),(5,.ptr 0 0),(7,.ptr 1 0),(8,.func 90 [.ptr 4 0,.ptr 0 0,.ptr 1 0]),(27,.val 0),(28,.val 0),(33,.val 43),(34,.val 0),(35,.val 0)])],[.box 46 [.own 5],.box 4 [.val 2],.box 69 [.val 42],.box 56 [.val 48],.box 4 [.val 2],.row 3 0]⟩ (fun z=>z2r φ (fun a0 a1 a2 a3 a4 a5 a6 a7 a8=>zk25 (a0,a1,a2,a3,a4,a5,a6,a7,a8,())) z.1 z.2.1 z.2.2.1 z.2.2.2.1 z.2.2.2.2.1 z.2.2.2.2.2.1 z.2.2.2.2.2.2.1 z.2.2.2.2.2.2.2.1 z.2.2.2.2.2.2.2.2.1 z.2.2.2.2.2.2.2.2.2.1 z.2.2.2.2.2.2.2.2.2.2.1 z.2.2.2.2.2.2.2.2.2.2.2.1) (.seq .x .x)) .x))) .x))) .x)))))))))) .x))))))) .x))))))
def z8e (P:Program) (φ:Nat):Env TV:=⟨P,lk [],lk [],lk []⟩
theorem zni (φ:Nat) (a) :(z5p φ).F a=fnX TV (z8e Tryz.prog φ) φ Tryz.f62 [48,2] [.val 5] (z5i φ) a:=by kernel_rfl
theorem zno (φ:Nat):fnO TV (z8e Tryz.prog φ) φ Tryz.f62 [.val 5] (z5i φ):=by
 unfold fnO
 show obl _ _ _ _ _ _ _
 unfold z5i
 repeat' (first | exact trivial |(refine⟨?_,?_⟩) |(intro _) | kernel_rfl)
theorem zfi (φ:Nat):z02 TV Tryz.prog 62 (z5p φ):=
 z04 (N:=z8e Tryz.prog φ) (zm trivial trivial trivial) (z5i φ) Tryz.func62 (by kernel_rfl) (zni φ) (zno φ)
def z9q (φ:Nat):H TV (RTup TT [.val 48,.val 51,.val 0]):=(.seq .x (.seq .x (.seq .x (.seq .x (.seq .x (.seq (.seq .x (.body (.loop ⟨[(72,[(4,.ptr 0 0),(5,.own 1),(9,.val 5),(10,.val 5),(40,.val 47),(41,.val 0),(42,.val 0)])],[.box 56 [.val 48],.row 65 3]⟩ (fun n z=>z2g φ n z.1 z.2.1 z.2.2.1 z.2.2.2.1 z.2.2.2.2.1 z.2.2.2.2.2.1 z.2.2.2.2.2.2.1) (fun zk14=>.x)))) .x))))))
def zfk (P:Program) (φ:Nat):Env TV:=⟨P,lk [(22,zd8 φ),(23,zgb φ),(62,z5p φ)],lk [],lk []⟩
theorem ztj (φ:Nat) (a) :(z93 φ).F a=fnX TV (zfk Tryz.prog φ) φ Tryz.f38 [35,38] [.val 48,.val 51,.val 0] (z9q φ) a:=by kernel_rfl
theorem zuj (φ:Nat):fnO TV (zfk Tryz.prog φ) φ Tryz.f38 [.val 48,.val 51,.val 0] (z9q φ):=by
 unfold fnO
 show obl _ _ _ _ _ _ _
 unfold z9q
 repeat' (first | exact trivial |(refine⟨?_,?_⟩) |(intro _) | kernel_rfl)
theorem zkd (φ:Nat):z02 TV Tryz.prog 38 (z93 φ):=
 z04 (N:=zfk Tryz.prog φ) (zm ⟨zpd φ,zri φ,zfi φ,trivial⟩ trivial trivial) (z9q φ) Tryz.func38 (by kernel_rfl) (ztj φ) (zuj φ)
def z8c (φ:Nat):H TV (RTup TT [.val 51,.val 0]):=.x
def zcc (P:Program) (φ:Nat):Env TV:=⟨P,lk [(38,z93 φ)],lk [],lk []⟩
theorem zsr (φ:Nat) (a) :(z8d φ).F a=fnX TV (zcc Tryz.prog φ) φ Tryz.f12 [35,38] [.val 51,.val 0] (z8c φ) a:=by kernel_rfl
theorem zsf (φ:Nat):fnO TV (zcc Tryz.prog φ) φ Tryz.f12 [.val 51,.val 0] (z8c φ):=by
 unfold fnO
 show obl _ _ _ _ _ _ _
 unfold z8c
 repeat' (first | exact trivial |(refine⟨?_,?_⟩) |(intro _) | kernel_rfl)
theorem zjt (φ:Nat):z02 TV Tryz.prog 12 (z8d φ):=
 z04 (N:=zcc Tryz.prog φ) (zm ⟨zkd φ,trivial⟩ trivial trivial) (z8c φ) Tryz.func12 (by kernel_rfl) (zsr φ) (zsf φ)
def z7g (φ:Nat):H TV (RTup TT [.val 51,.val 0]):=(.seq .x (.seq (.ins 2 12 (.seq .x (.seq (.ins 2 38 (.seq .x (.seq .x (.seq .x (.seq .x (.seq .x (.seq (.seq .x (.body (.loop ⟨[(72,[(4,.ptr 0 0),(5,.own 1),(9,.val 5),(10,.val 5),(40,.val 47),(41,.val 0),(42,.val 0)]),(15,[]),(30,[])],[.box 56 [.val 48],.row 65 3]⟩ (fun n z=>z1g φ n z.1 z.2.1 z.2.2.1 z.2.2.2.1 z.2.2.2.2.1 z.2.2.2.2.2.1 z.2.2.2.2.2.2.1) (fun zk24=>.x)))) .x)))))) .x) .x)) .x) (.seq (.seq .x (.body (.loop ⟨[(30,[(4,.own 0),(5,.val 0),(14,.val 0),(15,.val 0)])],[.row 65 3]⟩ (fun n z=>z2a φ n z.1 z.2.1 z.2.2.1 z.2.2.2.1) (fun zk29=>.x)))) .x)))
def zal (P:Program) (φ:Nat):Env TV:=⟨P,lk [(22,zd8 φ),(23,zgb φ),(62,z5p φ)],lk [],lk []⟩
theorem zr5 (φ:Nat) (a) :(z7a φ).F a=fnX TV (zal Tryz.prog φ) φ Tryz.f18 [35,38] [.val 51,.val 0] (z7g φ) a:=by kernel_rfl
theorem zqq (φ:Nat):fnO TV (zal Tryz.prog φ) φ Tryz.f18 [.val 51,.val 0] (z7g φ):=by
 unfold fnO
 show obl _ _ _ _ _ _ _
 unfold z7g
 repeat' (first | exact trivial |(refine⟨?_,?_⟩) |(intro _) | kernel_rfl)
theorem zhj (φ:Nat):z02 TV Tryz.prog 18 (z7a φ):=
 z04 (N:=zal Tryz.prog φ) (zm ⟨zpd φ,zri φ,zfi φ,trivial⟩ trivial trivial) (z7g φ) Tryz.func18 (by kernel_rfl) (zr5 φ) (zqq φ)
def z6b (φ:Nat):H TV (RTup TT [.val 2]):=(.seq .x (.seq .x (.seq (.seq .x (.body (.loop ⟨[(26,[(0,.val 51),(1,.val 51),(5,.val 0)])],[]⟩ (fun n z=>z2b φ n z.1 z.2.1 z.2.2.1) (fun zk6=>.x)))) .x)))
def z8v (P:Program) (φ:Nat):Env TV:=⟨P,lk [],lk [],lk []⟩
theorem zos (φ:Nat) (a) :(z6h φ).F a=fnX TV (z8v Tryz.prog φ) φ Tryz.f20 [51,51] [.val 2] (z6b φ) a:=by kernel_rfl
theorem zpt (φ:Nat):fnO TV (z8v Tryz.prog φ) φ Tryz.f20 [.val 2] (z6b φ):=by
 unfold fnO
 show obl _ _ _ _ _ _ _
 unfold z6b
 repeat' (first | exact trivial |(refine⟨?_,?_⟩) |(intro _) | kernel_rfl)
theorem zgf (φ:Nat):z02 TV Tryz.prog 20 (z6h φ):=
 z04 (N:=z8v Tryz.prog φ) (zm trivial trivial trivial) (z6b φ) Tryz.func20 (by kernel_rfl) (zos φ) (zpt φ)
def zd2 (φ:Nat):H TV (RTup TT [.val 48,.val 51,.val 0,.val 0,.val 0]):=(.seq .x (.seq .x (.seq .x (.seq .x (.seq (.body (.loop ⟨[(82,[(2,.val 0),(8,.ptr 0 0),(9,.val 51),(10,.val 0),(12,.val 0)])],[.box 56 [.val 48]]⟩ (fun n z=>z41 φ n z.1 z.2.1 z.2.2.1 z.2.2.2.1 z.2.2.2.2.1) (fun zk12=>.x))) (.seq (.seq .x (.body (.loop ⟨[(82,[(2,.val 0),(8,.ptr 0 0),(9,.val 51),(10,.val 0),(11,.val 0),(12,.val 0)])],[.box 56 [.val 48]]⟩ (fun n z=>z3y φ n z.1 z.2.1 z.2.2.1 z.2.2.2.1 z.2.2.2.2.1 z.2.2.2.2.2.1) (fun zk19=>.x)))) .x))))))
def zib (P:Program) (φ:Nat):Env TV:=⟨P,lk [(27,z57 φ),(38,z93 φ)],lk [],lk []⟩
theorem y1l (φ:Nat) (a) :(zdw φ).F a=fnX TV (zib Tryz.prog φ) φ Tryz.f42 [35,38,0,0] [.val 48,.val 51,.val 0,.val 0,.val 0] (zd2 φ) a:=by kernel_rfl
theorem zy8 (φ:Nat):fnO TV (zib Tryz.prog φ) φ Tryz.f42 [.val 48,.val 51,.val 0,.val 0,.val 0] (zd2 φ):=by
 unfold fnO
 show obl _ _ _ _ _ _ _
 unfold zd2
 repeat' (first | exact trivial |(refine⟨?_,?_⟩) |(intro _) | kernel_rfl)
theorem zo7 (φ:Nat):z02 TV Tryz.prog 42 (zdw φ):=
 z04 (N:=zib Tryz.prog φ) (zm ⟨zat φ,zkd φ,trivial⟩ trivial trivial) (zd2 φ) Tryz.func42 (by kernel_rfl) (y1l φ) (zy8 φ)
def z7e (φ:Nat):H TV (RTup TT [.val 0,.val 2,.val 0]):=(.seq .x (.seq .x (.seq .x (.seq (.seq .x (.body (.loop ⟨[(64,[(3,.val 0),(12,.val 51),(13,.val 0),(14,.val 0),(15,.val 0)])],[]⟩ (fun n z=>z0v φ n z.1 z.2.1 z.2.2.1 z.2.2.2.1 z.2.2.2.2.1) (fun zk11=>.x)))) .x))))
def zad (P:Program) (φ:Nat):Env TV:=⟨P,lk [(42,zdw φ)],lk [],lk []⟩
theorem zrb (φ:Nat) (a) :(z5e φ).F a=fnX TV (zad Tryz.prog φ) φ Tryz.f14 [35,38,0,0] [.val 0,.val 2,.val 0] (z7e φ) a:=by kernel_rfl
theorem zq4 (φ:Nat):fnO TV (zad Tryz.prog φ) φ Tryz.f14 [.val 0,.val 2,.val 0] (z7e φ):=by
 unfold fnO
 show obl _ _ _ _ _ _ _
 unfold z7e
 repeat' (first | exact trivial |(refine⟨?_,?_⟩) |(intro _) | kernel_rfl)
theorem zaq (φ:Nat):z02 TV Tryz.prog 14 (z5e φ):=
 z04 (N:=zad Tryz.prog φ) (zm ⟨zo7 φ,trivial⟩ trivial trivial) (z7e φ) Tryz.func14 (by kernel_rfl) (zrb φ) (zq4 φ)
def z9a (φ:Nat):H TV (RTup TT [.val 2]):=.x
def zes (P:Program) (φ:Nat):Env TV:=⟨P,lk [(33,zc2 φ),(14,z5e φ)],lk [],lk []⟩
theorem zu7 (φ:Nat) (a) :(zee φ).F a=fnX TV (zes Tryz.prog φ) φ Tryz.f34 [38,0] [.val 2] (z9a φ) a:=by kernel_rfl
theorem zto (φ:Nat):fnO TV (zes Tryz.prog φ) φ Tryz.f34 [.val 2] (z9a φ):=by
 unfold fnO
 show obl _ _ _ _ _ _ _
 unfold z9a
 repeat' (first | exact trivial |(refine⟨?_,?_⟩) |(intro _) | kernel_rfl)
theorem zv2 (φ:Nat):z02 TV Tryz.prog 34 (zee φ):=
 z04 (N:=zes Tryz.prog φ) (zm ⟨zlk φ,zaq φ,trivial⟩ trivial trivial) (z9a φ) Tryz.func34 (by kernel_rfl) (zu7 φ) (zto φ)
def z54 (φ:Nat):H TV (RTup TT [.val 0,.val 2]):=.x
def z7n (P:Program) (φ:Nat):Env TV:=⟨P,lk [(28,z5a φ)],lk [],lk []⟩
theorem zmn (φ:Nat) (a b) :(z7m φ).F a b=fnXc TV (z7n Tryz.prog φ) φ Tryz.f45 [0,0] [35,51,0] [.val 0,.val 2] (z54 φ) a b:=by kernel_rfl
theorem zmq (φ:Nat):fnO TV (z7n Tryz.prog φ) φ Tryz.f45 [.val 0,.val 2] (z54 φ):=by
 unfold fnO
 show obl _ _ _ _ _ _ _
 unfold z54
 repeat' (first | exact trivial |(refine⟨?_,?_⟩) |(intro _) | kernel_rfl)
theorem zmt (φ:Nat):yc4 TV Tryz.prog 45 (z7m φ):=
 yhd (N:=z7n Tryz.prog φ) (zm ⟨za7 φ,trivial⟩ trivial trivial) (z54 φ) Tryz.func45 (by kernel_rfl) (zmn φ) (zmq φ)
def z4z (φ:Nat):H TV (RTup TT [.val 0,.val 2]):=.x
def z7o (P:Program) (φ:Nat):Env TV:=⟨P,lk [(28,z5a φ)],lk [],lk []⟩
theorem zmw (φ:Nat) (a b) :(z7l φ).F a b=fnXc TV (z7o Tryz.prog φ) φ Tryz.f46 [0,0] [35,51,0] [.val 0,.val 2] (z4z φ) a b:=by kernel_rfl
theorem zmm (φ:Nat):fnO TV (z7o Tryz.prog φ) φ Tryz.f46 [.val 0,.val 2] (z4z φ):=by
 unfold fnO
 show obl _ _ _ _ _ _ _
 unfold z4z
 repeat' (first | exact trivial |(refine⟨?_,?_⟩) |(intro _) | kernel_rfl)
theorem zmr (φ:Nat):yc4 TV Tryz.prog 46 (z7l φ):=
 yhd (N:=z7o Tryz.prog φ) (zm ⟨za7 φ,trivial⟩ trivial trivial) (z4z φ) Tryz.func46 (by kernel_rfl) (zmw φ) (zmm φ)
theorem zqb (φ:Nat) (k32 :((List z8)->Int->Int->Int->(List z8)->Int->Int->Int->(List Bool)->(List Int)->Option (Int×Bool×Int×Unit))) (x33 :(List z8)) (x34:Int) (x35:Int) (x36:Int) (x37:Int) (x38 :(List z8)) (x39:Int) (x40:Int) (x41:Int) (x42:z8) (x43 :(List Bool)) (x44 :(List Int)):z0z (z83 φ k32 x33 x34 x35 x36 x37 x38 x39 x40 x41 x42 x43 x44) (ze7 φ k32 x33 x34 x35 x36 x37 x38 x39 x40 x41 x42 x43 x44):=by
 unfold z83 ze7
 repeat' (first | exact z0z.one | exact z0z.nil | refine z0z.cons ?_ ?_ | refine z0z.ck ?_ | exact z0z.same (n:=2) rfl | exact z0z.same (n:=3) rfl | exact z0z.same (n:=4) rfl | exact z0z.same (n:=6) rfl | refine z0z.bind fun _=>?_)
theorem zqc (φ:Nat) (x46:Int) (x47 :(List z8)) (x48:Int) (x49:Int):z0z (z82 φ x46 x47 x48 x49) (zeh φ x46 x47 x48 x49):=by
 unfold z82 zeh
 constructor
 intro r h
 obtain⟨hp,h⟩:=zh1 h
 obtain⟨hq,h⟩:=zh1 h
 refine⟨List.replicate 30 (some r),?_,fun a ha=>(List.mem_replicate.1 ha).2⟩
 simp only [z7 hp,z7 hq,h]
 rfl
def zge (φ:Nat):H TV (RTup TT [.val 0,.val 2,.val 0]):=(.seq .x (.seq .x (.seq .x (.seq .x (.seq (.join ⟨[(62,[(0,.val 0),(1,.val 43),(2,.val 0),(3,.val 0),(14,.ptr 0 0),(15,.ptr 1 0)])],[.box 46 [.own 2],.box 162 [.own 3],.row 3 0,.row 4 2]⟩ (fun z=>zj φ z.1 z.2.1 z.2.2.1 z.2.2.2.1 z.2.2.2.2.1 z.2.2.2.2.2.1) (.alt ⟨[(62,[(0,.val 0),(1,.val 43),(2,.val 0),(3,.val 0)])],[]⟩ (fun z=>z82 φ z.1 z.2.1 z.2.2.1 z.2.2.2.1) (fun z=>zeh φ z.1 z.2.1 z.2.2.1 z.2.2.2.1))) (.seq .x (.seq (.ins 3 72 (.seq .x (.body (.seq .x (.seq .x (.seq (.seq .x (.body (.loop ⟨[(30,[(1,.val 43),(2,.func 73 [.ptr 0 0,.ptr 1 0]),(7,.val 0),(10,.val 0),(11,.val 0)]),(62,[(3,.val 0),(14,.ptr 1 0),(15,.ptr 0 0)])],[.box 162 [.own 2],.box 46 [.own 3],.row 4 2,.row 3 0]⟩ (fun n z=>z63 φ n z.1 z.2.1 z.2.2.1 z.2.2.2.1 z.2.2.2.2.1 z.2.2.2.2.2.1 z.2.2.2.2.2.2.1) (fun zk21=>(.seq .x (.seq .x (.seq (.body (.seq .x (.seq (.seq .x (.body (.loop ⟨[(30,[(1,.val 43),(2,.func 73 [.ptr 0 0,.ptr 1 0]),(7,.val 0),(10,.val 0),(11,.val 0),(13,.val 43),(14,.val 0),(15,.val 0)]),(62,[(3,.val 0),(14,.ptr 1 0),(15,.ptr 0 0)])],[.box 162 [.own 2],.box 46 [.own 3],.row 4 2,.row 3 0]⟩ (fun n z=>z3h φ (fun a0 a1 a2 a3 a4 a5 a6=>zk21 (a0,a1,a2,a3,a4,a5,a6,())) n z.1 z.2.1 z.2.2.1 z.2.2.2.1 z.2.2.2.2.1 z.2.2.2.2.2.1 z.2.2.2.2.2.2.1 z.2.2.2.2.2.2.2.1 z.2.2.2.2.2.2.2.2.1 z.2.2.2.2.2.2.2.2.2.1) (fun zk32=>(.seq .x (.seq .x (.seq (.body (.seq .x (.seq (.ins 3 73 (.seq .x (.seq .x (.seq (.alt ⟨[(52,[(2,.ptr 0 0),(3,.ptr 1 0),(5,.ptr 2 0)]),(30,[(1,.val 43),(2,.func 73 [.ptr 0 0,.ptr 1 0]),(7,.val 0),(8,.val 0),(10,.val 0),(11,.val 0),(13,.val 43),(14,.val 0),(15,.val 0)]),(62,[(3,.val 0),(14,.ptr 1 0),(15,.ptr 0 0)])],[.box 162 [.own 3],.box 46 [.own 4],.box 69 [.val 42],.row 4 2,.row 3 0]⟩ (fun z=>z83 φ (fun a0 a1 a2 a3 a4 a5 a6 a7 a8 a9=>zk32 (a0,a1,a2,a3,a4,a5,a6,a7,a8,a9,())) z.1 z.2.1 z.2.2.1 z.2.2.2.1 z.2.2.2.2.1 z.2.2.2.2.2.1 z.2.2.2.2.2.2.1 z.2.2.2.2.2.2.2.1 z.2.2.2.2.2.2.2.2.1 z.2.2.2.2.2.2.2.2.2.1 z.2.2.2.2.2.2.2.2.2.2.1 z.2.2.2.2.2.2.2.2.2.2.2.1) (fun z=>ze7 φ (fun a0 a1 a2 a3 a4 a5 a6 a7 a8 a9=>zk32 (a0,a1,a2,a3,a4,a5,a6,a7,a8,a9,())) z.1 z.2.1 z.2.2.1 z.2.2.2.1 z.2.2.2.2.1 z.2.2.2.2.2.1 z.2.2.2.2.2.2.1 z.2.2.2.2.2.2.2.1 z.2.2.2.2.2.2.2.2.1 z.2.2.2.2.2.2.2.2.2.1 z.2.2.2.2.2.2.2.2.2.2.1 z.2.2.2.2.2.2.2.2.2.2.2.1)) .x))) .x) .x))) .x))))))) .x))) .x))))))) .x))))) .x) .x)))))))
def zl4 (P:Program) (φ:Nat):Env TV:=⟨P,lk [(52,zgk φ),(53,zda φ)],lk [],lk []⟩
theorem y3i (φ:Nat) (a) :(zlh φ).F a=fnX TV (zl4 Tryz.prog φ) φ Tryz.f47 [0,43,0,0] [.val 0,.val 2,.val 0] (zge φ) a:=by kernel_rfl
theorem y2h (φ:Nat):fnO TV (zl4 Tryz.prog φ) φ Tryz.f47 [.val 0,.val 2,.val 0] (zge φ):=by
 unfold fnO
 show obl _ _ _ _ _ _ _
 unfold zge
 repeat' (first | exact trivial |(refine⟨?_,?_⟩) |(intro _) | kernel_rfl | exact zqb .. | exact zqc ..)
theorem y3r (φ:Nat):z02 TV Tryz.prog 47 (zlh φ):=
 z04 (N:=zl4 Tryz.prog φ) (zm ⟨zrw φ,zoh φ,trivial⟩ trivial trivial) (zge φ) Tryz.func47 (by kernel_rfl) (y3i φ) (y2h φ)
def z6g (φ:Nat):H TV (RTup TT [.val 5,.val 0]):=(.seq .x (.body (.seq .x (.seq .x (.seq .x (.seq .x (.seq .x (.seq (.seq .x (.body (.loop ⟨[(161,[(8,.own 0),(10,.ptr 1 0),(11,.ptr 2 0),(12,.val 0),(13,.val 0),(14,.func 45 [.ptr 3 0,.ptr 2 0,.ptr 4 0]),(15,.func 46 [.ptr 3 0,.ptr 2 0,.ptr 4 0]),(48,.val 0),(49,.val 0)])],[.row 3 0,.box 56 [.val 48],.box 40 [.val 51],.box 36 [.val 35],.box 3 [.val 0]]⟩ (fun n z=>z09 φ n z.1 z.2.1 z.2.2.1 z.2.2.2.1 z.2.2.2.2.1 z.2.2.2.2.2.1 z.2.2.2.2.2.2.1 z.2.2.2.2.2.2.2.1 z.2.2.2.2.2.2.2.2.1) (fun zk15=>(.seq .x (.seq .x (.seq (.body (.seq .x (.seq .x (.seq .x (.seq .x (.seq .x (.body (.loop ⟨[(161,[(8,.own 0),(10,.ptr 1 0),(11,.ptr 2 0),(12,.val 0),(13,.val 0),(14,.func 45 [.ptr 3 0,.ptr 2 0,.ptr 4 0]),(15,.func 46 [.ptr 3 0,.ptr 2 0,.ptr 4 0]),(16,.val 0),(21,.val 0),(48,.val 0),(49,.val 0)])],[.row 3 0,.box 56 [.val 48],.box 40 [.val 51],.box 36 [.val 35],.box 3 [.val 0]]⟩ (fun n z=>z20 φ (fun a0 a1 a2 a3 a4 a5 a6 a7 a8=>zk15 (a0,a1,a2,a3,a4,a5,a6,a7,a8,())) n z.1 z.2.1 z.2.2.1 z.2.2.2.1 z.2.2.2.2.1 z.2.2.2.2.2.1 z.2.2.2.2.2.2.1 z.2.2.2.2.2.2.2.1 z.2.2.2.2.2.2.2.2.1 z.2.2.2.2.2.2.2.2.2.1 z.2.2.2.2.2.2.2.2.2.2.1) (fun zk29=>.x))))))))) .x))))))) .x))))))))
def z9o (P:Program) (φ:Nat):Env TV:=⟨P,lk [(42,zdw φ),(47,zlh φ)],lk [],lk [(45,z7m φ),(46,z7l φ)]⟩
theorem zp5 (φ:Nat) (a) :(z6l φ).F a=fnX TV (z9o Tryz.prog φ) φ Tryz.f16 [35,38,0,0] [.val 5,.val 0] (z6g φ) a:=by kernel_rfl
theorem zp2 (φ:Nat):fnO TV (z9o Tryz.prog φ) φ Tryz.f16 [.val 5,.val 0] (z6g φ):=by
 unfold fnO
 show obl _ _ _ _ _ _ _
 unfold z6g
 repeat' (first | exact trivial |(refine⟨?_,?_⟩) |(intro _) | kernel_rfl)
theorem zg5 (φ:Nat):z02 TV Tryz.prog 16 (z6l φ):=
 z04 (N:=z9o Tryz.prog φ) (zm ⟨zo7 φ,y3r φ,trivial⟩ trivial ⟨zmt φ,zmr φ,trivial⟩) (z6g φ) Tryz.func16 (by kernel_rfl) (zp5 φ) (zp2 φ)
def z87 (φ:Nat):H TV (RTup TT [.val 2]):=(.seq .x (.seq .x (.seq (.seq .x (.body (.loop ⟨[(26,[(0,.val 5),(1,.val 5),(5,.val 0)])],[]⟩ (fun n z=>z3n φ n z.1 z.2.1 z.2.2.1) (fun zk6=>.x)))) .x)))
def zck (P:Program) (φ:Nat):Env TV:=⟨P,lk [],lk [],lk []⟩
theorem zse (φ:Nat) (a) :(z85 φ).F a=fnX TV (zck Tryz.prog φ) φ Tryz.f21 [5,5] [.val 2] (z87 φ) a:=by kernel_rfl
theorem zs7 (φ:Nat):fnO TV (zck Tryz.prog φ) φ Tryz.f21 [.val 2] (z87 φ):=by
 unfold fnO
 show obl _ _ _ _ _ _ _
 unfold z87
 repeat' (first | exact trivial |(refine⟨?_,?_⟩) |(intro _) | kernel_rfl)
theorem zjv (φ:Nat):z02 TV Tryz.prog 21 (z85 φ):=
 z04 (N:=zck Tryz.prog φ) (zm trivial trivial trivial) (z87 φ) Tryz.func21 (by kernel_rfl) (zse φ) (zs7 φ)
def z86 (φ:Nat):H TV (RTup TT [.val 2]):=.x
def zci (P:Program) (φ:Nat):Env TV:=⟨P,lk [(33,zc2 φ),(16,z6l φ),(21,z85 φ)],lk [],lk []⟩
theorem zso (φ:Nat) (a) :(zch φ).F a=fnX TV (zci Tryz.prog φ) φ Tryz.f35 [38,0,5] [.val 2] (z86 φ) a:=by kernel_rfl
theorem zsk (φ:Nat):fnO TV (zci Tryz.prog φ) φ Tryz.f35 [.val 2] (z86 φ):=by
 unfold fnO
 show obl _ _ _ _ _ _ _
 unfold z86
 repeat' (first | exact trivial |(refine⟨?_,?_⟩) |(intro _) | kernel_rfl)
theorem zs4 (φ:Nat):z02 TV Tryz.prog 35 (zch φ):=
 z04 (N:=zci Tryz.prog φ) (zm ⟨zlk φ,zg5 φ,zjv φ,trivial⟩ trivial trivial) (z86 φ) Tryz.func35 (by kernel_rfl) (zso φ) (zsk φ)
def zga (φ:Nat):H TV (RTup TT [.val 2]):=.x
def zkp (P:Program) (φ:Nat):Env TV:=⟨P,lk [(31,zl0 φ),(32,zkn φ),(33,zc2 φ),(12,z8d φ),(18,z7a φ),(20,z6h φ),(34,zee φ),(35,zch φ),(14,z5e φ)],lk [],lk []⟩
theorem y4s (φ:Nat) (a) :(zkf φ).F a=fnX TV (zkp Tryz.prog φ) φ Tryz.f10 [] [.val 2] (zga φ) a:=by kernel_rfl
theorem y2c (φ:Nat):fnO TV (zkp Tryz.prog φ) φ Tryz.f10 [.val 2] (zga φ):=by
 unfold fnO
 show obl _ _ _ _ _ _ _
 unfold zga
 repeat' (first | exact trivial |(refine⟨?_,?_⟩) |(intro _) | kernel_rfl)
theorem y2x (φ:Nat):z02 TV Tryz.prog 10 (zkf φ):=
 z04 (N:=zkp Tryz.prog φ) (zm ⟨y3g φ,y5d φ,zlk φ,zjt φ,zhj φ,zgf φ,zv2 φ,zs4 φ,zaq φ,trivial⟩ trivial trivial) (zga φ) Tryz.func10 (by kernel_rfl) (y4s φ) (y2c φ)
def z7f (φ:Nat):H TV (RTup TT [.val 2]):=(.seq .x (.seq .x (.seq (.seq .x (.body (.loop ⟨[(65,[(1,.ptr 0 0),(3,.val 0)])],[.box 36 [.val 35]]⟩ (fun n z=>z1w φ n z.1 z.2.1) (fun zk4=>.x)))) .x)))
def zas (P:Program) (φ:Nat):Env TV:=⟨P,lk [],lk [],lk []⟩
theorem zpx (φ:Nat) (a) :(za4 φ).F a=fnX TV (zas Tryz.prog φ) φ Tryz.f36 [35] [.val 2] (z7f φ) a:=by kernel_rfl
theorem zqj (φ:Nat):fnO TV (zas Tryz.prog φ) φ Tryz.f36 [.val 2] (z7f φ):=by
 unfold fnO
 show obl _ _ _ _ _ _ _
 unfold z7f
 repeat' (first | exact trivial |(refine⟨?_,?_⟩) |(intro _) | kernel_rfl)
theorem zr9 (φ:Nat):z02 TV Tryz.prog 36 (za4 φ):=
 z04 (N:=zas Tryz.prog φ) (zm trivial trivial trivial) (z7f φ) Tryz.func36 (by kernel_rfl) (zpx φ) (zqj φ)
def z6d (φ:Nat):H TV (RTup TT [.val 2]):=(.seq .x (.seq .x (.seq (.seq .x (.body (.loop ⟨[(34,[(0,.val 38),(5,.val 0)])],[]⟩ (fun n z=>z2c φ n z.1 z.2.1) (fun zk5=>.x)))) .x)))
def z91 (P:Program) (φ:Nat):Env TV:=⟨P,lk [],lk [],lk []⟩
theorem zp7 (φ:Nat) (a) :(z99 φ).F a=fnX TV (z91 Tryz.prog φ) φ Tryz.f37 [38,0] [.val 2] (z6d φ) a:=by kernel_rfl
theorem zop (φ:Nat):fnO TV (z91 Tryz.prog φ) φ Tryz.f37 [.val 2] (z6d φ):=by
 unfold fnO
 show obl _ _ _ _ _ _ _
 unfold z6d
 repeat' (first | exact trivial |(refine⟨?_,?_⟩) |(intro _) | kernel_rfl)
theorem zom (φ:Nat):z02 TV Tryz.prog 37 (z99 φ):=
 z04 (N:=z91 Tryz.prog φ) (zm trivial trivial trivial) (z6d φ) Tryz.func37 (by kernel_rfl) (zp7 φ) (zop φ)
def zi2 (φ:Nat):H TV (RTup TT [.val 2]):=.x
def zn9 (P:Program) (φ:Nat):Env TV:=⟨P,lk [(36,za4 φ),(37,z99 φ)],lk [],lk []⟩
theorem y8i (φ:Nat) (a) :(znw φ).F a=fnX TV (zn9 Tryz.prog φ) φ Tryz.f11 [35,38] [.val 2] (zi2 φ) a:=by kernel_rfl
theorem y6u (φ:Nat):fnO TV (zn9 Tryz.prog φ) φ Tryz.f11 [.val 2] (zi2 φ):=by
 unfold fnO
 show obl _ _ _ _ _ _ _
 unfold zi2
 repeat' (first | exact trivial |(refine⟨?_,?_⟩) |(intro _) | kernel_rfl)
theorem y8r (φ:Nat):z02 TV Tryz.prog 11 (znw φ):=
 z04 (N:=zn9 Tryz.prog φ) (zm ⟨zr9 φ,zom φ,trivial⟩ trivial trivial) (zi2 φ) Tryz.func11 (by kernel_rfl) (y8i φ) (y6u φ)
def z8z (φ:Nat):H TV (RTup TT [.val 2]):=.x
def ze5 (P:Program) (φ:Nat):Env TV:=⟨P,lk [],lk [],lk []⟩
theorem ztu (φ:Nat) (a) :(z6v φ).F a=fnX TV (ze5 Tryz.prog φ) φ Tryz.f158 [0,0,0] [.val 2] (z8z φ) a:=by kernel_rfl
theorem zuq (φ:Nat):fnO TV (ze5 Tryz.prog φ) φ Tryz.f158 [.val 2] (z8z φ):=by
 unfold fnO
 show obl _ _ _ _ _ _ _
 unfold z8z
 repeat' (first | exact trivial |(refine⟨?_,?_⟩) |(intro _) | kernel_rfl)
theorem zfg (φ:Nat):z02 TV Tryz.prog 158 (z6v φ):=
 z04 (N:=ze5 Tryz.prog φ) (zm trivial trivial trivial) (z8z φ) Tryz.func158 (by kernel_rfl) (ztu φ) (zuq φ)
def zd7 (φ:Nat):H TV (RTup TT [.val 2]):=.x
def zi7 (P:Program) (φ:Nat):Env TV:=⟨P,lk [(158,z6v φ)],lk [],lk []⟩
theorem y0e (φ:Nat) (a) :(ziu φ).F a=fnX TV (zi7 Tryz.prog φ) φ Tryz.f120 [11] [.val 2] (zd7 φ) a:=by kernel_rfl
theorem y0k (φ:Nat):fnO TV (zi7 Tryz.prog φ) φ Tryz.f120 [.val 2] (zd7 φ):=by
 unfold fnO
 show obl _ _ _ _ _ _ _
 unfold zd7
 repeat' (first | exact trivial |(refine⟨?_,?_⟩) |(intro _) | kernel_rfl)
theorem zym (φ:Nat):z02 TV Tryz.prog 120 (ziu φ):=
 z04 (N:=zi7 Tryz.prog φ) (zm ⟨zfg φ,trivial⟩ trivial trivial) (zd7 φ) Tryz.func120 (by kernel_rfl) (y0e φ) (y0k φ)
def zg1 (φ:Nat):H TV (RTup TT [.val 2]):=.x
def zkw (P:Program) (φ:Nat):Env TV:=⟨P,lk [(158,z6v φ)],lk [],lk []⟩
theorem y3p (φ:Nat) (a) :(zkt φ).F a=fnX TV (zkw Tryz.prog φ) φ Tryz.f121 [13,0] [.val 2] (zg1 φ) a:=by kernel_rfl
theorem y4p (φ:Nat):fnO TV (zkw Tryz.prog φ) φ Tryz.f121 [.val 2] (zg1 φ):=by
 unfold fnO
 show obl _ _ _ _ _ _ _
 unfold zg1
 repeat' (first | exact trivial |(refine⟨?_,?_⟩) |(intro _) | kernel_rfl)
theorem y5l (φ:Nat):z02 TV Tryz.prog 121 (zkt φ):=
 z04 (N:=zkw Tryz.prog φ) (zm ⟨zfg φ,trivial⟩ trivial trivial) (zg1 φ) Tryz.func121 (by kernel_rfl) (y3p φ) (y4p φ)
def zdy (φ:Nat):H TV (RTup TT [.val 0]):=(.seq .x (.seq .x (.seq (.seq .x (.body (.loop ⟨[(46,[(1,.ptr 0 0),(3,.val 0)])],[.box 25 [.val 15]]⟩ (fun n z=>z64 φ n z.1 z.2.1) (fun zk4=>.x)))) (.seq (.seq .x (.body (.loop ⟨[(46,[(1,.ptr 0 0),(4,.val 0)])],[.box 25 [.val 15]]⟩ (fun n z=>z4m φ n z.1 z.2.1) (fun zk8=>.x)))) .x))))
def zjm (P:Program) (φ:Nat):Env TV:=⟨P,lk [(120,ziu φ),(121,zkt φ)],lk [],lk []⟩
theorem zz4 (φ:Nat) (a) :(zd5 φ).F a=fnX TV (zjm Tryz.prog φ) φ Tryz.f96 [15] [.val 0] (zdy φ) a:=by kernel_rfl
theorem zyt (φ:Nat):fnO TV (zjm Tryz.prog φ) φ Tryz.f96 [.val 0] (zdy φ):=by
 unfold fnO
 show obl _ _ _ _ _ _ _
 unfold zdy
 repeat' (first | exact trivial |(refine⟨?_,?_⟩) |(intro _) | kernel_rfl)
theorem zpb (φ:Nat):z02 TV Tryz.prog 96 (zd5 φ):=
 z04 (N:=zjm Tryz.prog φ) (zm ⟨zym φ,y5l φ,trivial⟩ trivial trivial) (zdy φ) Tryz.func96 (by kernel_rfl) (zz4 φ) (zyt φ)
def zbl (φ:Nat):H TV (RTup TT [.val 2]):=.x
def zh4 (P:Program) (φ:Nat):Env TV:=⟨P,lk [],lk [],lk []⟩
theorem zwf (φ:Nat) (a) :(z4s φ).F a=fnX TV (zh4 Tryz.prog φ) φ Tryz.f124 [0,0,0] [.val 2] (zbl φ) a:=by kernel_rfl
theorem zw2 (φ:Nat):fnO TV (zh4 Tryz.prog φ) φ Tryz.f124 [.val 2] (zbl φ):=by
 unfold fnO
 show obl _ _ _ _ _ _ _
 unfold zbl
 repeat' (first | exact trivial |(refine⟨?_,?_⟩) |(intro _) | kernel_rfl)
theorem z81 (φ:Nat):z02 TV Tryz.prog 124 (z4s φ):=
 z04 (N:=zh4 Tryz.prog φ) (zm trivial trivial trivial) (zbl φ) Tryz.func124 (by kernel_rfl) (zwf φ) (zw2 φ)
def z78 (φ:Nat):H TV (RTup TT [.val 2]):=.x
def za9 (P:Program) (φ:Nat):Env TV:=⟨P,lk [(124,z4s φ)],lk [],lk []⟩
theorem zpy (φ:Nat) (a) :(zac φ).F a=fnX TV (za9 Tryz.prog φ) φ Tryz.f122 [17] [.val 2] (z78 φ) a:=by kernel_rfl
theorem zqp (φ:Nat):fnO TV (za9 Tryz.prog φ) φ Tryz.f122 [.val 2] (z78 φ):=by
 unfold fnO
 show obl _ _ _ _ _ _ _
 unfold z78
 repeat' (first | exact trivial |(refine⟨?_,?_⟩) |(intro _) | kernel_rfl)
theorem zq2 (φ:Nat):z02 TV Tryz.prog 122 (zac φ):=
 z04 (N:=za9 Tryz.prog φ) (zm ⟨z81 φ,trivial⟩ trivial trivial) (z78 φ) Tryz.func122 (by kernel_rfl) (zpy φ) (zqp φ)
def z6i (φ:Nat):H TV (RTup TT [.val 2]):=.x
def z9v (P:Program) (φ:Nat):Env TV:=⟨P,lk [(124,z4s φ)],lk [],lk []⟩
theorem zpu (φ:Nat) (a) :(z9u φ).F a=fnX TV (z9v Tryz.prog φ) φ Tryz.f123 [19,0] [.val 2] (z6i φ) a:=by kernel_rfl
theorem zob (φ:Nat):fnO TV (z9v Tryz.prog φ) φ Tryz.f123 [.val 2] (z6i φ):=by
 unfold fnO
 show obl _ _ _ _ _ _ _
 unfold z6i
 repeat' (first | exact trivial |(refine⟨?_,?_⟩) |(intro _) | kernel_rfl)
theorem zp8 (φ:Nat):z02 TV Tryz.prog 123 (z9u φ):=
 z04 (N:=z9v Tryz.prog φ) (zm ⟨z81 φ,trivial⟩ trivial trivial) (z6i φ) Tryz.func123 (by kernel_rfl) (zpu φ) (zob φ)
def zb5 (φ:Nat):H TV (RTup TT [.val 0]):=(.seq .x (.seq .x (.seq (.seq .x (.body (.loop ⟨[(57,[(0,.val 24),(3,.own 0),(4,.val 0)])],[.row 4 2]⟩ (fun n z=>z5c φ n z.1 z.2.1 z.2.2.1) (fun zk5=>.x)))) .x)))
def zgo (P:Program) (φ:Nat):Env TV:=⟨P,lk [(124,z4s φ)],lk [],lk []⟩
theorem zx3 (φ:Nat) (a) :(zh0 φ).F a=fnX TV (zgo Tryz.prog φ) φ Tryz.f125 [24] [.val 0] (zb5 φ) a:=by kernel_rfl
theorem zx2 (φ:Nat):fnO TV (zgo Tryz.prog φ) φ Tryz.f125 [.val 0] (zb5 φ):=by
 unfold fnO
 show obl _ _ _ _ _ _ _
 unfold zb5
 repeat' (first | exact trivial |(refine⟨?_,?_⟩) |(intro _) | kernel_rfl)
theorem zwv (φ:Nat):z02 TV Tryz.prog 125 (zh0 φ):=
 z04 (N:=zgo Tryz.prog φ) (zm ⟨z81 φ,trivial⟩ trivial trivial) (zb5 φ) Tryz.func125 (by kernel_rfl) (zx3 φ) (zx2 φ)
def zdu (φ:Nat):H TV (RTup TT [.val 0]):=(.seq .x (.seq .x (.seq (.seq .x (.body (.loop ⟨[(106,[(1,.ptr 0 0),(3,.val 0)])],[.box 31 [.val 25]]⟩ (fun n z=>z5z φ n z.1 z.2.1) (fun zk4=>.x)))) (.seq (.seq .x (.body (.loop ⟨[(106,[(1,.ptr 0 0),(4,.val 0)])],[.box 31 [.val 25]]⟩ (fun n z=>z4l φ n z.1 z.2.1) (fun zk8=>.x)))) (.seq (.seq .x (.body (.loop ⟨[(106,[(1,.ptr 0 0),(5,.val 0)])],[.box 31 [.val 25]]⟩ (fun n z=>z3p φ n z.1 z.2.1) (fun zk12=>.x)))) .x)))))
def zi0 (P:Program) (φ:Nat):Env TV:=⟨P,lk [(122,zac φ),(123,z9u φ),(124,z4s φ),(125,zh0 φ)],lk [],lk []⟩
theorem y1k (φ:Nat) (a) :(zjb φ).F a=fnX TV (zi0 Tryz.prog φ) φ Tryz.f97 [25] [.val 0] (zdu φ) a:=by kernel_rfl
theorem zzv (φ:Nat):fnO TV (zi0 Tryz.prog φ) φ Tryz.f97 [.val 0] (zdu φ):=by
 unfold fnO
 show obl _ _ _ _ _ _ _
 unfold zdu
 repeat' (first | exact trivial |(refine⟨?_,?_⟩) |(intro _) | kernel_rfl)
theorem zys (φ:Nat):z02 TV Tryz.prog 97 (zjb φ):=
 z04 (N:=zi0 Tryz.prog φ) (zm ⟨zq2 φ,zp8 φ,z81 φ,zwv φ,trivial⟩ trivial trivial) (zdu φ) Tryz.func97 (by kernel_rfl) (y1k φ) (zzv φ)
def zgh (φ:Nat):H TV (RTup TT [.val 2]):=(.seq .x (.seq .x (.seq (.seq .x (.body (.loop ⟨[(96,[(1,.ptr 0 0),(3,.val 0),(4,.val 0)])],[.box 36 [.val 35]]⟩ (fun n z=>z74 φ n z.1 z.2.1 z.2.2.1) (fun zk5=>.x)))) (.seq (.seq .x (.body (.loop ⟨[(96,[(1,.ptr 0 0),(3,.val 0),(6,.val 0)])],[.box 36 [.val 35]]⟩ (fun n z=>z4u φ n z.1 z.2.1 z.2.2.1) (fun zk10=>.x)))) (.seq (.seq .x (.body (.loop ⟨[(96,[(1,.ptr 0 0),(3,.val 0),(7,.val 0)])],[.box 36 [.val 35]]⟩ (fun n z=>z4v φ n z.1 z.2.1 z.2.2.1) (fun zk15=>.x)))) .x)))))
def zks (P:Program) (φ:Nat):Env TV:=⟨P,lk [(124,z4s φ)],lk [],lk []⟩
theorem y1r (φ:Nat) (a) :(zkh φ).F a=fnX TV (zks Tryz.prog φ) φ Tryz.f98 [35] [.val 2] (zgh φ) a:=by kernel_rfl
theorem y3v (φ:Nat):fnO TV (zks Tryz.prog φ) φ Tryz.f98 [.val 2] (zgh φ):=by
 unfold fnO
 show obl _ _ _ _ _ _ _
 unfold zgh
 repeat' (first | exact trivial |(refine⟨?_,?_⟩) |(intro _) | kernel_rfl)
theorem y4n (φ:Nat):z02 TV Tryz.prog 98 (zkh φ):=
 z04 (N:=zks Tryz.prog φ) (zm ⟨z81 φ,trivial⟩ trivial trivial) (zgh φ) Tryz.func98 (by kernel_rfl) (y1r φ) (y3v φ)
def zd6 (φ:Nat):H TV (RTup TT [.val 2]):=(.seq .x (.seq .x (.seq (.seq .x (.body (.loop ⟨[(51,[(1,.ptr 0 0),(3,.val 0),(4,.val 0)])],[.box 36 [.val 35]]⟩ (fun n z=>z62 φ n z.1 z.2.1 z.2.2.1) (fun zk5=>.x)))) (.seq (.seq .x (.body (.loop ⟨[(51,[(1,.ptr 0 0),(3,.val 0),(6,.val 0)])],[.box 36 [.val 35]]⟩ (fun n z=>z4j φ n z.1 z.2.1 z.2.2.1) (fun zk9=>.x)))) .x))))
def zhq (P:Program) (φ:Nat):Env TV:=⟨P,lk [],lk [],lk []⟩
theorem y0l (φ:Nat) (a) :(zii φ).F a=fnX TV (zhq Tryz.prog φ) φ Tryz.f99 [35] [.val 2] (zd6 φ) a:=by kernel_rfl
theorem zzr (φ:Nat):fnO TV (zhq Tryz.prog φ) φ Tryz.f99 [.val 2] (zd6 φ):=by
 unfold fnO
 show obl _ _ _ _ _ _ _
 unfold zd6
 repeat' (first | exact trivial |(refine⟨?_,?_⟩) |(intro _) | kernel_rfl)
theorem y0a (φ:Nat):z02 TV Tryz.prog 99 (zii φ):=
 z04 (N:=zhq Tryz.prog φ) (zm trivial trivial trivial) (zd6 φ) Tryz.func99 (by kernel_rfl) (y0l φ) (zzr φ)
def zdg (φ:Nat):H TV (RTup TT [.val 0]):=(.seq .x (.seq (.seq .x (.body (.loop ⟨[(62,[(1,.ptr 0 0),(3,.val 0)])],[.box 139 [.val 32]]⟩ (fun n z=>z68 φ n z.1 z.2.1) (fun zk4=>.x)))) (.seq (.seq .x (.body (.loop ⟨[(62,[(1,.ptr 0 0),(5,.val 0)])],[.box 139 [.val 32]]⟩ (fun n z=>z65 φ n z.1 z.2.1) (fun zk7=>.x)))) .x)))
def zhr (P:Program) (φ:Nat):Env TV:=⟨P,lk [],lk [],lk []⟩
theorem y0z (φ:Nat) (a) :(zi9 φ).F a=fnX TV (zhr Tryz.prog φ) φ Tryz.f100 [32] [.val 0] (zdg φ) a:=by kernel_rfl
theorem zz0 (φ:Nat):fnO TV (zhr Tryz.prog φ) φ Tryz.f100 [.val 0] (zdg φ):=by
 unfold fnO
 show obl _ _ _ _ _ _ _
 unfold zdg
 repeat' (first | exact trivial |(refine⟨?_,?_⟩) |(intro _) | kernel_rfl)
theorem zz5 (φ:Nat):z02 TV Tryz.prog 100 (zi9 φ):=
 z04 (N:=zhr Tryz.prog φ) (zm trivial trivial trivial) (zdg φ) Tryz.func100 (by kernel_rfl) (y0z φ) (zz0 φ)
def zd9 (φ:Nat):H TV (RTup TT [.val 16]):=(.seq .x (.seq .x (.seq (.body (.loop ⟨[(26,[(0,.val 16),(1,.val 16),(2,.val 16),(7,.val 16)])],[]⟩ (fun n z=>z3i φ n z.1 z.2.1 z.2.2.1 z.2.2.2.1) (fun zk8=>(.seq .x (.seq (.body (.seq (.join ⟨[(26,[(0,.val 16),(1,.val 16),(2,.val 16),(7,.val 16)])],[]⟩ (fun z=>z9x φ (fun a0 a1 a2 a3=>zk8 (a0,a1,a2,a3,())) z.1 z.2.1 z.2.2.1 z.2.2.2.1) (.seq .x .x)) .x)) .x))))) .x)))
def zjo (P:Program) (φ:Nat):Env TV:=⟨P,lk [],lk [],lk []⟩
theorem zy4 (φ:Nat) (a) :(zhv φ).F a=fnX TV (zjo Tryz.prog φ) φ Tryz.f159 [16,16,16] [.val 16] (zd9 φ) a:=by kernel_rfl
theorem zyw (φ:Nat):fnO TV (zjo Tryz.prog φ) φ Tryz.f159 [.val 16] (zd9 φ):=by
 unfold fnO
 show obl _ _ _ _ _ _ _
 unfold zd9
 repeat' (first | exact trivial |(refine⟨?_,?_⟩) |(intro _) | kernel_rfl)
theorem y06 (φ:Nat):z02 TV Tryz.prog 159 (zhv φ):=
 z04 (N:=zjo Tryz.prog φ) (zm trivial trivial trivial) (zd9 φ) Tryz.func159 (by kernel_rfl) (zy4 φ) (zyw φ)
def zjn (φ:Nat):H TV (RTup TT [.val 16]):=(.seq .x (.seq .x (.seq (.seq .x (.body (.loop ⟨[(22,[(0,.val 16),(1,.val 16),(5,.val 16)])],[]⟩ (fun n z=>z5g φ n z.1 z.2.1 z.2.2.1) (fun zk6=>(.seq .x (.seq (.body (.seq (.join ⟨[(22,[(0,.val 16),(1,.val 16),(5,.val 16)])],[]⟩ (fun z=>zdf φ (fun a0 a1 a2=>zk6 (a0,a1,a2,())) z.1 z.2.1 z.2.2.1) (.seq .x .x)) .x)) .x)))))) .x)))
def znz (P:Program) (φ:Nat):Env TV:=⟨P,lk [(159,zhv φ)],lk [],lk []⟩
theorem y8q (φ:Nat) (a) :(znj φ).F a=fnX TV (znz Tryz.prog φ) φ Tryz.f126 [16,16] [.val 16] (zjn φ) a:=by kernel_rfl
theorem y8s (φ:Nat):fnO TV (znz Tryz.prog φ) φ Tryz.f126 [.val 16] (zjn φ):=by
 unfold fnO
 show obl _ _ _ _ _ _ _
 unfold zjn
 repeat' (first | exact trivial |(refine⟨?_,?_⟩) |(intro _) | kernel_rfl)
theorem y6r (φ:Nat):z02 TV Tryz.prog 126 (znj φ):=
 z04 (N:=znz Tryz.prog φ) (zm ⟨y06 φ,trivial⟩ trivial trivial) (zjn φ) Tryz.func126 (by kernel_rfl) (y8q φ) (y8s φ)
def zcr (φ:Nat):H TV (RTup TT [.val 2]):=.x
def zhw (P:Program) (φ:Nat):Env TV:=⟨P,lk [(126,znj φ)],lk [],lk []⟩
theorem y0p (φ:Nat) (a) :(zjp φ).F a=fnX TV (zhw Tryz.prog φ) φ Tryz.f101 [16] [.val 2] (zcr φ) a:=by kernel_rfl
theorem zz2 (φ:Nat):fnO TV (zhw Tryz.prog φ) φ Tryz.f101 [.val 2] (zcr φ):=by
 unfold fnO
 show obl _ _ _ _ _ _ _
 unfold zcr
 repeat' (first | exact trivial |(refine⟨?_,?_⟩) |(intro _) | kernel_rfl)
theorem zyn (φ:Nat):z02 TV Tryz.prog 101 (zjp φ):=
 z04 (N:=zhw Tryz.prog φ) (zm ⟨y6r φ,trivial⟩ trivial trivial) (zcr φ) Tryz.func101 (by kernel_rfl) (y0p φ) (zz2 φ)
def z79 (φ:Nat):H TV (RTup TT [.val 0]):=(.seq .x (.seq .x (.seq .x (.seq .x (.seq .x (.seq .x (.seq .x (.seq (.seq .x (.body (.loop ⟨[(70,[(1,.ptr 0 0),(4,.val 0)])],[.box 36 [.val 35]]⟩ (fun n z=>z1z φ n z.1 z.2.1) (fun zk8=>.x)))) .x))))))))
def za5 (P:Program) (φ:Nat):Env TV:=⟨P,lk [(96,zd5 φ),(97,zjb φ),(98,zkh φ),(99,zii φ),(100,zi9 φ),(101,zjp φ)],lk [],lk []⟩
theorem zr8 (φ:Nat) (a) :(z7i φ).F a=fnX TV (za5 Tryz.prog φ) φ Tryz.f71 [35] [.val 0] (z79 φ) a:=by kernel_rfl
theorem zqo (φ:Nat):fnO TV (za5 Tryz.prog φ) φ Tryz.f71 [.val 0] (z79 φ):=by
 unfold fnO
 show obl _ _ _ _ _ _ _
 unfold z79
 repeat' (first | exact trivial |(refine⟨?_,?_⟩) |(intro _) | kernel_rfl)
theorem zhp (φ:Nat):z02 TV Tryz.prog 71 (z7i φ):=
 z04 (N:=za5 Tryz.prog φ) (zm ⟨zpb φ,zys φ,y4n φ,y0a φ,zz5 φ,zyn φ,trivial⟩ trivial trivial) (z79 φ) Tryz.func71 (by kernel_rfl) (zr8 φ) (zqo φ)
def zfx (φ:Nat):H TV (RTup TT [.val 6]):=(.seq .x (.seq (.seq .x (.body (.seq .x (.cond .x (.seq .x (.cond .x (.seq (.join ⟨[(30,[(3,.val 0),(8,.val 2)])],[]⟩ (fun z=>zdi φ z.1 z.2.1) (.seq .x .x)) (.cond .x (.seq .x (.cond .x (.seq .x (.cond .x (.seq .x (.cond .x (.seq .x (.cond .x (.seq .x (.cond .x (.seq .x (.cond .x (.seq (.join ⟨[(30,[(3,.val 0),(23,.val 2)])],[]⟩ (fun z=>zd1 φ z.1 z.2.1) (.seq .x .x)) .x))))))))))))))))))))) .x))
def zl7 (P:Program) (φ:Nat):Env TV:=⟨P,lk [],lk [],lk []⟩
theorem y4g (φ:Nat) (a) :(zko φ).F a=fnX TV (zl7 Tryz.prog φ) φ Tryz.f112 [0] [.val 6] (zfx φ) a:=by kernel_rfl
theorem y2a (φ:Nat):fnO TV (zl7 Tryz.prog φ) φ Tryz.f112 [.val 6] (zfx φ):=by
 unfold fnO
 show obl _ _ _ _ _ _ _
 unfold zfx
 repeat' (first | exact trivial |(refine⟨?_,?_⟩) |(intro _) | kernel_rfl)
theorem y5g (φ:Nat):z02 TV Tryz.prog 112 (zko φ):=
 z04 (N:=zl7 Tryz.prog φ) (zm trivial trivial trivial) (zfx φ) Tryz.func112 (by kernel_rfl) (y4g φ) (y2a φ)
def z95 (φ:Nat):H TV (RTup TT [.val 2]):=.x
def zen (P:Program) (φ:Nat):Env TV:=⟨P,lk [],lk [],lk []⟩
theorem zug (φ:Nat) (a) :(z1a φ).F a=fnX TV (zen Tryz.prog φ) φ Tryz.f113 [0,0,0] [.val 2] (z95 φ) a:=by kernel_rfl
theorem zta (φ:Nat):fnO TV (zen Tryz.prog φ) φ Tryz.f113 [.val 2] (z95 φ):=by
 unfold fnO
 show obl _ _ _ _ _ _ _
 unfold z95
 repeat' (first | exact trivial |(refine⟨?_,?_⟩) |(intro _) | kernel_rfl)
theorem z2q (φ:Nat):z02 TV Tryz.prog 113 (z1a φ):=
 z04 (N:=zen Tryz.prog φ) (zm trivial trivial trivial) (z95 φ) Tryz.func113 (by kernel_rfl) (zug φ) (zta φ)
def z6z (φ:Nat):H TV (RTup TT [.val 2]):=.x
def zan (P:Program) (φ:Nat):Env TV:=⟨P,lk [(113,z1a φ)],lk [],lk []⟩
theorem zq8 (φ:Nat) (a) :(zam φ).F a=fnX TV (zan Tryz.prog φ) φ Tryz.f114 [9] [.val 2] (z6z φ) a:=by kernel_rfl
theorem zq5 (φ:Nat):fnO TV (zan Tryz.prog φ) φ Tryz.f114 [.val 2] (z6z φ):=by
 unfold fnO
 show obl _ _ _ _ _ _ _
 unfold z6z
 repeat' (first | exact trivial |(refine⟨?_,?_⟩) |(intro _) | kernel_rfl)
theorem zrd (φ:Nat):z02 TV Tryz.prog 114 (zam φ):=
 z04 (N:=zan Tryz.prog φ) (zm ⟨z2q φ,trivial⟩ trivial trivial) (z6z φ) Tryz.func114 (by kernel_rfl) (zq8 φ) (zq5 φ)
def zm9 (φ:Nat):H TV (RTup TT [.val 2]):=(.seq .x (.seq (.seq .x (.body (.loop ⟨[(17,[(0,.val 6),(1,.val 53),(5,.val 0)])],[]⟩ (fun n z=>zf7 φ n z.1 z.2.1 z.2.2.1) (fun zk6=>.x)))) .x))
def zqs (P:Program) (φ:Nat):Env TV:=⟨P,lk [],lk [],lk []⟩
theorem ybz (φ:Nat) (a) :(zrg φ).F a=fnX TV (zqs Tryz.prog φ) φ Tryz.f115 [6,53] [.val 2] (zm9 φ) a:=by kernel_rfl
theorem yc7 (φ:Nat):fnO TV (zqs Tryz.prog φ) φ Tryz.f115 [.val 2] (zm9 φ):=by
 unfold fnO
 show obl _ _ _ _ _ _ _
 unfold zm9
 repeat' (first | exact trivial |(refine⟨?_,?_⟩) |(intro _) | kernel_rfl)
theorem yca (φ:Nat):z02 TV Tryz.prog 115 (zrg φ):=
 z04 (N:=zqs Tryz.prog φ) (zm trivial trivial trivial) (zm9 φ) Tryz.func115 (by kernel_rfl) (ybz φ) (yc7 φ)
def zdv (φ:Nat):H TV (RTup TT [.val 2]):=(.seq .x (.seq .x (.seq .x (.seq (.seq .x (.body (.seq (.join ⟨[(34,[(5,.val 0),(24,.val 0),(25,.val 2)])],[]⟩ (fun z=>zb8 φ z.1 z.2.1 z.2.2.1) (.seq .x .x)) .x))) .x))))
def ziw (P:Program) (φ:Nat):Env TV:=⟨P,lk [(113,z1a φ)],lk [],lk []⟩
theorem y01 (φ:Nat) (a) :(zj9 φ).F a=fnX TV (ziw Tryz.prog φ) φ Tryz.f153 [35,9] [.val 2] (zdv φ) a:=by kernel_rfl
theorem y0q (φ:Nat):fnO TV (ziw Tryz.prog φ) φ Tryz.f153 [.val 2] (zdv φ):=by
 unfold fnO
 show obl _ _ _ _ _ _ _
 unfold zdv
 repeat' (first | exact trivial |(refine⟨?_,?_⟩) |(intro _) | kernel_rfl)
theorem zyq (φ:Nat):z02 TV Tryz.prog 153 (zj9 φ):=
 z04 (N:=ziw Tryz.prog φ) (zm ⟨z2q φ,trivial⟩ trivial trivial) (zdv φ) Tryz.func153 (by kernel_rfl) (y01 φ) (y0q φ)
end Px
end
section
set_option maxHeartbeats 4000000
set_option maxRecDepth 100000
namespace Px
open Go Go.RowKit Go.Proofs
def zd0 (φ:Nat):H TV (RTup TT [.val 2]):=(.seq .x (.seq (.seq .x (.body (.seq .x (.cond .x (.seq (.join ⟨[(51,[(2,.ptr 0 0),(3,.ptr 1 0),(7,.val 0),(17,.val 2)])],[.box 36 [.val 35],.box 81 [.val 9]]⟩ (fun z=>zbj φ z.1 z.2.1 z.2.2.1 z.2.2.2.1) (.seq .x .x)) .x))))) .x))
def zix (P:Program) (φ:Nat):Env TV:=⟨P,lk [(113,z1a φ)],lk [],lk []⟩
theorem zyb (φ:Nat) (a) :(zjh φ).F a=fnX TV (zix Tryz.prog φ) φ Tryz.f154 [35,9] [.val 2] (zd0 φ) a:=by kernel_rfl
theorem zyp (φ:Nat):fnO TV (zix Tryz.prog φ) φ Tryz.f154 [.val 2] (zd0 φ):=by
 unfold fnO
 show obl _ _ _ _ _ _ _
 unfold zd0
 repeat' (first | exact trivial |(refine⟨?_,?_⟩) |(intro _) | kernel_rfl)
theorem y09 (φ:Nat):z02 TV Tryz.prog 154 (zjh φ):=
 z04 (N:=zix Tryz.prog φ) (zm ⟨z2q φ,trivial⟩ trivial trivial) (zd0 φ) Tryz.func154 (by kernel_rfl) (zyb φ) (zyp φ)
def zb1 (φ:Nat):H TV (RTup TT [.val 2]):=.x
def zhd (P:Program) (φ:Nat):Env TV:=⟨P,lk [(113,z1a φ)],lk [],lk []⟩
theorem zw3 (φ:Nat) (a) :(zgu φ).F a=fnX TV (zhd Tryz.prog φ) φ Tryz.f155 [35,9] [.val 2] (zb1 φ) a:=by kernel_rfl
theorem zwa (φ:Nat):fnO TV (zhd Tryz.prog φ) φ Tryz.f155 [.val 2] (zb1 φ):=by
 unfold fnO
 show obl _ _ _ _ _ _ _
 unfold zb1
 repeat' (first | exact trivial |(refine⟨?_,?_⟩) |(intro _) | kernel_rfl)
theorem zvz (φ:Nat):z02 TV Tryz.prog 155 (zgu φ):=
 z04 (N:=zhd Tryz.prog φ) (zm ⟨z2q φ,trivial⟩ trivial trivial) (zb1 φ) Tryz.func155 (by kernel_rfl) (zw3 φ) (zwa φ)
def zg4 (φ:Nat):H TV (RTup TT [.val 2]):=(.seq .x (.seq (.seq .x (.body (.seq (.join ⟨[(24,[(1,.ptr 0 0),(4,.val 0),(5,.val 2)])],[.box 81 [.val 9]]⟩ (fun z=>zct φ z.1 z.2.1 z.2.2.1) (.seq .x .x)) .x))) .x))
def zkr (P:Program) (φ:Nat):Env TV:=⟨P,lk [(113,z1a φ)],lk [],lk []⟩
theorem y2u (φ:Nat) (a) :(zlr φ).F a=fnX TV (zkr Tryz.prog φ) φ Tryz.f156 [9] [.val 2] (zg4 φ) a:=by kernel_rfl
theorem y5y (φ:Nat):fnO TV (zkr Tryz.prog φ) φ Tryz.f156 [.val 2] (zg4 φ):=by
 unfold fnO
 show obl _ _ _ _ _ _ _
 unfold zg4
 repeat' (first | exact trivial |(refine⟨?_,?_⟩) |(intro _) | kernel_rfl)
theorem y4t (φ:Nat):z02 TV Tryz.prog 156 (zlr φ):=
 z04 (N:=zkr Tryz.prog φ) (zm ⟨z2q φ,trivial⟩ trivial trivial) (zg4 φ) Tryz.func156 (by kernel_rfl) (y2u φ) (y5y φ)
def zdt (φ:Nat):H TV (RTup TT [.val 2]):=.x
def zi5 (P:Program) (φ:Nat):Env TV:=⟨P,lk [(113,z1a φ),(153,zj9 φ),(154,zjh φ),(155,zgu φ),(156,zlr φ)],lk [],lk []⟩
theorem zzx (φ:Nat) (a) :(zj4 φ).F a=fnX TV (zi5 Tryz.prog φ) φ Tryz.f116 [35,9,53] [.val 2] (zdt φ) a:=by kernel_rfl
theorem zyx (φ:Nat):fnO TV (zi5 Tryz.prog φ) φ Tryz.f116 [.val 2] (zdt φ):=by
 unfold fnO
 show obl _ _ _ _ _ _ _
 unfold zdt
 repeat' (first | exact trivial |(refine⟨?_,?_⟩) |(intro _) | kernel_rfl)
theorem y0d (φ:Nat):z02 TV Tryz.prog 116 (zj4 φ):=
 z04 (N:=zi5 Tryz.prog φ) (zm ⟨z2q φ,zyq φ,y09 φ,zvz φ,y4t φ,trivial⟩ trivial trivial) (zdt φ) Tryz.func116 (by kernel_rfl) (zzx φ) (zyx φ)
def zdh (φ:Nat):H TV (RTup TT [.val 0]):=.x
def zij (P:Program) (φ:Nat):Env TV:=⟨P,lk [],lk [],lk []⟩
theorem y0x (φ:Nat) (a) :(zia φ).F a=fnX TV (zij Tryz.prog φ) φ Tryz.f117 [9,53] [.val 0] (zdh φ) a:=by kernel_rfl
theorem y0i (φ:Nat):fnO TV (zij Tryz.prog φ) φ Tryz.f117 [.val 0] (zdh φ):=by
 unfold fnO
 show obl _ _ _ _ _ _ _
 unfold zdh
 repeat' (first | exact trivial |(refine⟨?_,?_⟩) |(intro _) | kernel_rfl)
theorem zzy (φ:Nat):z02 TV Tryz.prog 117 (zia φ):=
 z04 (N:=zij Tryz.prog φ) (zm trivial trivial trivial) (zdh φ) Tryz.func117 (by kernel_rfl) (y0x φ) (y0i φ)
def zd3 (φ:Nat):H TV (RTup TT [.val 2]):=(.seq .x (.seq .x (.seq (.seq .x (.body (.loop ⟨[(51,[(1,.ptr 0 0),(3,.val 0)])],[.box 81 [.val 9]]⟩ (fun n z=>z69 φ n z.1 z.2.1) (fun zk4=>.x)))) .x)))
def zir (P:Program) (φ:Nat):Env TV:=⟨P,lk [(113,z1a φ)],lk [],lk []⟩
theorem zz7 (φ:Nat) (a) :(zi3 φ).F a=fnX TV (zir Tryz.prog φ) φ Tryz.f118 [9] [.val 2] (zd3 φ) a:=by kernel_rfl
theorem zyr (φ:Nat):fnO TV (zir Tryz.prog φ) φ Tryz.f118 [.val 2] (zd3 φ):=by
 unfold fnO
 show obl _ _ _ _ _ _ _
 unfold zd3
 repeat' (first | exact trivial |(refine⟨?_,?_⟩) |(intro _) | kernel_rfl)
theorem zyz (φ:Nat):z02 TV Tryz.prog 118 (zi3 φ):=
 z04 (N:=zir Tryz.prog φ) (zm ⟨z2q φ,trivial⟩ trivial trivial) (zd3 φ) Tryz.func118 (by kernel_rfl) (zz7 φ) (zyr φ)
def zdj (φ:Nat):H TV (RTup TT [.val 2]):=(.seq .x (.seq .x (.seq .x (.seq (.seq .x (.body (.loop ⟨[(77,[(2,.ptr 0 0),(3,.ptr 1 0),(5,.val 6),(6,.val 0)])],[.box 36 [.val 35],.box 81 [.val 9]]⟩ (fun n z=>z3x φ n z.1 z.2.1 z.2.2.1 z.2.2.2.1) (fun zk10=>.x)))) .x))))
def ziz (P:Program) (φ:Nat):Env TV:=⟨P,lk [(112,zko φ),(113,z1a φ),(114,zam φ),(115,zrg φ),(116,zj4 φ),(117,zia φ),(118,zi3 φ)],lk [],lk []⟩
theorem y1g (φ:Nat) (a) :(zje φ).F a=fnX TV (ziz Tryz.prog φ) φ Tryz.f91 [35,9] [.val 2] (zdj φ) a:=by kernel_rfl
theorem y1d (φ:Nat):fnO TV (ziz Tryz.prog φ) φ Tryz.f91 [.val 2] (zdj φ):=by
 unfold fnO
 show obl _ _ _ _ _ _ _
 unfold zdj
 repeat' (first | exact trivial |(refine⟨?_,?_⟩) |(intro _) | kernel_rfl)
theorem zzu (φ:Nat):z02 TV Tryz.prog 91 (zje φ):=
 z04 (N:=ziz Tryz.prog φ) (zm ⟨y5g φ,z2q φ,zrd φ,yca φ,y0d φ,zzy φ,zyz φ,trivial⟩ trivial trivial) (zdj φ) Tryz.func91 (by kernel_rfl) (y1g φ) (y1d φ)
def z9l (φ:Nat):H TV (RTup TT [.val 5,.val 0]):=(.seq .x (.seq .x (.seq .x (.seq .x (.seq (.seq .x (.body (.loop ⟨[(34,[(1,.val 38),(2,.ptr 0 0),(7,.own 1),(8,.val 0)])],[.box 36 [.val 35],.row 3 0]⟩ (fun n z=>z3c φ n z.1 z.2.1 z.2.2.1 z.2.2.2.1) (fun zk8=>.x)))) .x)))))
def zf2 (P:Program) (φ:Nat):Env TV:=⟨P,lk [(71,z7i φ),(91,zje φ)],lk [],lk []⟩
theorem zts (φ:Nat) (a) :(zel φ).F a=fnX TV (zf2 Tryz.prog φ) φ Tryz.f63 [35,38] [.val 5,.val 0] (z9l φ) a:=by kernel_rfl
theorem ztt (φ:Nat):fnO TV (zf2 Tryz.prog φ) φ Tryz.f63 [.val 5,.val 0] (z9l φ):=by
 unfold fnO
 show obl _ _ _ _ _ _ _
 unfold z9l
 repeat' (first | exact trivial |(refine⟨?_,?_⟩) |(intro _) | kernel_rfl)
theorem zuw (φ:Nat):z02 TV Tryz.prog 63 (zel φ):=
 z04 (N:=zf2 Tryz.prog φ) (zm ⟨zhp φ,zzu φ,trivial⟩ trivial trivial) (z9l φ) Tryz.func63 (by kernel_rfl) (zts φ) (ztt φ)
def z9n (φ:Nat):H TV (RTup TT [.val 5]):=(.seq .x (.seq .x (.seq (.seq .x (.body (.loop ⟨[(55,[(1,.val 38),(2,.val 5),(7,.own 0),(8,.val 0)])],[.row 3 0]⟩ (fun n z=>z3a φ n z.1 z.2.1 z.2.2.1 z.2.2.2.1) (fun zk8=>.x)))) (.seq .x (.seq (.seq .x (.body (.loop ⟨[(55,[(7,.own 0),(10,.val 0),(11,.val 0)])],[.row 3 0]⟩ (fun n z=>z1r φ n z.1 z.2.1 z.2.2.1) (fun zk12=>.x)))) .x)))))
def zf3 (P:Program) (φ:Nat):Env TV:=⟨P,lk [],lk [],lk []⟩
theorem zvk (φ:Nat) (a) :(zew φ).F a=fnX TV (zf3 Tryz.prog φ) φ Tryz.f64 [35,38,5] [.val 5] (z9n φ) a:=by kernel_rfl
theorem zvf (φ:Nat):fnO TV (zf3 Tryz.prog φ) φ Tryz.f64 [.val 5] (z9n φ):=by
 unfold fnO
 show obl _ _ _ _ _ _ _
 unfold z9n
 repeat' (first | exact trivial |(refine⟨?_,?_⟩) |(intro _) | kernel_rfl)
theorem zv9 (φ:Nat):z02 TV Tryz.prog 64 (zew φ):=
 z04 (N:=zf3 Tryz.prog φ) (zm trivial trivial trivial) (z9n φ) Tryz.func64 (by kernel_rfl) (zvk φ) (zvf φ)
def zba (φ:Nat):H TV (RTup TT [.val 55]):=(.seq .x (.seq .x (.seq .x (.seq (.seq .x (.body (.seq .x (.cond .x (.seq (.join ⟨[(56,[(7,.ptr 0 0),(8,.ptr 1 0),(21,.val 0),(37,.val 2)])],[.box 81 [.val 9],.box 189 [.val 54]]⟩ (fun z=>z1c φ z.1 z.2.1 z.2.2.1 z.2.2.2.1) (.seq .x .x)) .x))))) .x))))
def zh7 (P:Program) (φ:Nat):Env TV:=⟨P,lk [],lk [],lk []⟩
theorem zwp (φ:Nat) (a) :(zh9 φ).F a=fnX TV (zh7 Tryz.prog φ) φ Tryz.f93 [35,10,0] [.val 55] (zba φ) a:=by kernel_rfl
theorem zwl (φ:Nat):fnO TV (zh7 Tryz.prog φ) φ Tryz.f93 [.val 55] (zba φ):=by
 unfold fnO
 show obl _ _ _ _ _ _ _
 unfold zba
 repeat' (first | exact trivial |(refine⟨?_,?_⟩) |(intro _) | kernel_rfl)
theorem zws (φ:Nat):z02 TV Tryz.prog 93 (zh9 φ):=
 z04 (N:=zh7 Tryz.prog φ) (zm trivial trivial trivial) (zba φ) Tryz.func93 (by kernel_rfl) (zwp φ) (zwl φ)
def zb9 (φ:Nat):H TV (RTup TT [.val 2]):=.x
def zgl (P:Program) (φ:Nat):Env TV:=⟨P,lk [],lk [],lk []⟩
theorem zwh (φ:Nat) (a) :(zhf φ).F a=fnX TV (zgl Tryz.prog φ) φ Tryz.f157 [1,1] [.val 2] (zb9 φ) a:=by kernel_rfl
theorem zw6 (φ:Nat):fnO TV (zgl Tryz.prog φ) φ Tryz.f157 [.val 2] (zb9 φ):=by
 unfold fnO
 show obl _ _ _ _ _ _ _
 unfold zb9
 repeat' (first | exact trivial |(refine⟨?_,?_⟩) |(intro _) | kernel_rfl)
theorem zw5 (φ:Nat):z02 TV Tryz.prog 157 (zhf φ):=
 z04 (N:=zgl Tryz.prog φ) (zm trivial trivial trivial) (zb9 φ) Tryz.func157 (by kernel_rfl) (zwh φ) (zw6 φ)
def zb4 (φ:Nat):H TV (RTup TT [.val 2]):=.x
def zgx (P:Program) (φ:Nat):Env TV:=⟨P,lk [(157,zhf φ)],lk [],lk []⟩
theorem zw0 (φ:Nat) (a) :(zh5 φ).F a=fnX TV (zgx Tryz.prog φ) φ Tryz.f119 [54,54] [.val 2] (zb4 φ) a:=by kernel_rfl
theorem zw8 (φ:Nat):fnO TV (zgx Tryz.prog φ) φ Tryz.f119 [.val 2] (zb4 φ):=by
 unfold fnO
 show obl _ _ _ _ _ _ _
 unfold zb4
 repeat' (first | exact trivial |(refine⟨?_,?_⟩) |(intro _) | kernel_rfl)
theorem zw1 (φ:Nat):z02 TV Tryz.prog 119 (zh5 φ):=
 z04 (N:=zgx Tryz.prog φ) (zm ⟨zw5 φ,trivial⟩ trivial trivial) (zb4 φ) Tryz.func119 (by kernel_rfl) (zw0 φ) (zw8 φ)
def zbf (φ:Nat):H TV (RTup TT [.row 189 54]):=(.seq .x (.seq .x (.seq (.body (.loop ⟨[(35,[(0,.val 55),(3,.ptr 0 0),(5,.val 0)])],[.box 189 [.val 54]]⟩ (fun n z=>z5f φ n z.1 z.2.1 z.2.2.1) (fun zk6=>.x))) .x)))
def zhc (P:Program) (φ:Nat):Env TV:=⟨P,lk [(119,zh5 φ)],lk [],lk []⟩
theorem zwj (φ:Nat) (a) :(zgp φ).F a=fnX TV (zhc Tryz.prog φ) φ Tryz.f94 [55,54] [.row 189 54] (zbf φ) a:=by kernel_rfl
theorem zvr (φ:Nat):fnO TV (zhc Tryz.prog φ) φ Tryz.f94 [.row 189 54] (zbf φ):=by
 unfold fnO
 show obl _ _ _ _ _ _ _
 unfold zbf
 repeat' (first | exact trivial |(refine⟨?_,?_⟩) |(intro _) | kernel_rfl)
theorem zww (φ:Nat):z02 TV Tryz.prog 94 (zgp φ):=
 z04 (N:=zhc Tryz.prog φ) (zm ⟨zw1 φ,trivial⟩ trivial trivial) (zbf φ) Tryz.func94 (by kernel_rfl) (zwj φ) (zvr φ)
def zb7 (φ:Nat):H TV (RTup TT [.val 55]):=(.seq .x (.seq .x (.seq (.seq .x (.body (.loop ⟨[(54,[(1,.val 38),(2,.val 5),(3,.val 0),(4,.ptr 0 0),(9,.own 1),(10,.val 0)])],[.box 36 [.val 35],.row 189 54]⟩ (fun n z=>z3b φ n z.1 z.2.1 z.2.2.1 z.2.2.2.1 z.2.2.2.2.1 z.2.2.2.2.2.1) (fun zk11=>(.seq .x (.seq (.body (.seq .x (.seq .x (.seq .x (.seq .x (.body (.loop ⟨[(54,[(1,.val 38),(2,.val 5),(3,.val 0),(4,.ptr 0 0),(9,.own 1),(10,.val 0),(12,.val 55),(13,.val 0)])],[.box 36 [.val 35],.row 189 54]⟩ (fun n z=>z3d φ (fun a0 a1 a2 a3 a4 a5=>zk11 (a0,a1,a2,a3,a4,a5,())) n z.1 z.2.1 z.2.2.1 z.2.2.2.1 z.2.2.2.2.1 z.2.2.2.2.2.1 z.2.2.2.2.2.2.1 z.2.2.2.2.2.2.2.1) (fun zk21=>.x)))))))) .x)))))) (.seq (.ins 1 95 (.seq .x (.body (.loop ⟨[(49,[(0,.own 0),(2,.val 0)]),(54,[(9,.own 0)])],[.row 189 54]⟩ (fun n z=>z0i φ n z.1 z.2.1) (fun zk25=>(.seq .x (.seq (.body (.seq .x (.seq .x (.body (.loop ⟨[(49,[(0,.own 0),(2,.val 0),(3,.val 0)]),(54,[(9,.own 0)])],[.row 189 54]⟩ (fun n z=>z5w φ (fun a0 a1=>zk25 (a0,a1,())) n z.1 z.2.1 z.2.2.1) (fun zk29=>.x)))))) .x)))))) .x) .x))))
def zgm (P:Program) (φ:Nat):Env TV:=⟨P,lk [(93,zh9 φ),(94,zgp φ)],lk [],lk []⟩
theorem zvu (φ:Nat) (a) :(zgv φ).F a=fnX TV (zgm Tryz.prog φ) φ Tryz.f67 [35,38,5,0] [.val 55] (zb7 φ) a:=by kernel_rfl
theorem zwk (φ:Nat):fnO TV (zgm Tryz.prog φ) φ Tryz.f67 [.val 55] (zb7 φ):=by
 unfold fnO
 show obl _ _ _ _ _ _ _
 unfold zb7
 repeat' (first | exact trivial |(refine⟨?_,?_⟩) |(intro _) | kernel_rfl)
theorem zwd (φ:Nat):z02 TV Tryz.prog 67 (zgv φ):=
 z04 (N:=zgm Tryz.prog φ) (zm ⟨zws φ,zww φ,trivial⟩ trivial trivial) (zb7 φ) Tryz.func67 (by kernel_rfl) (zvu φ) (zwk φ)
def zbi (φ:Nat):H TV (RTup TT [.val 2]):=.x
def zgz (P:Program) (φ:Nat):Env TV:=⟨P,lk [(158,z6v φ)],lk [],lk []⟩
theorem zwr (φ:Nat) (a) :(zbe φ).F a=fnX TV (zgz Tryz.prog φ) φ Tryz.f128 [15,0] [.val 2] (zbi φ) a:=by kernel_rfl
theorem zvx (φ:Nat):fnO TV (zgz Tryz.prog φ) φ Tryz.f128 [.val 2] (zbi φ):=by
 unfold fnO
 show obl _ _ _ _ _ _ _
 unfold zbi
 repeat' (first | exact trivial |(refine⟨?_,?_⟩) |(intro _) | kernel_rfl)
theorem zn0 (φ:Nat):z02 TV Tryz.prog 128 (zbe φ):=
 z04 (N:=zgz Tryz.prog φ) (zm ⟨zfg φ,trivial⟩ trivial trivial) (zbi φ) Tryz.func128 (by kernel_rfl) (zwr φ) (zvx φ)
def zbh (φ:Nat):H TV (RTup TT [.val 0]):=.x
def zh2 (P:Program) (φ:Nat):Env TV:=⟨P,lk [],lk [],lk []⟩
theorem zwi (φ:Nat) (a) :(zgn φ).F a=fnX TV (zh2 Tryz.prog φ) φ Tryz.f160 [0,0] [.val 0] (zbh φ) a:=by kernel_rfl
theorem zw7 (φ:Nat):fnO TV (zh2 Tryz.prog φ) φ Tryz.f160 [.val 0] (zbh φ):=by
 unfold fnO
 show obl _ _ _ _ _ _ _
 unfold zbh
 repeat' (first | exact trivial |(refine⟨?_,?_⟩) |(intro _) | kernel_rfl)
theorem zx4 (φ:Nat):z02 TV Tryz.prog 160 (zgn φ):=
 z04 (N:=zh2 Tryz.prog φ) (zm trivial trivial trivial) (zbh φ) Tryz.func160 (by kernel_rfl) (zwi φ) (zw7 φ)
def zdn (φ:Nat):H TV (RTup TT [.val 5,.val 0]):=(.seq .x (.seq .x (.seq .x (.seq .x (.seq .x (.seq (.seq .x (.body (.loop ⟨[(106,[(1,.val 0),(2,.ptr 0 0),(7,.own 1),(8,.val 0)])],[.box 25 [.val 15],.row 3 0]⟩ (fun n z=>z67 φ n z.1 z.2.1 z.2.2.1 z.2.2.2.1) (fun zk9=>.x)))) (.seq .x (.seq .x (.seq (.body (.loop ⟨[(106,[(2,.ptr 0 0),(7,.own 1),(9,.val 2)])],[.box 25 [.val 15],.row 3 0]⟩ (fun n z=>z1y φ n z.1 z.2.1 z.2.2.1) (fun zk13=>(.seq .x (.body (.seq .x (.seq .x (.body (.loop ⟨[(106,[(2,.ptr 0 0),(7,.own 1),(9,.val 2),(10,.val 0)])],[.box 25 [.val 15],.row 3 0]⟩ (fun n z=>z0s φ (fun a0 a1 a2=>zk13 (a0,a1,a2,())) n z.1 z.2.1 z.2.2.1 z.2.2.2.1) (fun zk18=>(.seq .x (.seq (.body (.seq .x (.seq .x (.seq .x (.seq (.join ⟨[(106,[(2,.ptr 0 0),(7,.own 1),(9,.val 2),(10,.val 0),(11,.ptr 2 0),(12,.val 0),(13,.val 0)])],[.box 25 [.val 15],.row 3 0,.box 133 [.val 13]]⟩ (fun z=>z6x φ (fun a0 a1 a2 a3=>zk18 (a0,a1,a2,a3,())) z.1 z.2.1 z.2.2.1 z.2.2.2.1 z.2.2.2.2.1 z.2.2.2.2.2.1 z.2.2.2.2.2.2.1) (.seq .x .x)) (.seq (.join ⟨[(106,[(2,.ptr 0 0),(7,.own 1),(9,.val 2),(10,.val 0),(11,.ptr 2 0),(12,.val 0),(13,.val 0)])],[.box 25 [.val 15],.row 3 0,.box 133 [.val 13]]⟩ (fun z=>z56 φ (fun a0 a1 a2 a3=>zk18 (a0,a1,a2,a3,())) z.1 z.2.1 z.2.2.1 z.2.2.2.1 z.2.2.2.2.1 z.2.2.2.2.2.1 z.2.2.2.2.2.2.1) (.seq .x .x)) .x)))))) .x)))))))))))) .x)))))))))
def zit (P:Program) (φ:Nat):Env TV:=⟨P,lk [(96,zd5 φ),(128,zbe φ),(160,zgn φ)],lk [],lk []⟩
theorem zzp (φ:Nat) (a) :(zik φ).F a=fnX TV (zit Tryz.prog φ) φ Tryz.f127 [15,0] [.val 5,.val 0] (zdn φ) a:=by kernel_rfl
theorem zz1 (φ:Nat):fnO TV (zit Tryz.prog φ) φ Tryz.f127 [.val 5,.val 0] (zdn φ):=by
 unfold fnO
 show obl _ _ _ _ _ _ _
 unfold zdn
 repeat' (first | exact trivial |(refine⟨?_,?_⟩) |(intro _) | kernel_rfl)
theorem zzl (φ:Nat):z02 TV Tryz.prog 127 (zik φ):=
 z04 (N:=zit Tryz.prog φ) (zm ⟨zpb φ,zn0 φ,zx4 φ,trivial⟩ trivial trivial) (zdn φ) Tryz.func127 (by kernel_rfl) (zzp φ) (zz1 φ)
def z9s (φ:Nat):H TV (RTup TT [.val 0,.val 0]):=.x
def zeq (P:Program) (φ:Nat):Env TV:=⟨P,lk [(127,zik φ),(128,zbe φ)],lk [],lk []⟩
theorem zv7 (φ:Nat) (a) :(z9c φ).F a=fnX TV (zeq Tryz.prog φ) φ Tryz.f102 [15,0,0] [.val 0,.val 0] (z9s φ) a:=by kernel_rfl
theorem zu5 (φ:Nat):fnO TV (zeq Tryz.prog φ) φ Tryz.f102 [.val 0,.val 0] (z9s φ):=by
 unfold fnO
 show obl _ _ _ _ _ _ _
 unfold z9s
 repeat' (first | exact trivial |(refine⟨?_,?_⟩) |(intro _) | kernel_rfl)
theorem zl3 (φ:Nat):z02 TV Tryz.prog 102 (z9c φ):=
 z04 (N:=zeq Tryz.prog φ) (zm ⟨zzl φ,zn0 φ,trivial⟩ trivial trivial) (z9s φ) Tryz.func102 (by kernel_rfl) (zv7 φ) (zu5 φ)
def zbc (φ:Nat):H TV (RTup TT [.val 0]):=.x
def zgt (P:Program) (φ:Nat):Env TV:=⟨P,lk [(102,z9c φ)],lk [],lk []⟩
theorem zvt (φ:Nat) (a) :(zh8 φ).F a=fnX TV (zgt Tryz.prog φ) φ Tryz.f92 [35,54,54] [.val 0] (zbc φ) a:=by kernel_rfl
theorem zvv (φ:Nat):fnO TV (zgt Tryz.prog φ) φ Tryz.f92 [.val 0] (zbc φ):=by
 unfold fnO
 show obl _ _ _ _ _ _ _
 unfold zbc
 repeat' (first | exact trivial |(refine⟨?_,?_⟩) |(intro _) | kernel_rfl)
theorem zx1 (φ:Nat):z02 TV Tryz.prog 92 (zh8 φ):=
 z04 (N:=zgt Tryz.prog φ) (zm ⟨zl3 φ,trivial⟩ trivial trivial) (zbc φ) Tryz.func92 (by kernel_rfl) (zvt φ) (zvv φ)
def zdx (φ:Nat):H TV (RTup TT [.val 48,.val 0]):=(.seq .x (.seq .x (.seq .x (.seq .x (.seq .x (.seq .x (.seq (.seq .x (.body (.loop ⟨[(112,[(1,.val 38),(2,.ptr 0 0),(4,.ptr 1 0),(6,.val 5),(8,.ptr 2 0),(9,.ptr 3 0),(10,.val 5),(11,.val 0)])],[.box 36 [.val 35],.box 56 [.val 0,.own 4,.own 5,.own 6],.box 56 [.val 0,.own 7,.own 8,.own 9],.box 61 [.val 1],.row 69 42,.row 118 44,.row 63 46,.row 69 42,.row 118 44,.row 63 46]⟩ (fun n z=>z2v φ n z.1 z.2.1 z.2.2.1 z.2.2.2.1 z.2.2.2.2.1 z.2.2.2.2.2.1 z.2.2.2.2.2.2.1 z.2.2.2.2.2.2.2.1 z.2.2.2.2.2.2.2.2.1 z.2.2.2.2.2.2.2.2.2.1 z.2.2.2.2.2.2.2.2.2.2.1 z.2.2.2.2.2.2.2.2.2.2.2.1 z.2.2.2.2.2.2.2.2.2.2.2.2.1 z.2.2.2.2.2.2.2.2.2.2.2.2.2.1) (fun zk19=>.x)))) (.seq (.seq .x (.body (.loop ⟨[(112,[(1,.val 38),(2,.ptr 0 0),(4,.ptr 1 0),(6,.val 5),(8,.ptr 2 0),(10,.val 5),(12,.val 0)])],[.box 36 [.val 35],.box 56 [.val 0,.own 3,.own 4,.own 5],.box 56 [.val 0,.own 6,.own 7,.own 8],.row 69 42,.row 118 44,.row 63 46,.row 69 42,.row 118 44,.row 63 46]⟩ (fun n z=>z2u φ n z.1 z.2.1 z.2.2.1 z.2.2.2.1 z.2.2.2.2.1 z.2.2.2.2.2.1 z.2.2.2.2.2.2.1 z.2.2.2.2.2.2.2.1 z.2.2.2.2.2.2.2.2.1 z.2.2.2.2.2.2.2.2.2.1 z.2.2.2.2.2.2.2.2.2.2.1 z.2.2.2.2.2.2.2.2.2.2.2.1 z.2.2.2.2.2.2.2.2.2.2.2.2.1) (fun zk33=>(.seq .x (.seq (.body (.ins 9 66 (.seq .x (.seq .x (.seq .x (.body (.loop ⟨[(181,[(1,.ptr 0 0),(2,.val 5),(3,.val 55),(4,.val 0),(5,.ptr 1 0),(10,.ptr 2 0),(11,.val 0)]),(112,[(1,.val 38),(2,.ptr 3 0),(4,.ptr 4 0),(6,.val 5),(8,.ptr 0 0),(10,.val 5),(12,.val 0),(85,.val 35),(86,.ptr 0 0),(87,.val 5),(88,.val 35),(89,.val 38),(90,.val 5),(91,.val 0),(92,.val 55),(93,.val 0)])],[.box 56 [.val 0,.own 5,.own 6,.own 7],.box 36 [.val 35],.box 61 [.val 1],.box 36 [.val 35],.box 56 [.val 0,.own 8,.own 9,.own 10],.row 69 42,.row 118 44,.row 63 46,.row 69 42,.row 118 44,.row 63 46]⟩ (fun n z=>z3v φ (fun a0 a1 a2 a3 a4 a5 a6 a7 a8 a9 a10 a11 a12=>zk33 (a0,a1,a2,a3,a4,a5,a6,a7,a8,a9,a10,a11,a12,())) n z.1 z.2.1 z.2.2.1 z.2.2.2.1 z.2.2.2.2.1 z.2.2.2.2.2.1 z.2.2.2.2.2.2.1 z.2.2.2.2.2.2.2.1 z.2.2.2.2.2.2.2.2.1 z.2.2.2.2.2.2.2.2.2.1 z.2.2.2.2.2.2.2.2.2.2.1 z.2.2.2.2.2.2.2.2.2.2.2.1 z.2.2.2.2.2.2.2.2.2.2.2.2.1 z.2.2.2.2.2.2.2.2.2.2.2.2.2.1 z.2.2.2.2.2.2.2.2.2.2.2.2.2.2.1 z.2.2.2.2.2.2.2.2.2.2.2.2.2.2.2.1 z.2.2.2.2.2.2.2.2.2.2.2.2.2.2.2.2.1 z.2.2.2.2.2.2.2.2.2.2.2.2.2.2.2.2.2.1 z.2.2.2.2.2.2.2.2.2.2.2.2.2.2.2.2.2.2.1 z.2.2.2.2.2.2.2.2.2.2.2.2.2.2.2.2.2.2.2.1 z.2.2.2.2.2.2.2.2.2.2.2.2.2.2.2.2.2.2.2.2.1 z.2.2.2.2.2.2.2.2.2.2.2.2.2.2.2.2.2.2.2.2.2.1 z.2.2.2.2.2.2.2.2.2.2.2.2.2.2.2.2.2.2.2.2.2.2.1 z.2.2.2.2.2.2.2.2.2.2.2.2.2.2.2.2.2.2.2.2.2.2.2.1 z.2.2.2.2.2.2.2.2.2.2.2.2.2.2.2.2.2.2.2.2.2.2.2.2.1 z.2.2.2.2.2.2.2.2.2.2.2.2.2.2.2.2.2.2.2.2.2.2.2.2.2.1 z.2.2.2.2.2.2.2.2.2.2.2.2.2.2.2.2.2.2.2.2.2.2.2.2.2.2.1) (fun zk62=>(.seq .x (.seq (.body (.seq .x (.seq .x (.seq .x (.seq (.join ⟨[(181,[(1,.ptr 0 0),(2,.val 5),(3,.val 55),(4,.val 0),(5,.ptr 1 0),(10,.ptr 2 0),(11,.val 0),(12,.val 0)]),(112,[(1,.val 38),(2,.ptr 3 0),(4,.ptr 4 0),(6,.val 5),(8,.ptr 0 0),(10,.val 5),(12,.val 0),(85,.val 35),(86,.ptr 0 0),(87,.val 5),(88,.val 35),(89,.val 38),(90,.val 5),(91,.val 0),(92,.val 55),(93,.val 0)])],[.box 56 [.val 0,.own 5,.own 6,.own 7],.box 36 [.val 35],.box 61 [.val 1],.box 36 [.val 35],.box 56 [.val 0,.own 8,.own 9,.own 10],.row 69 42,.row 118 44,.row 63 46,.row 69 42,.row 118 44,.row 63 46]⟩ (fun z=>z6r φ (fun a0 a1 a2 a3 a4 a5 a6 a7 a8 a9 a10 a11 a12 a13 a14 a15 a16 a17 a18 a19 a20 a21 a22 a23 a24 a25 a26=>zk62 (a0,a1,a2,a3,a4,a5,a6,a7,a8,a9,a10,a11,a12,a13,a14,a15,a16,a17,a18,a19,a20,a21,a22,a23,a24,a25,a26,())) z.1 z.2.1 z.2.2.1 z.2.2.2.1 z.2.2.2.2.1 z.2.2.2.2.2.1 z.2.2.2.2.2.2.1 z.2.2.2.2.2.2.2.1 z.2.2.2.2.2.2.2.2.1 z.2.2.2.2.2.2.2.2.2.1 z.2.2.2.2.2.2.2.2.2.2.1 z.2.2.2.2.2.2.2.2.2.2.2.1 z.2.2.2.2.2.2.2.2.2.2.2.2.1 z.2.2.2.2.2.2.2.2.2.2.2.2.2.1 z.2.2.2.2.2.2.2.2.2.2.2.2.2.2.1 z.2.2.2.2.2.2.2.2.2.2.2.2.2.2.2.1 z.2.2.2.2.2.2.2.2.2.2.2.2.2.2.2.2.1 z.2.2.2.2.2.2.2.2.2.2.2.2.2.2.2.2.2.1 z.2.2.2.2.2.2.2.2.2.2.2.2.2.2.2.2.2.2.1 z.2.2.2.2.2.2.2.2.2.2.2.2.2.2.2.2.2.2.2.1 z.2.2.2.2.2.2.2.2.2.2.2.2.2.2.2.2.2.2.2.2.1 z.2.2.2.2.2.2.2.2.2.2.2.2.2.2.2.2.2.2.2.2.2.1 z.2.2.2.2.2.2.2.2.2.2.2.2.2.2.2.2.2.2.2.2.2.2.1 z.2.2.2.2.2.2.2.2.2.2.2.2.2.2.2.2.2.2.2.2.2.2.2.1 z.2.2.2.2.2.2.2.2.2.2.2.2.2.2.2.2.2.2.2.2.2.2.2.2.1 z.2.2.2.2.2.2.2.2.2.2.2.2.2.2.2.2.2.2.2.2.2.2.2.2.2.1 z.2.2.2.2.2.2.2.2.2.2.2.2.2.2.2.2.2.2.2.2.2.2.2.2.2.2.1 z.2.2.2.2.2.2.2.2.2.2.2.2.2.2.2.2.2.2.2.2.2.2.2.2.2.2.2.1) (.seq .x .x)) .x))))) .x)))))))) .x)) .x)))))) .x))))))))
def zjd (P:Program) (φ:Nat):Env TV:=⟨P,lk [(63,zel φ),(64,zew φ),(67,zgv φ),(92,zh8 φ)],lk [],lk []⟩
theorem zyi (φ:Nat) (a) :(z9k φ).F a=fnX TV (zjd Tryz.prog φ) φ Tryz.f39 [35,38] [.val 48,.val 0] (zdx φ) a:=by kernel_rfl
theorem y0j (φ:Nat):fnO TV (zjd Tryz.prog φ) φ Tryz.f39 [.val 48,.val 0] (zdx φ):=by
 unfold fnO
 show obl _ _ _ _ _ _ _
 unfold zdx
 repeat' (first | exact trivial |(refine⟨?_,?_⟩) |(intro _) | kernel_rfl)
theorem zj7 (φ:Nat):z02 TV Tryz.prog 39 (z9k φ):=
 z04 (N:=zjd Tryz.prog φ) (zm ⟨zuw φ,zv9 φ,zwd φ,zx1 φ,trivial⟩ trivial trivial) (zdx φ) Tryz.func39 (by kernel_rfl) (zyi φ) (y0j φ)
def zdr (φ:Nat):H TV (RTup TT [.val 0]):=(.seq .x (.seq .x (.seq .x (.seq (.seq .x (.body (.loop ⟨[(56,[(0,.val 0),(1,.val 43),(5,.val 0)])],[]⟩ (fun n z=>z61 φ n z.1 z.2.1 z.2.2.1) (fun zk6=>.x)))) .x))))
def zjc (P:Program) (φ:Nat):Env TV:=⟨P,lk [],lk [],lk []⟩
theorem zz8 (φ:Nat) (a) :(zdq φ).F a=fnX TV (zjc Tryz.prog φ) φ Tryz.f68 [0,43] [.val 0] (zdr φ) a:=by kernel_rfl
theorem zy1 (φ:Nat):fnO TV (zjc Tryz.prog φ) φ Tryz.f68 [.val 0] (zdr φ):=by
 unfold fnO
 show obl _ _ _ _ _ _ _
 unfold zdr
 repeat' (first | exact trivial |(refine⟨?_,?_⟩) |(intro _) | kernel_rfl)
theorem zpi (φ:Nat):z02 TV Tryz.prog 68 (zdq φ):=
 z04 (N:=zjc Tryz.prog φ) (zm trivial trivial trivial) (zdr φ) Tryz.func68 (by kernel_rfl) (zz8 φ) (zy1 φ)
def z9t (φ:Nat):H TV (RTup TT [.val 5,.val 5,.val 0]):=(.seq .x (.seq .x (.seq .x (.seq (.seq .x (.body (.loop ⟨[(80,[(0,.val 0),(1,.val 43),(7,.own 0),(8,.own 1),(9,.val 0)])],[.row 3 0,.row 3 0]⟩ (fun n z=>z4a φ n z.1 z.2.1 z.2.2.1 z.2.2.2.1 z.2.2.2.2.1) (fun zk8=>.x)))) (.seq .x (.seq (.seq .x (.body (.loop ⟨[(80,[(0,.val 0),(1,.val 43),(7,.own 0),(8,.own 1),(10,.val 0),(11,.val 0)])],[.row 3 0,.row 3 0]⟩ (fun n z=>z2j φ n z.1 z.2.1 z.2.2.1 z.2.2.2.1 z.2.2.2.2.1 z.2.2.2.2.2.1) (fun zk15=>(.seq .x (.seq (.body (.seq .x (.seq .x (.body (.loop ⟨[(80,[(0,.val 0),(1,.val 43),(7,.own 0),(8,.own 1),(10,.val 0),(11,.val 0),(12,.val 0)])],[.row 3 0,.row 3 0]⟩ (fun n z=>z1s φ (fun a0 a1 a2 a3 a4 a5=>zk15 (a0,a1,a2,a3,a4,a5,())) n z.1 z.2.1 z.2.2.1 z.2.2.2.1 z.2.2.2.2.1 z.2.2.2.2.2.1 z.2.2.2.2.2.2.1) (fun zk23=>.x)))))) .x)))))) .x))))))
def zfh (P:Program) (φ:Nat):Env TV:=⟨P,lk [],lk [],lk []⟩
theorem zui (φ:Nat) (a) :(zfd φ).F a=fnX TV (zfh Tryz.prog φ) φ Tryz.f69 [0,43] [.val 5,.val 5,.val 0] (z9t φ) a:=by kernel_rfl
theorem zt5 (φ:Nat):fnO TV (zfh Tryz.prog φ) φ Tryz.f69 [.val 5,.val 5,.val 0] (z9t φ):=by
 unfold fnO
 show obl _ _ _ _ _ _ _
 unfold z9t
 repeat' (first | exact trivial |(refine⟨?_,?_⟩) |(intro _) | kernel_rfl)
theorem zua (φ:Nat):z02 TV Tryz.prog 69 (zfd φ):=
 z04 (N:=zfh Tryz.prog φ) (zm trivial trivial trivial) (z9t φ) Tryz.func69 (by kernel_rfl) (zui φ) (zt5 φ)
def zde (φ:Nat):H TV (RTup TT [.val 5,.val 0]):=.x
def zi4 (P:Program) (φ:Nat):Env TV:=⟨P,lk [(68,zdq φ),(69,zfd φ)],lk [],lk []⟩
theorem zz9 (φ:Nat) (a) :(z9p φ).F a=fnX TV (zi4 Tryz.prog φ) φ Tryz.f40 [0,43] [.val 5,.val 0] (zde φ) a:=by kernel_rfl
theorem zzk (φ:Nat):fnO TV (zi4 Tryz.prog φ) φ Tryz.f40 [.val 5,.val 0] (zde φ):=by
 unfold fnO
 show obl _ _ _ _ _ _ _
 unfold zde
 repeat' (first | exact trivial |(refine⟨?_,?_⟩) |(intro _) | kernel_rfl)
theorem zig (φ:Nat):z02 TV Tryz.prog 40 (z9p φ):=
 z04 (N:=zi4 Tryz.prog φ) (zm ⟨zpi φ,zua φ,trivial⟩ trivial trivial) (zde φ) Tryz.func40 (by kernel_rfl) (zz9 φ) (zzk φ)
def zcu (φ:Nat):H TV (RTup TT [.val 0,.val 2,.val 0]):=(.seq .x (.seq .x (.seq .x (.seq .x (.seq .x (.seq .x (.seq .x (.seq .x (.seq .x (.seq .x (.seq (.body (.loop ⟨[(122,[(1,.val 43),(3,.val 0),(14,.own 0),(15,.own 1),(16,.val 2)])],[.row 3 0,.row 4 2]⟩ (fun n z=>z40 φ n z.1 z.2.1 z.2.2.1 z.2.2.2.1 z.2.2.2.2.1) (fun zk12=>(.seq .x (.body (.seq .x (.seq .x (.body (.loop ⟨[(122,[(1,.val 43),(3,.val 0),(14,.own 0),(15,.own 1),(16,.val 2),(17,.val 0)])],[.row 3 0,.row 4 2]⟩ (fun n z=>z2s φ (fun a0 a1 a2 a3 a4=>zk12 (a0,a1,a2,a3,a4,())) n z.1 z.2.1 z.2.2.1 z.2.2.2.1 z.2.2.2.2.1 z.2.2.2.2.2.1) (fun zk19=>.x)))))))))) .x)))))))))))
def zin (P:Program) (φ:Nat):Env TV:=⟨P,lk [(68,zdq φ),(40,z9p φ)],lk [],lk []⟩
theorem y0m (φ:Nat) (a) :(zhz φ).F a=fnX TV (zin Tryz.prog φ) φ Tryz.f70 [0,43,0,0] [.val 0,.val 2,.val 0] (zcu φ) a:=by kernel_rfl
theorem zyg (φ:Nat):fnO TV (zin Tryz.prog φ) φ Tryz.f70 [.val 0,.val 2,.val 0] (zcu φ):=by
 unfold fnO
 show obl _ _ _ _ _ _ _
 unfold zcu
 repeat' (first | exact trivial |(refine⟨?_,?_⟩) |(intro _) | kernel_rfl)
theorem zzb (φ:Nat):z02 TV Tryz.prog 70 (zhz φ):=
 z04 (N:=zin Tryz.prog φ) (zm ⟨zpi φ,zig φ,trivial⟩ trivial trivial) (zcu φ) Tryz.func70 (by kernel_rfl) (y0m φ) (zyg φ)
def zgc (φ:Nat):H TV (RTup TT [.val 0]):=.x
def zlt (P:Program) (φ:Nat):Env TV:=⟨P,lk [(70,zhz φ)],lk [],lk []⟩
theorem y2q (φ:Nat) (a) :(zc0 φ).F a=fnX TV (zlt Tryz.prog φ) φ Tryz.f41 [48,0,0] [.val 0] (zgc φ) a:=by kernel_rfl
theorem y2f (φ:Nat):fnO TV (zlt Tryz.prog φ) φ Tryz.f41 [.val 0] (zgc φ):=by
 unfold fnO
 show obl _ _ _ _ _ _ _
 unfold zgc
 repeat' (first | exact trivial |(refine⟨?_,?_⟩) |(intro _) | kernel_rfl)
theorem zlq (φ:Nat):z02 TV Tryz.prog 41 (zc0 φ):=
 z04 (N:=zlt Tryz.prog φ) (zm ⟨zzb φ,trivial⟩ trivial trivial) (zgc φ) Tryz.func41 (by kernel_rfl) (y2q φ) (y2f φ)
def zb2 (φ:Nat):H TV (RTup TT [.val 51,.val 0]):=(.seq .x (.seq .x (.seq .x (.seq .x (.seq .x (.seq .x (.seq (.seq .x (.body (.loop ⟨[(68,[(6,.ptr 0 0),(10,.own 1),(11,.val 0)])],[.box 56 [.val 48],.row 65 3]⟩ (fun n z=>z3z φ n z.1 z.2.1 z.2.2.1) (fun zk8=>.x)))) .x)))))))
def zgs (P:Program) (φ:Nat):Env TV:=⟨P,lk [(39,z9k φ),(40,z9p φ),(41,zc0 φ)],lk [],lk []⟩
theorem zw4 (φ:Nat) (a) :(z7w φ).F a=fnX TV (zgs Tryz.prog φ) φ Tryz.f13 [35,38] [.val 51,.val 0] (zb2 φ) a:=by kernel_rfl
theorem zx0 (φ:Nat):fnO TV (zgs Tryz.prog φ) φ Tryz.f13 [.val 51,.val 0] (zb2 φ):=by
 unfold fnO
 show obl _ _ _ _ _ _ _
 unfold zb2
 repeat' (first | exact trivial |(refine⟨?_,?_⟩) |(intro _) | kernel_rfl)
theorem zhe (φ:Nat):z02 TV Tryz.prog 13 (z7w φ):=
 z04 (N:=zgs Tryz.prog φ) (zm ⟨zj7 φ,zig φ,zlq φ,trivial⟩ trivial trivial) (zb2 φ) Tryz.func13 (by kernel_rfl) (zw4 φ) (zx0 φ)
def zdc (φ:Nat):H TV (RTup TT [.val 0]):=.x
def zj8 (P:Program) (φ:Nat):Env TV:=⟨P,lk [(71,z7i φ)],lk [],lk []⟩
theorem y0g (φ:Nat) (a) :(zds φ).F a=fnX TV (zj8 Tryz.prog φ) φ Tryz.f43 [35,0,0] [.val 0] (zdc φ) a:=by kernel_rfl
theorem zz3 (φ:Nat):fnO TV (zj8 Tryz.prog φ) φ Tryz.f43 [.val 0] (zdc φ):=by
 unfold fnO
 show obl _ _ _ _ _ _ _
 unfold zdc
 repeat' (first | exact trivial |(refine⟨?_,?_⟩) |(intro _) | kernel_rfl)
theorem zoe (φ:Nat):z02 TV Tryz.prog 43 (zds φ):=
 z04 (N:=zj8 Tryz.prog φ) (zm ⟨zhp φ,trivial⟩ trivial trivial) (zdc φ) Tryz.func43 (by kernel_rfl) (y0g φ) (zz3 φ)
def zil (φ:Nat):H TV (RTup TT [.val 51]):=(.seq .x (.seq .x (.seq (.seq .x (.body (.loop ⟨[(29,[(0,.val 51),(1,.val 0),(5,.own 0),(6,.val 0)])],[.row 65 3]⟩ (fun n z=>z6o φ n z.1 z.2.1 z.2.2.1 z.2.2.2.1) (fun zk7=>.x)))) .x)))
def zna (P:Program) (φ:Nat):Env TV:=⟨P,lk [],lk [],lk []⟩
theorem y7y (φ:Nat) (a) :(znr φ).F a=fnX TV (zna Tryz.prog φ) φ Tryz.f44 [51,0] [.val 51] (zil φ) a:=by kernel_rfl
theorem y7i (φ:Nat):fnO TV (zna Tryz.prog φ) φ Tryz.f44 [.val 51] (zil φ):=by
 unfold fnO
 show obl _ _ _ _ _ _ _
 unfold zil
 repeat' (first | exact trivial |(refine⟨?_,?_⟩) |(intro _) | kernel_rfl)
theorem y8o (φ:Nat):z02 TV Tryz.prog 44 (znr φ):=
 z04 (N:=zna Tryz.prog φ) (zm trivial trivial trivial) (zil φ) Tryz.func44 (by kernel_rfl) (y7y φ) (y7i φ)
def z9f (φ:Nat):H TV (RTup TT [.val 0,.val 2,.val 0]):=(.seq .x (.seq .x (.seq .x (.seq .x (.seq .x (.seq .x (.seq .x (.seq (.seq .x (.body (.loop ⟨[(70,[(3,.val 0),(14,.val 51),(15,.val 0),(16,.val 0)])],[]⟩ (fun n z=>z3k φ n z.1 z.2.1 z.2.2.1 z.2.2.2.1) (fun zk12=>.x)))) .x))))))))
def zea (P:Program) (φ:Nat):Env TV:=⟨P,lk [(43,zds φ),(13,z7w φ),(44,znr φ)],lk [],lk []⟩
theorem zub (φ:Nat) (a) :(zep φ).F a=fnX TV (zea Tryz.prog φ) φ Tryz.f15 [35,38,0,0] [.val 0,.val 2,.val 0] (z9f φ) a:=by kernel_rfl
theorem zuu (φ:Nat):fnO TV (zea Tryz.prog φ) φ Tryz.f15 [.val 0,.val 2,.val 0] (z9f φ):=by
 unfold fnO
 show obl _ _ _ _ _ _ _
 unfold z9f
 repeat' (first | exact trivial |(refine⟨?_,?_⟩) |(intro _) | kernel_rfl)
theorem zu4 (φ:Nat):z02 TV Tryz.prog 15 (zep φ):=
 z04 (N:=zea Tryz.prog φ) (zm ⟨zoe φ,zhe φ,y8o φ,trivial⟩ trivial trivial) (z9f φ) Tryz.func15 (by kernel_rfl) (zub φ) (zuu φ)
def zim (φ:Nat):H TV (RTup TT [.val 2]):=(.seq .x (.seq .x (.seq .x (.seq (.join ⟨[(123,[(2,.val 51),(3,.val 0),(4,.val 0),(5,.val 0),(6,.val 0),(7,.ptr 0 0),(8,.ptr 1 0),(15,.val 0),(16,.val 0)])],[.box 36 [.val 35],.box 56 [.val 48]]⟩ (fun z=>z73 φ z.1 z.2.1 z.2.2.1 z.2.2.2.1 z.2.2.2.2.1 z.2.2.2.2.2.1 z.2.2.2.2.2.2.1 z.2.2.2.2.2.2.2.1 z.2.2.2.2.2.2.2.2.1) (.seq .x .x)) (.seq (.join ⟨[(123,[(3,.val 0),(4,.val 0),(8,.ptr 0 0),(15,.val 0),(16,.val 0)])],[.box 56 [.val 48]]⟩ (fun z=>z7h φ z.1 z.2.1 z.2.2.1 z.2.2.2.1 z.2.2.2.2.1) (.seq .x .x)) .x)))))
def zo3 (P:Program) (φ:Nat):Env TV:=⟨P,lk [(102,z9c φ),(41,zc0 φ)],lk [],lk []⟩
theorem y8w (φ:Nat) (a) :(zne φ).F a=fnX TV (zo3 Tryz.prog φ) φ Tryz.f74 [35,48,51,0,0,0,0] [.val 2] (zim φ) a:=by kernel_rfl
theorem y8a (φ:Nat):fnO TV (zo3 Tryz.prog φ) φ Tryz.f74 [.val 2] (zim φ):=by
 unfold fnO
 show obl _ _ _ _ _ _ _
 unfold zim
 repeat' (first | exact trivial |(refine⟨?_,?_⟩) |(intro _) | kernel_rfl)
theorem y7f (φ:Nat):z02 TV Tryz.prog 74 (zne φ):=
 z04 (N:=zo3 Tryz.prog φ) (zm ⟨zl3 φ,zlq φ,trivial⟩ trivial trivial) (zim φ) Tryz.func74 (by kernel_rfl) (y8w φ) (y8a φ)
def zhy (φ:Nat):H TV (RTup TT [.val 2]):=(.seq .x (.seq .x (.seq (.seq .x (.body (.loop ⟨[(54,[(2,.val 51),(4,.val 0),(5,.val 0),(6,.val 0),(7,.ptr 0 0),(8,.ptr 1 0),(15,.val 0)])],[.box 36 [.val 35],.box 56 [.val 48]]⟩ (fun n z=>z8u φ n z.1 z.2.1 z.2.2.1 z.2.2.2.1 z.2.2.2.2.1 z.2.2.2.2.2.1 z.2.2.2.2.2.2.1) (fun zk17=>.x)))) .x)))
def znm (P:Program) (φ:Nat):Env TV:=⟨P,lk [(74,zne φ)],lk [],lk []⟩
theorem y9c (φ:Nat) (a) :(znq φ).F a=fnX TV (znm Tryz.prog φ) φ Tryz.f48 [35,48,51,0,0,0,0] [.val 2] (zhy φ) a:=by kernel_rfl
theorem y7k (φ:Nat):fnO TV (znm Tryz.prog φ) φ Tryz.f48 [.val 2] (zhy φ):=by
 unfold fnO
 show obl _ _ _ _ _ _ _
 unfold zhy
 repeat' (first | exact trivial |(refine⟨?_,?_⟩) |(intro _) | kernel_rfl)
theorem y9e (φ:Nat):z02 TV Tryz.prog 48 (znq φ):=
 z04 (N:=znm Tryz.prog φ) (zm ⟨y7f φ,trivial⟩ trivial trivial) (zhy φ) Tryz.func48 (by kernel_rfl) (y9c φ) (y7k φ)
def z8b (φ:Nat):H TV (RTup TT [.val 5,.val 0]):=(.seq .x (.seq .x (.seq .x (.seq .x (.seq .x (.seq .x (.seq .x (.seq (.body (.loop ⟨[(94,[(2,.val 0),(3,.val 0),(4,.ptr 0 0),(11,.val 51),(13,.ptr 1 0),(15,.val 0)])],[.box 36 [.val 35],.box 56 [.val 48]]⟩ (fun n z=>z2z φ n z.1 z.2.1 z.2.2.1 z.2.2.2.1 z.2.2.2.2.1 z.2.2.2.2.2.1) (fun zk14=>.x))) (.seq .x (.seq (.body (.loop ⟨[(94,[(2,.val 0),(3,.val 0),(4,.ptr 0 0),(11,.val 51),(13,.ptr 1 0),(15,.val 0),(16,.val 0)])],[.box 36 [.val 35],.box 56 [.val 48]]⟩ (fun n z=>z31 φ n z.1 z.2.1 z.2.2.1 z.2.2.2.1 z.2.2.2.2.1 z.2.2.2.2.2.1 z.2.2.2.2.2.2.1) (fun zk22=>.x))) (.seq .x (.seq (.seq .x (.body (.loop ⟨[(94,[(3,.val 0),(4,.ptr 0 0),(11,.val 51),(13,.ptr 1 0),(15,.val 0),(16,.val 0),(17,.own 2),(18,.val 0)])],[.box 36 [.val 35],.box 56 [.val 48],.row 3 0]⟩ (fun n z=>z16 φ n z.1 z.2.1 z.2.2.1 z.2.2.2.1 z.2.2.2.2.1 z.2.2.2.2.2.1 z.2.2.2.2.2.2.1 z.2.2.2.2.2.2.2.1) (fun zk31=>.x)))) .x))))))))))))
def zca (P:Program) (φ:Nat):Env TV:=⟨P,lk [(43,zds φ),(13,z7w φ),(39,z9k φ),(48,znq φ)],lk [],lk []⟩
theorem zs3 (φ:Nat) (a) :(zcf φ).F a=fnX TV (zca Tryz.prog φ) φ Tryz.f17 [35,38,0,0] [.val 5,.val 0] (z8b φ) a:=by kernel_rfl
theorem zs5 (φ:Nat):fnO TV (zca Tryz.prog φ) φ Tryz.f17 [.val 5,.val 0] (z8b φ):=by
 unfold fnO
 show obl _ _ _ _ _ _ _
 unfold z8b
 repeat' (first | exact trivial |(refine⟨?_,?_⟩) |(intro _) | kernel_rfl)
theorem zsi (φ:Nat):z02 TV Tryz.prog 17 (zcf φ):=
 z04 (N:=zca Tryz.prog φ) (zm ⟨zoe φ,zhe φ,zj7 φ,y9e φ,trivial⟩ trivial trivial) (z8b φ) Tryz.func17 (by kernel_rfl) (zs3 φ) (zs5 φ)
def z98 (φ:Nat):H TV (RTup TT [.val 51,.val 0]):=(.seq .x (.seq (.ins 2 13 (.seq .x (.seq .x (.seq .x (.seq .x (.seq .x (.seq .x (.seq (.seq .x (.body (.loop ⟨[(68,[(6,.ptr 0 0),(10,.own 1),(11,.val 0)]),(32,[])],[.box 56 [.val 48],.row 65 3]⟩ (fun n z=>z29 φ n z.1 z.2.1 z.2.2.1) (fun zk16=>.x)))) .x))))))) .x) (.seq (.seq .x (.body (.loop ⟨[(32,[(6,.own 0),(7,.val 0),(8,.val 0)])],[.row 65 3]⟩ (fun n z=>z3j φ n z.1 z.2.1 z.2.2.1) (fun zk22=>.x)))) .x)))
def zed (P:Program) (φ:Nat):Env TV:=⟨P,lk [(39,z9k φ),(40,z9p φ),(41,zc0 φ)],lk [],lk []⟩
theorem zvg (φ:Nat) (a) :(zff φ).F a=fnX TV (zed Tryz.prog φ) φ Tryz.f19 [35,38] [.val 51,.val 0] (z98 φ) a:=by kernel_rfl
theorem zuf (φ:Nat):fnO TV (zed Tryz.prog φ) φ Tryz.f19 [.val 51,.val 0] (z98 φ):=by
 unfold fnO
 show obl _ _ _ _ _ _ _
 unfold z98
 repeat' (first | exact trivial |(refine⟨?_,?_⟩) |(intro _) | kernel_rfl)
theorem zup (φ:Nat):z02 TV Tryz.prog 19 (zff φ):=
 z04 (N:=zed Tryz.prog φ) (zm ⟨zj7 φ,zig φ,zlq φ,trivial⟩ trivial trivial) (z98 φ) Tryz.func19 (by kernel_rfl) (zvg φ) (zuf φ)
def z0y (φ:Nat):H TV (RTup TT [.val 2]):=.x
def z2h (P:Program) (φ:Nat):Env TV:=⟨P,lk [(10,zkf φ),(11,znw φ),(12,z8d φ),(13,z7w φ),(14,z5e φ),(15,zep φ),(16,z6l φ),(17,zcf φ),(18,z7a φ),(19,zff φ),(20,z6h φ),(21,z85 φ)],lk [],lk []⟩
theorem zaa (φ:Nat) (a) :(z10 φ).F a=fnX TV (z2h Tryz.prog φ) φ Tryz.f3 [35,38,0,0] [.val 2] (z0y φ) a:=by kernel_rfl
theorem zax (φ:Nat):fnO TV (z2h Tryz.prog φ) φ Tryz.f3 [.val 2] (z0y φ):=by
 unfold fnO
 show obl _ _ _ _ _ _ _
 unfold z0y
 repeat' (first | exact trivial |(refine⟨?_,?_⟩) |(intro _) | kernel_rfl)
theorem za6 (φ:Nat):z02 TV Tryz.prog 3 (z10 φ):=
 z04 (N:=z2h Tryz.prog φ) (zm ⟨y2x φ,y8r φ,zjt φ,zhe φ,zaq φ,zu4 φ,zg5 φ,zsi φ,zhj φ,zup φ,zgf φ,zjv φ,trivial⟩ trivial trivial) (z0y φ) Tryz.func3 (by kernel_rfl) (zaa φ) (zax φ)
end Px
end
section
namespace Px
open Go
theorem z49 (φ:Nat) (a b c:Int):z03 φ a b c=some (bet a b c,()):=rfl
def zn1 (t:z3e):Bool:=
 bet t.load 0 1000000&&bet t.tare 0 1000000&&bet t.length 0 1000000&&bet t.brake 0 1000000&&bet t.gauge 0 7&&bet t.life 1 1073741824&&bet t.floor 0 100
def zgw (n:Int) (w:ztp):Bool:=
 bet w.type_ 0 (n-1)&&bet w.owner 0 63&&bet w.home 0 511&&bet w.built 0 1073741824&&bet w.worth 0 1099511627776
def zo9 (n:Int) (s:Swap):Bool:=bet s.wanted 0 (n-1)&&bet s.given 0 (n-1)&&(s.wanted !=s.given)&&bet s.cost 0 1000000000
def y4k (w:Wash):Bool:=bet w.from_ 0 63&&bet w.to 0 63&&(w.from_ !=w.to)&&bet w.minutes 0 100000
def keyW (w:Wash):Int:=64*w.from_+w.to
def z4g (l:List Wash) (i:Nat):Bool:=y4k (gt l (i:Int))&&!(l.take i).any fun v=>keyW v==keyW (gt l (i:Int))
def z6e (l:List Wash):Bool:=(List.range l.length).all (z4g l)
def z5j (x:zc8):Int:=
 bif decide (32<x.types.length)||decide (4096<x.wagons.length)||decide (1024<x.swaps.length)||decide (4096<x.washes.length) then 2 else
 bif x.types.all zn1&&x.wagons.all (zgw x.types.length)&&x.swaps.all (zo9 x.types.length)&&z6e x.washes then 0 else 1
theorem zbb (p:Nat->Bool) (i:Nat) :(List.range (i+1)).all p =((List.range i).all p&&p i):=by
 rw [List.range_succ,List.all_append]; simp
theorem zr3 (φ:Nat) (x:zc8) (hl:x.swaps.length<=1024) (ht:x.types.length<=32) :
  ∀ n s,x.swaps.length<n->z1d φ n x.swaps (x.swaps.length:Int) 0 x s=z0a φ φ x.washes (x.washes.length:Int) 0 (bif x.swaps.all (zo9 (x.types.length:Int)) then s else 1) (fun _=>default):=by
 have hp:W ((x.types.length:Int)-1) =(x.types.length:Int)-1:=W_id (by omega) (by omega)
 refine zst (fun n i s=>z1d φ n x.swaps (x.swaps.length:Int) i x s) (fun s=>z0a φ φ x.washes (x.washes.length:Int) 0 s (fun _=>default)) _ _ ?_ ?_
 ·intro n i s hi
  have hW:W ((i:Int)+1) =(i:Int)+1:=W_id (by omega) (by omega)
  rw [z1d,if_pos (by simp; omega),z7 ⟨by omega,by omega⟩]
  simp only [z49,Option.bind_some,zo9,zp,hW,hp]
  cases bet (gt x.swaps i).wanted 0 ((x.types.length:Int)-1) <;> cases bet (gt x.swaps i).given 0 ((x.types.length:Int)-1) <;> cases ((gt x.swaps i).wanted !=(gt x.swaps i).given) <;>
   cases bet (gt x.swaps i).cost 0 1000000000 <;> rfl
 ·intro n s
  rw [z1d,if_neg (by simp)]
theorem zp9 (φ:Nat) (x:zc8) (hl:x.wagons.length<=4096) (ht:x.types.length<=32) :
  ∀ n s,x.wagons.length<n->z0r φ n x.wagons (x.wagons.length:Int) 0 x s=z1d φ φ x.swaps (x.swaps.length:Int) 0 x (bif x.wagons.all (zgw (x.types.length:Int)) then s else 1):=by
 have hp:W ((x.types.length:Int)-1) =(x.types.length:Int)-1:=W_id (by omega) (by omega)
 refine zst (fun n i s=>z0r φ n x.wagons (x.wagons.length:Int) i x s) (fun s=>z1d φ φ x.swaps (x.swaps.length:Int) 0 x s) _ _ ?_ ?_
 ·intro n i s hi
  have hW:W ((i:Int)+1) =(i:Int)+1:=W_id (by omega) (by omega)
  rw [z0r,if_pos (by simp; omega),z7 ⟨by omega,by omega⟩]
  simp only [z49,Option.bind_some,zgw,zp,hW,hp]
  cases bet (gt x.wagons i).type_ 0 ((x.types.length:Int)-1) <;> cases bet (gt x.wagons i).owner 0 63 <;> cases bet (gt x.wagons i).home 0 511 <;>
   cases bet (gt x.wagons i).built 0 1073741824 <;> cases bet (gt x.wagons i).worth 0 1099511627776 <;> rfl
 ·intro n s
  rw [z0r,if_neg (by simp)]
theorem zs2 (φ:Nat) (k:List z3e->Int->Int->zc8->Int->Option (Int×Unit)) (ts:List z3e) (len i:Int) (x:zc8) (t:z3e) (n:Nat) (s:Int) (hn:4<n) :
  z2t φ k n ts len i 4 0 x s t [t.load,t.tare,t.length,t.brake]=k ts len (W (i+1)) x (bif zn1 t then s else 1):=by
 have h:=zst (fun n j s=>z2t φ k n ts len i 4 j x s t [t.load,t.tare,t.length,t.brake]) (fun s=>k ts len (W (i+1)) x (bif (bet t.gauge 0 7&&bet t.life 1 1073741824&&bet t.floor 0 100) then s else 1))
  [t.load,t.tare,t.length,t.brake] (fun a=>bet a 0 1000000) (fun n j s hi=>by
   rw [z2t,if_pos (by simp at hi ⊢; omega),z7 ⟨by omega,by omega⟩]
   simp at hi
   have hW:W ((j:Int)+1) =(j:Int)+1:=W_id (by omega) (by omega)
   simp only [z49,Option.bind_some,hW]
   cases bet (gt [t.load,t.tare,t.length,t.brake] (j:Int)) 0 1000000 <;> rfl) (fun n s=>by
   rw [z2t,if_neg (by simp)]
   simp only [z49,Option.bind_some,zp]
   cases bet t.gauge 0 7 <;> cases bet t.life 1 1073741824 <;> cases bet t.floor 0 100 <;> rfl) n s hn
 rw [h]
 simp only [zn1,List.all_cons,List.all_nil]
 cases bet t.load 0 1000000 <;> cases bet t.tare 0 1000000 <;> cases bet t.length 0 1000000 <;> cases bet t.brake 0 1000000 <;>
   cases bet t.gauge 0 7 <;> cases bet t.life 1 1073741824 <;> cases bet t.floor 0 100 <;> rfl
theorem zqr (φ:Nat) (hφ:4<φ) (x:zc8) (hl:x.types.length<=32) :
  ∀ n s,x.types.length<n->z4p φ n x.types (x.types.length:Int) 0 x s=z0r φ φ x.wagons (x.wagons.length:Int) 0 x (bif x.types.all zn1 then s else 1):=by
 refine zst (fun n i s=>z4p φ n x.types (x.types.length:Int) i x s) (fun s=>z0r φ φ x.wagons (x.wagons.length:Int) 0 x s) _ _ ?_ ?_
 ·intro n i s hi
  rw [z4p,if_pos (by simp; omega),z7 ⟨by omega,by omega⟩]
  have hW:W ((i:Int)+1) =(i:Int)+1:=W_id (by omega) (by omega)
  refine(zs2 φ _ x.types (x.types.length:Int) (i:Int) x (gt x.types i) φ s hφ).trans ?_
  rw [hW]
 ·intro n s
  rw [z4p,if_neg (by simp)]
theorem zp3 (φ:Nat) (x:zc8) (hl:x.washes.length<=4096) (n:Nat) (s:Int) (hn:x.washes.length<n) :
  z0a φ n x.washes (x.washes.length:Int) 0 s (fun _=>default)=some (bif z6e x.washes then s else 1,()):=by
 refine zr (fun n i (t:Int×(Nat->Bool))=>z0a φ n x.washes (x.washes.length:Int) i t.1 t.2) x.washes.length
  (fun i t=>t.1 =(bif (List.range i).all (z4g x.washes) then s else 1)/\((List.range i).all (z4g x.washes)=true->∀ j:Nat,t.2 j =(x.washes.take i).any fun v=>keyW v==(j:Int)))
  (fun o=>o=some (bif z6e x.washes then s else 1,())) ?_ ?_ n (s,fun _=>false) ⟨by simp,by simp⟩ hn
 ·intro n i t hi ⟨h1,h2⟩ hs
  have hW:W ((i:Int)+1) =(i:Int)+1:=W_id (by omega) (by omega)
  rw [z0a,if_pos (by simp; omega),z7 ⟨by omega,by omega⟩]
  simp only [z49,Option.bind_some,zp,hW]
  have hok:y4k (gt x.washes i) =(bet (gt x.washes i).from_ 0 63&&bet (gt x.washes i).to 0 63&&((gt x.washes i).from_ !=(gt x.washes i).to)&&bet (gt x.washes i).minutes 0 100000):=rfl
  have hsucc:=zbb (z4g x.washes) i
  cases hw:y4k (gt x.washes i) with
  | false=>
   have hf :(List.range (i+1)).all (z4g x.washes)=false:=by rw [hsucc]; simp [z4g,hw]
   have h3:z0a φ n x.washes (x.washes.length:Int) ((i:Int)+1) 1 t.2=some (bif z6e x.washes then s else 1,()):=hs (1,t.2) ⟨by rw [hf]; rfl,by rw [hf]; intro h; cases h⟩
   rw [hw] at hok
   rw [<- h3]
   generalize bet (gt x.washes i).from_ 0 63=a at *; generalize bet (gt x.washes i).to 0 63=b at *; generalize ((gt x.washes i).from_ !=(gt x.washes i).to)=c at *; generalize bet (gt x.washes i).minutes 0 100000=d at *
   cases a <;> cases b <;> cases c <;> cases d <;> first |(exact absurd hok (by decide)) | rfl
  | true=>
   rw [hw] at hok
   have hb:=hok.symm
   simp only [Bool.and_eq_true] at hb
   obtain⟨⟨⟨b1,b2⟩,b3⟩,b4⟩:=hb
   have c1:=zt7 b1; have c2:=zt7 b2
   simp only [b1,b2,b3,b4,Bool.and_self,if_true,Option.bind_some,Bool.not_true,Bool.false_eq_true,if_false]
   rw [z7 ⟨by omega,by omega⟩,z7 ⟨by omega,by omega⟩]
   have hkey :((gt x.washes i).from_.toNat*64 +(gt x.washes i).to.toNat:Nat) =(keyW (gt x.washes i)).toNat:=by unfold keyW; omega
   have hk0 :((keyW (gt x.washes i)).toNat:Int)=keyW (gt x.washes i):=by unfold keyW; omega
   have key:∀ e,(e=bif (List.range (i+1)).all (z4g x.washes) then s else 1)->
     z0a φ n x.washes (x.washes.length:Int) ((i:Int)+1) e (upd t.2 (keyW (gt x.washes i)).toNat true)=some (bif z6e x.washes then s else 1,()):=by
    intro e he
    refine hs (e,_) ⟨he,fun hall j=>?_⟩
    rw [hsucc,Bool.and_eq_true] at hall
    rw [zic _ _ _ hi,<- h2 hall.1 j]
    show (if j =(keyW (gt x.washes i)).toNat then true else t.2 j)=_
    by_cases hj:j =(keyW (gt x.washes i)).toNat
    ·simp [hj,hk0]
    ·have :(keyW (gt x.washes i)==(j:Int))=false:=by
      simp; intro h; exact hj (by omega)
     simp [hj,this]
   have e64:∀(p:Prop) [Decidable p] (y:Option (Int×Unit)),p->ck p y=y:=fun p _ y hp=>z7 hp
   rw [hkey]
   simp only [e64 _ _ (show (0:Int)<=(gt x.washes i).from_/\(gt x.washes i).from_<64 by omega),e64 _ _ (show (0:Int)<=(gt x.washes i).to/\(gt x.washes i).to<64 by omega)]
   cases hall :(List.range i).all (z4g x.washes) with
   | true=>
    have hat:z4g x.washes i = !(t.2 (keyW (gt x.washes i)).toNat):=by
     rw [h2 hall]; simp only [z4g,hw,Bool.true_and,hk0]
    cases ht2:t.2 (keyW (gt x.washes i)).toNat with
    | true=>
     simp only [Bool.not_true,Bool.not_false,if_true]
     refine key 1 ?_
     rw [hsucc,hat,ht2]; simp
    | false=>
     simp only [Bool.not_true,Bool.not_false,Bool.false_eq_true,if_false]
     refine key t.1 ?_
     rw [hsucc,hat,ht2,h1,hall]; simp
   | false=>
    have hf :(List.range (i+1)).all (z4g x.washes)=false:=by rw [hsucc,hall]; rfl
    have ht1:t.1=1:=by rw [h1,hall]; rfl
    rw [ht1]
    split <;> exact key 1 (by rw [hf]; rfl)
 ·intro n t ⟨h1,_⟩
  rw [z0a,if_neg (by simp),h1]; rfl
theorem zwb (φ:Nat) (hφ:5000<φ) (x:zc8):zj1 φ x=some (z5j x,()):=by
 have e :(((decide (32 <(x.types.length:Int))||decide (4096 <(x.wagons.length:Int)))||decide (1024 <(x.swaps.length:Int)))||decide (4096 <(x.washes.length:Int))) =
   (decide (32<x.types.length)||decide (4096<x.wagons.length)||decide (1024<x.swaps.length)||decide (4096<x.washes.length)):=by
  congr 1
  ·congr 1
   ·congr 1 <;>(apply decide_eq_decide.2; omega)
   ·apply decide_eq_decide.2; omega
  ·apply decide_eq_decide.2; omega
 unfold zj1 z5j
 rw [e]
 cases h :(decide (32<x.types.length)||decide (4096<x.wagons.length)||decide (1024<x.swaps.length)||decide (4096<x.washes.length)) with
 | true=>rfl
 | false=>
  simp only [Bool.or_eq_false_iff,decide_eq_false_iff_not,Nat.not_lt] at h
  obtain⟨⟨⟨h1,h2⟩,h3⟩,h4⟩:=h
  rw [if_neg (by simp),zqr φ (by omega) x h1 _ _ (by omega),zp9 _ _ h2 h1 _ _ (by omega),zr3 _ _ h3 h1 _ _ (by omega),zp3 _ _ h4 _ _ (by omega)]
  cases x.types.all zn1 <;> cases x.wagons.all (zgw x.types.length) <;> cases x.swaps.all (zo9 x.types.length) <;> cases z6e x.washes <;> rfl
theorem z6n {x:zc8} (h:z5j x=0):x.types.length<=32/\x.wagons.length<=4096/\x.swaps.length<=1024/\x.washes.length<=4096/\
  (∀ t∈x.types,zn1 t=true)/\(∀ t∈x.wagons,zgw x.types.length t=true)/\(∀ t∈x.swaps,zo9 x.types.length t=true)/\z6e x.washes=true:=by
 unfold z5j at h
 cases h1 :(decide (32<x.types.length)||decide (4096<x.wagons.length)||decide (1024<x.swaps.length)||decide (4096<x.washes.length)) with
 | true=>rw [h1] at h; cases h
 | false=>
  rw [h1] at h
  simp only [Bool.or_eq_false_iff,decide_eq_false_iff_not,Nat.not_lt] at h1
  obtain⟨⟨⟨a1,a2⟩,a3⟩,a4⟩:=h1
  cases h2 :(x.types.all zn1&&x.wagons.all (zgw x.types.length)&&x.swaps.all (zo9 x.types.length)&&z6e x.washes) with
  | false=>rw [h2] at h; cases h
  | true=>
   simp only [Bool.and_eq_true,List.all_eq_true] at h2
   exact⟨a1,a2,a3,a4,h2.1.1.1,h2.1.1.2,h2.1.2,h2.2⟩
end Px
end
section
namespace Px
open Go
theorem zav {c:Int} (h:0<=c) (h':c<18446744073709551616) :(BitVec.ofInt 64 c).toNat=c.toNat:=by
 rw [BitVec.toNat_ofInt]; omega
theorem ymv {n:Nat} (h:n<18446744073709551616):U (n:Int)=n:=U_id (by omega) (by omega)
theorem ylo {a b:Nat} (h:a<18446744073709551616):a&&& b<18446744073709551616:=Nat.lt_of_le_of_lt Nat.and_le_left h
theorem yk1 {k:Nat} (h:k<=63) :(2 ^ k:Nat)<18446744073709551616:=Nat.lt_of_lt_of_le (Nat.pow_lt_pow_right (by decide) (by omega:k<64)) (by decide)
theorem yq8 {c k:Int} (h:0<=c) (hk:0<=k) (hk':k<=63):c.fdiv (2 ^ (min (k:Int).toNat (IntKind.bits .u64))) =((c.toNat / 2 ^ k.toNat:Nat):Int):=by
 have e:min (k:Int).toNat (IntKind.bits .u64)=k.toNat:=by simp [IntKind.bits]; omega
 rw [e]
 have e2 :((2:Int) ^ k.toNat) =((2 ^ k.toNat:Nat):Int):=by simp
 rw [e2,Int.fdiv_eq_ediv_of_nonneg _ (Int.natCast_nonneg _)]
 have:c =(c.toNat:Int):=by omega
 rw [this]; simp
end Px
end
section
namespace Px
open Go
set_option maxRecDepth 100000
theorem ybg :((List.range 256).all fun i=>decide (0<=z6c z0e i/\z6c z0e i<=8/\i<2 ^ (z6c z0e i).toNat/\(0<i->0<z6c z0e i/\2 ^ ((z6c z0e i).toNat-1)<=i)))=true:=by decide +kernel
theorem zuh {i:Int} (h:0<=i) (h':i<256):∃ n:Nat,z6c z0e i=n/\n<=8/\i.toNat<2 ^ n/\(0<i->0<n/\2 ^ (n-1)<=i.toNat):=by
 have:=List.all_eq_true.1 ybg i.toNat (by simp; omega)
 rw [decide_eq_true_eq,show ((i.toNat:Nat):Int)=i by omega] at this
 obtain⟨a,b,c,d⟩:=this
 exact⟨(z6c z0e i).toNat,by omega,by omega,c,fun hi=>⟨by have:=(d (by omega)).1; omega,(d (by omega)).2⟩⟩
def z9y (v:Nat) (n:Nat):Prop:=v<2 ^ n/\(0<v->0<n/\2 ^ (n-1)<=v)
theorem z9y.up {v:Nat} (k:Nat) {n:Nat} (h:z9y (v / 2 ^ k) n) (hv:2 ^ k<=v):z9y v (n+k):=by
 have hp:=Nat.two_pow_pos k
 have hpos:0<v / 2 ^ k:=Nat.div_pos hv hp
 obtain⟨h1,h2⟩:=h
 obtain⟨h3,h4⟩:=h2 hpos
 refine⟨?_,fun _=>⟨by omega,?_⟩⟩
 ·rw [Nat.pow_add]; exact(Nat.div_lt_iff_lt_mul hp).1 h1
 ·have:n+k-1 =(n-1)+k:=by omega
  rw [this,Nat.pow_add]; exact(Nat.le_div_iff_mul_le hp).1 h4
theorem yfr (φ:Nat) (v w:Int) (h:0<=v) (h':v<256) (hw:0<=w) (hw':w<=64):∃ n:Nat,z1u φ v w=some (64 -(w+n),())/\n<=8/\z9y v.toNat n:=by
 obtain⟨n,e,hn,a,b⟩:=zuh h h'
 have e8:IntKind.wrap .u8 v=v:=by simp [IntKind.wrap,IntKind.bits,IntKind.signed]; omega
 refine⟨n,?_,hn,a,fun hv=>b (by omega)⟩
 unfold z1u
 rw [e8,z7 ⟨h,h'⟩,e,W_id (x:=(n:Int)) (by omega) (by omega),W_id (x:=w+n) (by omega) (by omega),W_id (by omega) (by omega)]
theorem sh8 (v:Int):v.fdiv (2 ^ (min (8:Int).toNat 64))=v / 256:=by rw [show ((2:Int) ^ (min (8:Int).toNat 64))=256 by decide]; exact Int.fdiv_eq_ediv_of_nonneg _ (by omega)
theorem sh16 (v:Int):v.fdiv (2 ^ (min (16:Int).toNat 64))=v / 65536:=by rw [show ((2:Int) ^ (min (16:Int).toNat 64))=65536 by decide]; exact Int.fdiv_eq_ediv_of_nonneg _ (by omega)
theorem sh32 (v:Int):v.fdiv (2 ^ (min (32:Int).toNat 64))=v / 4294967296:=by rw [show ((2:Int) ^ (min (32:Int).toNat 64))=4294967296 by decide]; exact Int.fdiv_eq_ediv_of_nonneg _ (by omega)
theorem yln (φ:Nat) (v w:Int) (h:0<=v) (h':v<65536) (hw:0<=w) (hw':w<=48):∃ n:Nat,z27 φ v w=some (64 -(w+n),())/\n<=16/\z9y v.toNat n:=by
 unfold z27
 by_cases c:256<=v
 ·rw [if_pos (by simpa using c),if_pos (by decide),sh8,W_id (by omega) (by omega)]
  obtain⟨n,e,hn,hl⟩:=yfr φ (v / 256) (w+8) (by omega) (by omega) (by omega) (by omega)
  refine⟨n+8,by rw [e]; congr 2; omega,by omega,?_⟩
  refine z9y.up 8 ?_ (by omega)
  rwa [show v.toNat / 2 ^ 8 =(v / 256).toNat by omega]
 ·rw [if_neg (by simpa using c)]
  obtain⟨n,e,hn,hl⟩:=yfr φ v w h (by omega) (by omega) (by omega)
  exact⟨n,e,by omega,hl⟩
theorem ylk (φ:Nat) (v w:Int) (h:0<=v) (h':v<4294967296) (hw:0<=w) (hw':w<=32):∃ n:Nat,z24 φ v w=some (64 -(w+n),())/\n<=32/\z9y v.toNat n:=by
 unfold z24
 by_cases c:65536<=v
 ·rw [if_pos (by simpa using c),if_pos (by decide),sh16,W_id (by omega) (by omega)]
  obtain⟨n,e,hn,hl⟩:=yln φ (v / 65536) (w+16) (by omega) (by omega) (by omega) (by omega)
  refine⟨n+16,by rw [e]; congr 2; omega,by omega,?_⟩
  refine z9y.up 16 ?_ (by omega)
  rwa [show v.toNat / 2 ^ 16 =(v / 65536).toNat by omega]
 ·rw [if_neg (by simpa using c)]
  obtain⟨n,e,hn,hl⟩:=yln φ v w h (by omega) (by omega) (by omega)
  exact⟨n,e,by omega,hl⟩
theorem yrn (φ:Nat) (v:Int) (h:0<=v) (h':v<18446744073709551616):∃ n:Nat,z3t φ v=some (64 -(n:Int),())/\n<=64/\z9y v.toNat n:=by
 unfold z3t
 by_cases c:4294967296<=v
 ·rw [if_pos (by simpa using c),if_pos (by decide),sh32]
  obtain⟨n,e,hn,hl⟩:=ylk φ (v / 4294967296) 32 (by omega) (by omega) (by omega) (by omega)
  refine⟨n+32,by rw [e]; congr 2; omega,by omega,?_⟩
  refine z9y.up 32 ?_ (by omega)
  rwa [show v.toNat / 2 ^ 32 =(v / 4294967296).toNat by omega]
 ·rw [if_neg (by simpa using c)]
  obtain⟨n,e,hn,hl⟩:=ylk φ v 0 h (by omega) (by omega) (by omega)
  exact⟨n,by rw [e]; simp,by omega,hl⟩
theorem ztz {v:Int} (h:0<=v) (h':v<18446744073709551616):U ((BitVec.ofInt 64 v&&& BitVec.ofInt 64 4294967295).toNat)=v % 4294967296:=by
 show U ((BitVec.ofInt 64 v&&& BitVec.ofInt 64 4294967295).toNat:Int)=_
 rw [BitVec.toNat_and,zav h h',zav (by omega) (by omega),ymv (ylo (by omega))]
 have :(4294967295:Int).toNat=2 ^ 32-1:=by decide
 rw [this,Nat.and_two_pow_sub_one_eq_mod]
 omega
theorem zu8 {a b m n:Int} (ha:0<=a) (hb:0<=b) (h:a<=m) (h':b<=n):0<=a*b/\a*b<=m*n:=
 ⟨Int.mul_nonneg ha hb,Int.mul_le_mul h h' hb (by omega)⟩
theorem y9m (φ:Nat) (x y:Int) (hx:0<=x) (hx':x<18446744073709551616) (hy:0<=y) (hy':y<18446744073709551616) :
  z8k φ x y=some (x*y / 18446744073709551616,x*y % 18446744073709551616,()):=by
 unfold z8k
 simp only [show (0:Int)<=32 by decide,if_true]
 rw [ztz hx hx',ztz hy hy']
 simp only [sh32]
 have ex:x=x / 4294967296*4294967296+x % 4294967296:=by omega
 have ey:y=y / 4294967296*4294967296+y % 4294967296:=by omega
 have a1:0<=x / 4294967296/\x / 4294967296<=4294967295:=by omega
 have a0:0<=x % 4294967296/\x % 4294967296<=4294967295:=by omega
 have b1:0<=y / 4294967296/\y / 4294967296<=4294967295:=by omega
 have b0:0<=y % 4294967296/\y % 4294967296<=4294967295:=by omega
 have hxy:x*y =(x / 4294967296) *(y / 4294967296)*18446744073709551616 +((x / 4294967296) *(y % 4294967296) +(x % 4294967296) *(y / 4294967296))*4294967296 +(x % 4294967296) *(y % 4294967296):=by
  conv=>lhs; rw [ex,ey]
  generalize x / 4294967296=a; generalize x % 4294967296=b; generalize y / 4294967296=c; generalize y % 4294967296=d
  rw [Int.add_mul,Int.mul_add,Int.mul_add,Int.add_mul]
  have e1:a*4294967296 *(c*4294967296)=a*c*18446744073709551616:=by
   rw [Int.mul_assoc,Int.mul_left_comm 4294967296 c,<- Int.mul_assoc]; rfl
  have e2:a*4294967296*d=a*d*4294967296:=by rw [Int.mul_right_comm]
  have e3:b *(c*4294967296)=b*c*4294967296:=by rw [Int.mul_assoc]
  rw [e1,e2,e3]; omega
 have p11:=zu8 a1.1 b1.1 a1.2 b1.2
 have p10:=zu8 a1.1 b0.1 a1.2 b0.2
 have p01:=zu8 a0.1 b1.1 a0.2 b1.2
 have p00:=zu8 a0.1 b0.1 a0.2 b0.2
 rw [yf5 (x*y),hxy]
 generalize (x / 4294967296) *(y / 4294967296)=p at *; generalize (x / 4294967296) *(y % 4294967296)=q at *
 generalize (x % 4294967296) *(y / 4294967296)=r at *; generalize (x % 4294967296) *(y % 4294967296)=s at *
 clear hxy ex ey a1 a0 b1 b0
 rw [U_id (x:=p) (by omega) (by omega),U_id (x:=q) (by omega) (by omega),U_id (x:=r) (by omega) (by omega),U_id (x:=s) (by omega) (by omega)]
 rw [U_id (x:=q+s / 4294967296) (by omega) (by omega),ztz (by omega) (by omega),
  U_id (x:=(q+s / 4294967296) % 4294967296+r) (by omega) (by omega),U_id (x:=p +(q+s / 4294967296) / 4294967296) (by omega) (by omega),U_id (by omega) (by omega)]
 refine congrArg some (Prod.ext ?_ rfl)
 show _=_
 omega
theorem yqq {yn1 yn0 u d q r:Int} (h1:2147483648<=yn1) (h1':yn1<4294967296) (h0:0<=yn0) (h0':yn0<4294967296) (hd:0<=d) (hd':d<4294967296) (hu:0<=u)
  (hu':u<yn1*4294967296+yn0) (hqr:q*yn1+r=u) (hr:0<=r) (hr':r<4294967296) (hq :(u*4294967296+d) /(yn1*4294967296+yn0)<=q) :
  0<=q/\q<=4294967297/\0<=(u*4294967296+d) /(yn1*4294967296+yn0)/\(u*4294967296+d) /(yn1*4294967296+yn0)<4294967296/\
  (4294967296<=q\/4294967296*r+d<q*yn0->(u*4294967296+d) /(yn1*4294967296+yn0)<=q-1)/\
  (¬(4294967296<=q\/4294967296*r+d<q*yn0)->q =(u*4294967296+d) /(yn1*4294967296+yn0))/\
  (4294967296<=q\/4294967296*r+d<q*yn0->4294967296<=r+yn1->q-1 =(u*4294967296+d) /(yn1*4294967296+yn0)):=by
 have hY:0<yn1*4294967296+yn0:=by omega
 have hQ0:0<=(u*4294967296+d) /(yn1*4294967296+yn0):=Int.ediv_nonneg (by omega) (by omega)
 have hQ1 :(u*4294967296+d) /(yn1*4294967296+yn0)<4294967296:=Int.ediv_lt_of_lt_mul hY (by omega)
 have hq0:0<=q:=by omega
 have key:q *(yn1*4294967296+yn0) =(u-r)*4294967296+q*yn0:=by
  rw [Int.mul_add,<- Int.mul_assoc,<- hqr]; omega
 have hq2:q<=4294967297:=by
  rcases Int.lt_or_le 4294967297 q with h | h
  ·have:4294967298*yn1<=q*yn1:=Int.mul_le_mul_of_nonneg_right (by omega) (by omega)
   omega
  ·exact h
 have lt_of:∀ {z:Int},(u*4294967296+d) /(yn1*4294967296+yn0)<z↔u*4294967296+d<z *(yn1*4294967296+yn0):=fun {z}=>Int.ediv_lt_iff_lt_mul hY
 refine⟨hq0,hq2,hQ0,hQ1,fun h=>?_,fun h=>?_,fun h hr2=>?_⟩
 ·have :(u*4294967296+d) /(yn1*4294967296+yn0)<q:=by
   rcases h with h | h
   ·omega
   ·rw [lt_of,key]; omega
  omega
 ·have:¬(u*4294967296+d) /(yn1*4294967296+yn0)<q:=by rw [lt_of,key]; omega
  omega
 ·have hq1 :(u*4294967296+d) /(yn1*4294967296+yn0)<q:=by
   rcases h with h | h
   ·omega
   ·rw [lt_of,key]; omega
  have h2:¬(u*4294967296+d) /(yn1*4294967296+yn0)<q-1:=by
   rw [lt_of]
   have e :(q-1) *(yn1*4294967296+yn0) =(u -(r+yn1))*4294967296 +(q-1)*yn0:=by
    have :(q-1)*yn1 +(r+yn1)=u:=by rw [Int.sub_mul]; omega
    rw [Int.mul_add,<- Int.mul_assoc,<- this]; omega
   have b:=(zu8 (by omega:0<=q-1) h0 (by omega:q-1<=4294967296) (by omega:yn0<=4294967295)).2
   rw [e]; omega
  omega
theorem mulB {a b:Int} (h:0<=a) (h':a<4294967296) (g:0<=b) (g':b<4294967296):0<=a*b/\a*b<=18446744065119617025:=
 zu8 h g (by omega:a<=4294967295) (by omega:b<=4294967295)
theorem zxh {ρ:Type} (L:Nat->Int->Int->Option ρ) (k:Int->Option ρ) {yn1 yn0 u d:Int} (h1:2147483648<=yn1) (h1':yn1<4294967296) (h0:0<=yn0) (h0':yn0<4294967296) (hd:0<=d) (hd':d<4294967296) (hu:0<=u)
  (hu':u<yn1*4294967296+yn0)
  (step:∀ n q r,L (n+1) q r=if(decide (4294967296<=q)||decide (U (U (4294967296*r)+d)<U (q*yn0)))=true then(if decide (4294967296<=U (r+yn1))=true then k (U (q-1)) else L n (U (q-1)) (U (r+yn1))) else k q) :
  ∀(n:Nat) q r,q*yn1+r=u->0<=r->r<4294967296->(u*4294967296+d) /(yn1*4294967296+yn0)<=q->4294967296-r<=2147483648*n->L (n+1) q r=k ((u*4294967296+d) /(yn1*4294967296+yn0)):=by
 intro n
 induction n with
 | zero=>intro q r _ _ _ _ h; omega
 | succ n ih=>
  intro q r hqr hr hr' hq hn
  obtain⟨g0,g1,g2,g3,g4,g5,g6⟩:=yqq h1 h1' h0 h0' hd hd' hu hu' hqr hr hr' hq
  have hc :(decide (4294967296<=q)||decide (U (U (4294967296*r)+d)<U (q*yn0)))=true↔(4294967296<=q\/4294967296*r+d<q*yn0):=by
   rw [Bool.or_eq_true,decide_eq_true_eq,decide_eq_true_eq]
   by_cases hqB:4294967296<=q
   ·simp [hqB]
   ·have:=mulB g0 (by omega:q<4294967296) h0 h0'
    rw [U_id (x:=4294967296*r) (by omega) (by omega),U_id (by omega) (by omega),U_id (by omega) (by omega)]
  rw [step]
  by_cases c:4294967296<=q\/4294967296*r+d<q*yn0
  ·have a4:=g4 c
   rw [if_pos (hc.2 c),U_id (x:=r+yn1) (by omega) (by omega),U_id (x:=q-1) (by omega) (by omega)]
   by_cases e:4294967296<=r+yn1
   ·rw [if_pos (by simpa using e),g6 c e]
   ·rw [if_neg (by simpa using e)]
    exact ih _ _ (by rw [Int.sub_mul]; omega) (by omega) (by omega) a4 (by omega)
  ·rw [if_neg (fun h=>c (hc.1 h)),<- g5 c]
theorem zv0 {yn1 yn0 u d:Int} (h1:2147483648<=yn1) (h1':yn1<4294967296) (h0:0<=yn0) (h0':yn0<4294967296) (hd:0<=d) (hd':d<4294967296) (hu:0<=u)
  (hu':u<yn1*4294967296+yn0):U (u.tdiv yn1)=u / yn1/\U (u-U (U (u.tdiv yn1)*yn1))=u % yn1/\u / yn1*yn1+u % yn1=u/\0<=u % yn1/\u % yn1<4294967296/\
  (u*4294967296+d) /(yn1*4294967296+yn0)<=u / yn1:=by
 have e1:u.tdiv yn1=u / yn1:=Int.tdiv_eq_ediv_of_nonneg hu
 have hdm:u / yn1*yn1+u % yn1=u:=by have:=Int.ediv_mul_add_emod u yn1; exact this
 have hm0:=Int.emod_nonneg u (by omega:yn1≠0)
 have hm1:=Int.emod_lt_of_pos u (by omega:0<yn1)
 have hq0:0<=u / yn1:=Int.ediv_nonneg hu (by omega)
 have hq1:u / yn1<=u:=Int.ediv_le_self _ hu
 have hqm:0<=u / yn1*yn1:=Int.mul_nonneg hq0 (by omega)
 rw [e1,U_id hq0 (by omega),U_id (x:=u / yn1*yn1) (by omega) (by omega),U_id (by omega) (by omega)]
 refine⟨rfl,by omega,hdm,hm0,by omega,?_⟩
 have hY:0<yn1*4294967296+yn0:=by omega
 have hQ0:0<=(u*4294967296+d) /(yn1*4294967296+yn0):=Int.ediv_nonneg (by omega) (by omega)
 have hQ:=Int.ediv_mul_le (u*4294967296+d) (b:=yn1*4294967296+yn0) (by omega)
 generalize (u*4294967296+d) /(yn1*4294967296+yn0)=z at *
 rw [Int.mul_add,<- Int.mul_assoc] at hQ
 have:=Int.mul_nonneg hQ0 h0
 exact(Int.le_ediv_iff_mul_le (by omega)).2 (by omega)
theorem ylx (a b c:Int):U (U (U a+b)-U c)=U (a+b-c):=by
 simp only [yf5]; omega
theorem yq3 {a b:Int} {s:Nat} (hs:s<=63) (ha:0<=a) (h:a*2 ^ s<18446744073709551616) (hb:0<=b) (hb':b<2 ^ s) :
  U ((BitVec.ofInt 64 (U (a*2 ^ s))||| BitVec.ofInt 64 b).toNat)=a*2 ^ s+b:=by
 have hp :(0:Int)<2 ^ s:=Int.pow_pos (by decide)
 have hn:=Int.mul_nonneg ha (Int.le_of_lt hp)
 have hp2 :(2:Int) ^ s =((2 ^ s:Nat):Int):=by simp
 have hlt :(2 ^ s:Nat)<18446744073709551616:=yk1 hs
 rw [U_id hn (by omega)]
 show U ((BitVec.ofInt 64 (a*2 ^ s)||| BitVec.ofInt 64 b).toNat:Int)=_
 have hlt2:=(BitVec.ofInt 64 (a*2 ^ s)||| BitVec.ofInt 64 b).isLt
 rw [ymv (by omega),BitVec.toNat_or,zav hn h,zav hb (by omega)]
 obtain⟨n,rfl⟩:=Int.eq_ofNat_of_zero_le ha
 obtain⟨m,rfl⟩:=Int.eq_ofNat_of_zero_le hb
 have e :((n:Int)*2 ^ s).toNat=2 ^ s*n:=by rw [hp2,<- Int.natCast_mul,Int.toNat_natCast,Nat.mul_comm]
 rw [e,Int.toNat_natCast,<- Nat.two_pow_add_eq_or_of_lt (by rw [hp2] at hb'; omega)]
 simp [Int.mul_comm]
theorem zqh (φ:Nat) (v:Int) (h:0<v) (h':v<18446744073709551616):∃ s:Nat,z3t φ v=some ((s:Int),())/\s<=63/\
  9223372036854775808<=v*2 ^ s/\v*2 ^ s<18446744073709551616/\v<=2 ^ (64-s):=by
 obtain⟨n,e,hn,h1,h2⟩:=yrn φ v (by omega) h'
 obtain⟨h3,h4⟩:=h2 (by omega)
 refine⟨64-n,?_,by omega,?_,?_,?_⟩
 ·rw [e]; congr 2; omega
 ·have:2 ^ (n-1)*2 ^ (64-n)<=v.toNat*2 ^ (64-n):=Nat.mul_le_mul_right _ h4
  rw [<- Nat.pow_add,show n-1 +(64-n)=63 by omega] at this
  have e2 :((v.toNat*2 ^ (64-n):Nat):Int)=v*2 ^ (64-n):=by
   rw [Int.natCast_mul,Int.natCast_pow]; congr 1; omega
  omega
 ·have:v.toNat*2 ^ (64-n)<2 ^ n*2 ^ (64-n):=Nat.mul_lt_mul_of_pos_right h1 (Nat.two_pow_pos _)
  rw [<- Nat.pow_add,show n +(64-n)=64 by omega] at this
  have e2 :((v.toNat*2 ^ (64-n):Nat):Int)=v*2 ^ (64-n):=by
   rw [Int.natCast_mul,Int.natCast_pow]; congr 1; omega
  omega
 ·rw [show 64 -(64-n)=n by omega]
  have e2 :((2 ^ n:Nat):Int) =(2:Int) ^ n:=by simp
  omega
theorem yib (φ:Nat) (hφ:5<φ) (hi lo y:Int) (h0:0<=hi) (hy:hi<y) (hy':y<18446744073709551616) (hl:0<=lo) (hl':lo<18446744073709551616) :
  z8n φ hi lo y=some ((hi*18446744073709551616+lo) / y,(hi*18446744073709551616+lo) % y,()):=by
 unfold z8n
 rw [if_neg (by simp; omega),if_neg (by simp; omega)]
 by_cases hz:hi=0
 ·subst hz
  rw [if_pos (by simp),z7 (by omega),z7 (by omega),Int.tdiv_eq_ediv_of_nonneg hl,Int.tmod_eq_emod_of_nonneg hl,U_id (Int.ediv_nonneg hl (by omega)) (by have:=Int.ediv_le_self y hl; omega)]
  simp
 rw [if_neg (by simpa using hz)]
 obtain⟨s,es,hs,hY1,hY2,hyP⟩:=zqh φ y (by omega) hy'
 have em1:min (s:Int).toNat 64=s:=by omega
 have em2:min (64 -(s:Int)).toNat 64=64-s:=by omega
 have hp :(0:Int)<2 ^ s:=Int.pow_pos (by decide)
 have hP :(0:Int)<2 ^ (64-s):=Int.pow_pos (by decide)
 have hpP :(2:Int) ^ s*2 ^ (64-s)=18446744073709551616:=by rw [<- Int.pow_add,show s +(64-s)=64 by omega]; rfl
 have hhp:hi*2 ^ s<y*2 ^ s:=Int.mul_lt_mul_of_pos_right hy hp
 have hlP0:0<=lo / 2 ^ (64-s):=Int.ediv_nonneg hl (by omega)
 have hlP1:lo / 2 ^ (64-s)<2 ^ s:=Int.ediv_lt_of_lt_mul hP (by omega)
 have hh0:0<=hi*2 ^ s:=Int.mul_nonneg h0 (by omega)
 -- the low word
 have hlo10:U (lo*2 ^ s)=lo % 2 ^ (64-s)*2 ^ s:=by
  have e:lo=lo / 2 ^ (64-s)*2 ^ (64-s)+lo % 2 ^ (64-s):=(Int.ediv_mul_add_emod lo _).symm
  have e2:lo*2 ^ s=lo / 2 ^ (64-s)*18446744073709551616+lo % 2 ^ (64-s)*2 ^ s:=by
   conv=>lhs; rw [e]
   rw [Int.add_mul,Int.mul_assoc,Int.mul_comm (2 ^ (64-s)),hpP]
  have m0:=Int.emod_nonneg lo (by omega :(2:Int) ^ (64-s)≠0)
  have m1:=Int.emod_lt_of_pos lo hP
  have m2:lo % 2 ^ (64-s)*2 ^ s<2 ^ (64-s)*2 ^ s:=Int.mul_lt_mul_of_pos_right m1 hp
  have m3:=Int.mul_nonneg m0 (Int.le_of_lt hp)
  rw [Int.mul_comm (2 ^ (64-s))] at m2
  rw [e2,yf5]; omega
 have hN :(hi*2 ^ s+lo / 2 ^ (64-s))*18446744073709551616+lo % 2 ^ (64-s)*2 ^ s =(hi*18446744073709551616+lo)*2 ^ s:=by
  have e:lo=lo / 2 ^ (64-s)*2 ^ (64-s)+lo % 2 ^ (64-s):=(Int.ediv_mul_add_emod lo _).symm
  have e2:lo*2 ^ s=lo / 2 ^ (64-s)*18446744073709551616+lo % 2 ^ (64-s)*2 ^ s:=by
   conv=>lhs; rw [e]
   rw [Int.add_mul,Int.mul_assoc,Int.mul_comm (2 ^ (64-s)),hpP]
  have e3 :(hi*18446744073709551616+lo)*2 ^ s=hi*2 ^ s*18446744073709551616+lo*2 ^ s:=by rw [Int.add_mul,Int.mul_right_comm]
  rw [e3,e2]; omega
 have hun0:0<=lo % 2 ^ (64-s)*2 ^ s:=Int.mul_nonneg (Int.emod_nonneg lo (by omega)) (by omega)
 have hun1:lo % 2 ^ (64-s)*2 ^ s<18446744073709551616:=by
  rw [<- hlo10,yf5]; omega
 have hu':hi*2 ^ s+lo / 2 ^ (64-s)<y*2 ^ s:=by
  have :(hi+1)*2 ^ s<=y*2 ^ s:=Int.mul_le_mul_of_nonneg_right (by omega) (by omega)
  rw [Int.add_mul] at this; omega
 have hs1:U (s:Int)=s:=U_id (by omega) (by omega)
 have hs2:U (64 -(s:Int))=64 -(s:Int):=U_id (by omega) (by omega)
 have ef:lo.fdiv (2 ^ (64-s))=lo / 2 ^ (64-s):=Int.fdiv_eq_ediv_of_nonneg _ (by omega)
 have eor:=yq3 hs h0 (by omega:hi*2 ^ s<18446744073709551616) hlP0 hlP1
 obtain⟨Y,hYd⟩:∃ Y,Y=y*2 ^ s:=⟨_,rfl⟩
 have eY:U (y*2 ^ s)=Y:=by rw [hYd]; exact U_id (by omega) (by omega)
 obtain⟨u,hud⟩:∃ u,u=hi*2 ^ s+lo / 2 ^ (64-s):=⟨_,rfl⟩
 obtain⟨w,hwd⟩:∃ w,w=lo % 2 ^ (64-s)*2 ^ s:=⟨_,rfl⟩
 rw [<- hwd] at hlo10 hN hun0 hun1
 rw [<- hud] at hN hu' eor
 rw [<- hYd] at hu' hY1 hY2 hhp
 have hu0:0<=u:=by omega
 have fY:Y.fdiv 4294967296=Y / 4294967296:=Int.fdiv_eq_ediv_of_nonneg _ (by omega)
 have fw:w.fdiv 4294967296=w / 4294967296:=Int.fdiv_eq_ediv_of_nonneg _ (by omega)
 have mY:=ztz (v:=Y) (by omega) (by omega)
 have mw:=ztz (v:=w) (by omega) (by omega)
 have b1:2147483648<=Y / 4294967296/\Y / 4294967296<4294967296/\0<=Y % 4294967296/\Y % 4294967296<4294967296:=by omega
 have b2:0<=w / 4294967296/\w / 4294967296<4294967296/\0<=w % 4294967296/\w % 4294967296<4294967296:=by omega
 have eYs:Y / 4294967296*4294967296+Y % 4294967296=Y:=by omega
 obtain⟨m,rfl⟩:∃ m,φ=m+3:=⟨φ-3,by omega⟩
 rw [es]
 simp only [Option.bind_some,hs1,hs2,em1,em2,sh32,eY,hlo10,mY,mw,ef,eor,show (0:Int)<=32 by decide,if_true]
 rw [z7 (by omega),z7 (by omega),z7 (by omega),z7 (by omega),z7 (by omega)]
 obtain⟨i1,i2,i3,i4,i5,i6⟩:=zv0 (u:=u) (d:=w / 4294967296) b1.1 b1.2.1 b1.2.2.1 b1.2.2.2 b2.1 b2.2.1 hu0 (by omega)
 rw [i1] at i2 ⊢
 rw [i2]
 refine(zxh (fun n q r=>z7s (m+3) n Y s (Y / 4294967296) (Y % 4294967296) u (w / 4294967296) (w % 4294967296) q r) (fun q=>z7y (m+3) Y s (Y / 4294967296) (Y % 4294967296) u (w / 4294967296) (w % 4294967296) q)
  b1.1 b1.2.1 b1.2.2.1 b1.2.2.2 b2.1 b2.2.1 hu0 (by omega) (fun n q r=>by rw [z7s]) (m+2) _ _ i3 i4 i5 i6 (by omega)).trans ?_
 rw [eYs]
 unfold z7y
 rw [z7 (by omega)]
 have hQ1:0<=(u*4294967296+w / 4294967296) / Y/\(u*4294967296+w / 4294967296) / Y<4294967296:=⟨Int.ediv_nonneg (by omega) (by omega),Int.ediv_lt_of_lt_mul (by omega) (by omega)⟩
 have hR1:=Int.ediv_mul_add_emod (u*4294967296+w / 4294967296) Y
 have hR1a:=Int.emod_nonneg (u*4294967296+w / 4294967296) (by omega:Y≠0)
 have hR1b:=Int.emod_lt_of_pos (u*4294967296+w / 4294967296) (by omega:0<Y)
 generalize (u*4294967296+w / 4294967296) / Y=q1 at *
 generalize (u*4294967296+w / 4294967296) % Y=r1 at *
 have eu21:U (U (U (u*4294967296)+w / 4294967296)-U (q1*Y))=r1:=by
  rw [ylx,show u*4294967296+w / 4294967296-q1*Y=r1 by omega]; exact U_id hR1a (by omega)
 rw [eu21]
 obtain⟨j1,j2,j3,j4,j5,j6⟩:=zv0 (u:=r1) (d:=w % 4294967296) b1.1 b1.2.1 b1.2.2.1 b1.2.2.2 b2.2.2.1 b2.2.2.2 hR1a (by omega)
 rw [j1] at j2 ⊢
 rw [j2]
 refine(zxh (fun n q r=>z80 (m+3) n Y s (Y / 4294967296) (Y % 4294967296) (w % 4294967296) q1 r r1 q) (fun q=>z7r (m+3) Y s (w % 4294967296) q1 r1 q)
  b1.1 b1.2.1 b1.2.2.1 b1.2.2.2 b2.2.2.1 b2.2.2.2 hR1a (by omega) (fun n q r=>by rw [z80]) (m+2) _ _ j3 j4 j5 j6 (by omega)).trans ?_
 rw [eYs]
 unfold z7r
 rw [em1,z7 (by omega)]
 have hQ0:0<=(r1*4294967296+w % 4294967296) / Y/\(r1*4294967296+w % 4294967296) / Y<4294967296:=⟨Int.ediv_nonneg (by omega) (by omega),Int.ediv_lt_of_lt_mul (by omega) (by omega)⟩
 have hR0:=Int.ediv_mul_add_emod (r1*4294967296+w % 4294967296) Y
 have hR0a:=Int.emod_nonneg (r1*4294967296+w % 4294967296) (by omega:Y≠0)
 have hR0b:=Int.emod_lt_of_pos (r1*4294967296+w % 4294967296) (by omega:0<Y)
 generalize (r1*4294967296+w % 4294967296) / Y=q0 at *
 generalize (r1*4294967296+w % 4294967296) % Y=r0 at *
 rw [ylx,show r1*4294967296+w % 4294967296-q0*Y=r0 by omega,U_id (x:=r0) hR0a (by omega),U_id (x:=q1*4294967296) (by omega) (by omega),U_id (by omega) (by omega),Int.fdiv_eq_ediv_of_nonneg _ (by omega)]
 have hall :(hi*18446744073709551616+lo -(q1*4294967296+q0)*y)*2 ^ s=r0:=by
  rw [Int.sub_mul,<- hN,Int.mul_assoc,<- hYd,Int.add_mul,Int.mul_right_comm]; omega
 have hz0:0<=hi*18446744073709551616+lo -(q1*4294967296+q0)*y:=by
  rcases Int.lt_or_le (hi*18446744073709551616+lo -(q1*4294967296+q0)*y) 0 with h | h
  ·have:=Int.mul_neg_of_neg_of_pos h hp; omega
  ·exact h
 have hz1:hi*18446744073709551616+lo -(q1*4294967296+q0)*y<y:=by
  refine Int.lt_of_mul_lt_mul_right (a:=2 ^ s) ?_ (by omega)
  rw [hall,<- hYd]; exact hR0b
 have hr0:r0 / 2 ^ s=hi*18446744073709551616+lo -(q1*4294967296+q0)*y:=by
  rw [<- hall]; exact Int.mul_ediv_cancel _ (by omega)
 have hdm :(hi*18446744073709551616+lo) / y=q1*4294967296+q0/\(hi*18446744073709551616+lo) % y=hi*18446744073709551616+lo -(q1*4294967296+q0)*y:=
  (Int.ediv_emod_unique (by omega)).2 ⟨by rw [Int.mul_comm y]; omega,hz0,hz1⟩
 rw [hr0,hdm.1,hdm.2]
end Px
end
section
namespace Px
open Go
set_option maxRecDepth 100000
def PP:Nat:=2305843009213690799
def QQ:Nat:=1152921504606845399
def pw (b n:Nat):Nat:=b ^ n % PP
theorem y6d (b n:Nat):pw b n<PP:=Nat.mod_lt _ (by decide)
theorem zyl (b:Nat):pw b 0=1:=by simp [pw,PP]
theorem yds (b m n:Nat):pw b m*pw b n % PP=pw b (m+n):=by
 unfold pw; rw [Nat.pow_add,<- Nat.mul_mod]
theorem yls (b:Nat):pw b 1=b % PP:=by simp [pw]
theorem yqa {a:Nat} (h:a<PP) :((a:Int)).tmod 2305843009213690799 =(a:Int):=by
 unfold PP at h
 rw [Int.tmod_eq_emod_of_nonneg (by omega)]; omega
theorem ypn (b:Nat) :((b:Int)).tmod 2305843009213690799 =((b % PP:Nat):Int):=by
 rw [Int.tmod_eq_emod_of_nonneg (by omega)]; unfold PP; omega
theorem yem {ρ:Type} {a b:Nat} (ha:a<PP) (hb:b<PP) (φ:Nat) (hφ:5<φ) (K:Int->Option ρ) :((z8k φ (a:Int) (b:Int)).bind fun y=>(z8n φ y.1 y.2.1 2305843009213690799).bind fun z=>K z.2.1)=K ((a*b % PP:Nat):Int):=by
 have ha' :(a:Int)<2305843009213690799:=by unfold PP at ha; omega
 have hb' :(b:Int)<2305843009213690799:=by unfold PP at hb; omega
 have hp:=zu8 (by omega:0<=(a:Int)) (by omega:0<=(b:Int)) (by omega :(a:Int)<=2305843009213690798) (by omega :(b:Int)<=2305843009213690798)
 rw [y9m φ _ _ (by omega) (by omega) (by omega) (by omega),Option.bind_some]
 generalize hz :(a:Int) *(b:Int)=z at *
 show (z8n φ (z / 18446744073709551616) (z % 18446744073709551616) 2305843009213690799).bind _=_
 rw [yib φ hφ _ _ _ (by omega) (by omega) (by omega) (by omega) (by omega),Option.bind_some]
 congr 1
 have:z / 18446744073709551616*18446744073709551616+z % 18446744073709551616=z:=by omega
 show (z / 18446744073709551616*18446744073709551616+z % 18446744073709551616) % 2305843009213690799=_
 rw [this,<- hz,Int.natCast_emod,Int.natCast_mul]; rfl
theorem z9y.uniq {v m n:Nat} (hv:0<v) (h:z9y v m) (k:z9y v n):m=n:=by
 obtain⟨h1,h2⟩:=h
 obtain⟨k1,k2⟩:=k
 obtain⟨h3,h4⟩:=h2 hv
 obtain⟨k3,k4⟩:=k2 hv
 have a:m-1<n:=(Nat.pow_lt_pow_iff_right (by decide:1<2)).1 (Nat.lt_of_le_of_lt h4 k1)
 have b:n-1<m:=(Nat.pow_lt_pow_iff_right (by decide:1<2)).1 (Nat.lt_of_le_of_lt k4 h1)
 omega
section first
variable (φ:Nat) (b n a p:Int)
theorem yee (v w:Int) (h:0<=v) (h':v<256) (hw:0<=w) (hw':w<=64):∃ m:Nat,zbw φ v w b n a p=z0w φ φ b n a (w+m) 0 p/\m<=8/\z9y v.toNat m:=by
 obtain⟨m,e,hm,x,y⟩:=zuh h h'
 have e8:IntKind.wrap .u8 v=v:=by simp [IntKind.wrap,IntKind.bits,IntKind.signed]; omega
 refine⟨m,?_,hm,x,fun hv=>y (by omega)⟩
 unfold zbw
 rw [e8,z7 ⟨h,h'⟩,e,W_id (x:=(m:Int)) (by omega) (by omega),W_id (x:=w+m) (by omega) (by omega)]
theorem ydy (v w:Int) (h:0<=v) (h':v<65536) (hw:0<=w) (hw':w<=48):∃ m:Nat,zc1 φ v w b n a p=z0w φ φ b n a (w+m) 0 p/\m<=16/\z9y v.toNat m:=by
 unfold zc1
 by_cases c:256<=v
 ·rw [if_pos (by simpa using c),if_pos (by decide),sh8,W_id (by omega) (by omega)]
  obtain⟨m,e,hn,hl⟩:=yee φ b n a p (v / 256) (w+8) (by omega) (by omega) (by omega) (by omega)
  refine⟨m+8,by rw [e]; congr 1; omega,by omega,?_⟩
  refine z9y.up 8 ?_ (by omega)
  rwa [show v.toNat / 2 ^ 8 =(v / 256).toNat by omega]
 ·rw [if_neg (by simpa using c)]
  obtain⟨m,e,hn,hl⟩:=yee φ b n a p v w h (by omega) (by omega) (by omega)
  exact⟨m,e,by omega,hl⟩
theorem ylr (v w:Int) (h:0<=v) (h':v<4294967296) (hw:0<=w) (hw':w<=32):∃ m:Nat,zfl φ v w b n a p=z0w φ φ b n a (w+m) 0 p/\m<=32/\z9y v.toNat m:=by
 unfold zfl
 by_cases c:65536<=v
 ·rw [if_pos (by simpa using c),if_pos (by decide),sh16,W_id (by omega) (by omega)]
  obtain⟨m,e,hn,hl⟩:=ydy φ b n a p (v / 65536) (w+16) (by omega) (by omega) (by omega) (by omega)
  refine⟨m+16,by rw [e]; congr 1; omega,by omega,?_⟩
  refine z9y.up 16 ?_ (by omega)
  rwa [show v.toNat / 2 ^ 16 =(v / 65536).toNat by omega]
 ·rw [if_neg (by simpa using c)]
  obtain⟨m,e,hn,hl⟩:=ydy φ b n a p v w h (by omega) (by omega) (by omega)
  exact⟨m,e,by omega,hl⟩
end first
def zqn (φ:Nat) (k:Int->Int->Int->Int->Int->Int->Option (Int×Unit)) (L x57 x58 x59 x60 x61 x62 x63 x64:Int):Option (Int×Unit):=
 ck (0<=(W ((W (L-1))-x60))) (if(((U ((BitVec.ofInt 64 ((x63:Int).fdiv (2 ^ (min ((W ((W (L-1))-x60)):Int).toNat 64)))&&& BitVec.ofInt 64 1).toNat)):Int)==1)=true then(ck (x64≠0) (ck (x64≠0) ((z8k φ ((x59:Int).tmod x64) ((x57:Int).tmod x64)).bind fun y66=>((z8n φ y66.1 y66.2.1 x64).bind fun y67=>(k x57 x58 y67.2.1 x61 (W (x62+1)) x64))))) else(k x57 x58 x59 x61 (W (x62+1)) x64))
section second
variable (φ:Nat) (k:Int->Int->Int->Int->Int->Int->Option (Int×Unit)) (x57 x58 x59 x60 x61 x62 x63 x64:Int)
theorem yh5 (v w:Int) (h:0<=v) (h':v<256) (hw:0<=w) (hw':w<=64):∃ m:Nat,zbo φ k v w x57 x58 x59 x60 x61 x62 x63 x64=zqn φ k (w+m) x57 x58 x59 x60 x61 x62 x63 x64/\m<=8/\z9y v.toNat m:=by
 obtain⟨m,e,hm,x,y⟩:=zuh h h'
 have e8:IntKind.wrap .u8 v=v:=by simp [IntKind.wrap,IntKind.bits,IntKind.signed]; omega
 refine⟨m,?_,hm,x,fun hv=>y (by omega)⟩
 unfold zbo zqn
 rw [e8,z7 ⟨h,h'⟩,e,W_id (x:=(m:Int)) (by omega) (by omega),W_id (x:=w+m) (by omega) (by omega)]
theorem ye1 (v w:Int) (h:0<=v) (h':v<65536) (hw:0<=w) (hw':w<=48):∃ m:Nat,zbn φ k v w x57 x58 x59 x60 x61 x62 x63 x64=zqn φ k (w+m) x57 x58 x59 x60 x61 x62 x63 x64/\m<=16/\z9y v.toNat m:=by
 unfold zbn
 by_cases c:256<=v
 ·rw [if_pos (by simpa using c),if_pos (by decide),sh8,W_id (by omega) (by omega)]
  obtain⟨m,e,hn,hl⟩:=yh5 φ k x57 x58 x59 x60 x61 x62 x63 x64 (v / 256) (w+8) (by omega) (by omega) (by omega) (by omega)
  refine⟨m+8,by rw [e]; congr 1; omega,by omega,?_⟩
  refine z9y.up 8 ?_ (by omega)
  rwa [show v.toNat / 2 ^ 8 =(v / 256).toNat by omega]
 ·rw [if_neg (by simpa using c)]
  obtain⟨m,e,hn,hl⟩:=yh5 φ k x57 x58 x59 x60 x61 x62 x63 x64 v w h (by omega) (by omega) (by omega)
  exact⟨m,e,by omega,hl⟩
theorem yfh (v w:Int) (h:0<=v) (h':v<4294967296) (hw:0<=w) (hw':w<=32):∃ m:Nat,z4f φ k v w x57 x58 x59 x60 x61 x62 x63 x64=zqn φ k (w+m) x57 x58 x59 x60 x61 x62 x63 x64/\m<=32/\z9y v.toNat m:=by
 unfold z4f
 by_cases c:65536<=v
 ·rw [if_pos (by simpa using c),if_pos (by decide),sh16,W_id (by omega) (by omega)]
  obtain⟨m,e,hn,hl⟩:=ye1 φ k x57 x58 x59 x60 x61 x62 x63 x64 (v / 65536) (w+16) (by omega) (by omega) (by omega) (by omega)
  refine⟨m+16,by rw [e]; congr 1; omega,by omega,?_⟩
  refine z9y.up 16 ?_ (by omega)
  rwa [show v.toNat / 2 ^ 16 =(v / 65536).toNat by omega]
 ·rw [if_neg (by simpa using c)]
  obtain⟨m,e,hn,hl⟩:=ye1 φ k x57 x58 x59 x60 x61 x62 x63 x64 v w h (by omega) (by omega) (by omega)
  exact⟨m,e,by omega,hl⟩
theorem yq1 (v:Int) (h:0<=v) (h':v<18446744073709551616):∃ m:Nat,(if(decide ((4294967296:Int)<=v))=true then(if 0<=(32:Int) then(z4f φ k (((v:Int).fdiv (2 ^ (min (32:Int).toNat 64)))) 32 x57 x58 x59 x60 x61 x62 x63 x64) else none) else(z4f φ k v 0 x57 x58 x59 x60 x61 x62 x63 x64)) =
  zqn φ k m x57 x58 x59 x60 x61 x62 x63 x64/\m<=64/\z9y v.toNat m:=by
 by_cases c:4294967296<=v
 ·rw [if_pos (by simpa using c),if_pos (by decide),sh32]
  obtain⟨m,e,hn,hl⟩:=yfh φ k x57 x58 x59 x60 x61 x62 x63 x64 (v / 4294967296) 32 (by omega) (by omega) (by omega) (by omega)
  refine⟨m+32,by rw [e]; congr 1; omega,by omega,?_⟩
  refine z9y.up 32 ?_ (by omega)
  rwa [show v.toNat / 2 ^ 32 =(v / 4294967296).toNat by omega]
 ·rw [if_neg (by simpa using c)]
  obtain⟨m,e,hn,hl⟩:=yfh φ k x57 x58 x59 x60 x61 x62 x63 x64 v 0 h (by omega) (by omega) (by omega)
  exact⟨m,by rw [e]; simp,by omega,hl⟩
end second
theorem y7v (φ:Nat) (hφ:100<φ) (b n:Nat) (hn0:0<n) (hn:n<18446744073709551616):zou φ (b:Int) (n:Int)=some (((pw b n:Nat):Int),()):=by
 have hstart:∃ L:Nat,zou φ (b:Int) (n:Int)=z0w φ φ b n 1 L 0 2305843009213690799/\L<=64/\z9y n L:=by
  unfold zou
  by_cases c :(4294967296:Int)<=n
  ·rw [if_pos (by simpa using c),if_pos (by decide),sh32]
   obtain⟨m,e,hm,hl⟩:=ylr φ b n 1 2305843009213690799 ((n:Int) / 4294967296) 32 (by omega) (by omega) (by omega) (by omega)
   refine⟨m+32,by rw [e]; congr 1; omega,by omega,?_⟩
   refine z9y.up 32 ?_ (by omega)
   rwa [show n / 2 ^ 32 =((n:Int) / 4294967296).toNat by omega]
  ·rw [if_neg (by simpa using c)]
   obtain⟨m,e,hm,hl⟩:=ylr φ b n 1 2305843009213690799 (n:Int) 0 (by omega) (by omega) (by omega) (by omega)
   exact⟨m,by rw [e]; simp,by omega,by rwa [Int.toNat_natCast] at hl⟩
 obtain⟨L,e0,hL,hlen⟩:=hstart
 rw [e0]
 obtain⟨h1,h2⟩:=hlen
 refine zr (fun k i v=>z0w φ k (b:Int) (n:Int) v (L:Int) i 2305843009213690799) L (fun i v=>v =((pw b (n / 2 ^ (L-i)):Nat):Int)) (fun o=>o=some (((pw b n:Nat):Int),())) ?_ ?_ φ 1 ?_ (by omega)
 ·intro k i v hi hv hs
  rw [z0w,if_pos (by simp; omega),z7 (by decide),z7 (by decide)]
  subst hv
  rw [yqa (y6d _ _)]
  refine(yem (y6d _ _) (y6d _ _) φ (by omega) (fun z=>(if(decide ((4294967296:Int)<=(n:Int)))=true then(if 0<=(32:Int) then(z4f φ (z0w φ k) ((((n:Int):Int).fdiv (2 ^ (min (32:Int).toNat 64)))) 32 b n z i L i n 2305843009213690799) else none) else(z4f φ (z0w φ k) n 0 b n z i L i n 2305843009213690799)))).trans ?_
  rw [yds]
  obtain⟨m,em,hm,hl⟩:=yq1 φ (z0w φ k) b n ((pw b (n / 2 ^ (L-i)+n / 2 ^ (L-i)):Nat):Int) i L i n 2305843009213690799 (n:Int) (by omega) (by omega)
  refine em.trans ?_
  rw [Int.toNat_natCast] at hl
  have:=z9y.uniq hn0 hl ⟨h1,h2⟩
  subst this
  unfold zqn
  have hw1:W ((m:Int)-1) =(m:Int)-1:=W_id (by omega) (by omega)
  have hw2:W ((m:Int)-1 -(i:Int)) =((m-1-i:Nat):Int):=by rw [W_id (by omega) (by omega)]; omega
  rw [hw1,hw2,z7 (by omega)]
  have hsh:=yq8 (c:=(n:Int)) (k:=((m-1-i:Nat):Int)) (by omega) (by omega) (by omega)
  have hone:U ((BitVec.ofInt 64 ((n:Int).fdiv (2 ^ (min (((m-1-i:Nat):Int)).toNat 64)))&&& BitVec.ofInt 64 1).toNat) =((n / 2 ^ (m-1-i) % 2:Nat):Int):=by
   rw [show ((n:Int).fdiv (2 ^ (min (((m-1-i:Nat):Int)).toNat 64)))=_ from hsh,Int.toNat_natCast,Int.toNat_natCast]
   have hd:n / 2 ^ (m-1-i)<=n:=Nat.div_le_self _ _
   rw [BitVec.toNat_and,zav (Int.natCast_nonneg _) (by omega),zav (by omega) (by omega),ymv (ylo (by omega)),Int.toNat_natCast]
   show ((n / 2 ^ (m-1-i)&&& 1:Nat):Int)=_
   rw [Nat.and_one_is_mod]
  rw [hone]
  have hhalf:n / 2 ^ (m-i)=n / 2 ^ (m-1-i) / 2:=by
   rw [Nat.div_div_eq_div_mul,<- Nat.pow_succ]; congr 2; omega
  have hidx:m -(i+1)=m-1-i:=by omega
  have hW:W ((i:Int)+1) =(i:Int)+1:=W_id (by omega) (by omega)
  have hbit:=Nat.mod_two_eq_zero_or_one (n / 2 ^ (m-1-i))
  rcases hbit with hbit | hbit
  ·rw [hbit,if_neg (by simp),hW]
   refine hs _ ?_
   rw [hidx,hhalf]; congr 2; omega
  ·rw [hbit,if_pos (by simp),yqa (y6d _ _),ypn,z7 (by decide),z7 (by decide),hW]
   refine(yem (y6d _ _) (Nat.mod_lt b (by decide:0<PP)) φ (by omega) (fun z=>z0w φ k b n z m ((i:Int)+1) 2305843009213690799)).trans ?_
   refine hs _ ?_
   rw [<- yls b,yds,hidx,hhalf]; congr 2; omega
 ·intro k v hv
  rw [z0w,if_neg (by simp),hv]
  rw [Nat.sub_self,Nat.pow_zero,Nat.div_one]
 ·rw [Nat.sub_zero,Nat.div_eq_of_lt h1,zyl]; rfl
def yc5 (x:Int):Bool:=decide (2<=x)&&decide (x<2305843009213690799)&&(pw x.toNat QQ==1)
theorem zt9 (a:Nat) :(((a:Nat):Int)==1) =(a==1):=by
 rw [Bool.eq_iff_iff,beq_iff_eq,beq_iff_eq]; omega
theorem y07 (φ:Nat) (hφ:100<φ) (x:Int):zm1 φ x=some (yc5 x,()):=by
 unfold zm1 yc5 zp
 cases h:decide (2<=x)&&decide (x<2305843009213690799) with
 | false=>rw [if_neg (by simp),Option.bind_some]; simp only [Bool.false_and]
 | true=>
  simp only [Bool.and_eq_true,decide_eq_true_eq] at h
  have:=y7v φ hφ x.toNat QQ (by decide) (by decide)
  rw [show ((x.toNat:Nat):Int)=x by omega,show ((QQ:Nat):Int)=1152921504606845399 by decide] at this
  rw [if_pos rfl,this,Option.bind_some,Bool.true_and,Bool.true_and]
  show some ((((pw x.toNat QQ:Nat):Int)==1),())=_
  rw [zt9]
end Px
end
section
namespace Px
open Go
theorem gz_t {α:Type} {z:α} {p:Prop} [Decidable p] {x:Option α} (h:p):zp z p x=x:=if_pos h
theorem gz_f {α:Type} {z:α} {p:Prop} [Decidable p] {x:Option α} (h:¬ p):zp z p x=some z:=if_neg h
def z9j (p:z8o):Bool:=bet p.kind 1 5&&bet p.railway 0 15&&(bif p.kind==3 then bet p.other 0 15&&(p.other !=p.railway) else p.other==(-1))
def zcq (n:Int) (e:Edge):Bool:=bet e.a 0 (n-1)&&bet e.b 0 (n-1)&&(e.a !=e.b)&&bet e.railway 0 15&&bet e.minutes 1 100000&&bet e.km 0 10000
def z7k (x:ze):Int:=bif decide (512<x.places.length)||decide (2048<x.edges.length) then 2 else bif x.places.all z9j&&x.edges.all (zcq x.places.length) then 0 else 1
theorem zsb (φ:Nat) (p:z8o):zdp φ p=some (z9j p,()):=by
 have hb :(((decide (p.kind<1)||decide (5<p.kind))||decide (p.railway<0))||decide (16<=p.railway)) = !(bet p.kind 1 5&&bet p.railway 0 15):=by
  rw [Bool.eq_iff_iff]; simp [bet]; omega
 unfold zdp z9j
 rw [hb]
 cases bet p.kind 1 5&&bet p.railway 0 15 with
 | false=>rfl
 | true=>
  rw [if_neg (by simp)]
  by_cases h:p.kind=3
  ·have :(decide (0<=p.other)&&decide (p.other<16))=bet p.other 0 15:=by rw [Bool.eq_iff_iff]; simp [bet]; omega
   rw [if_neg (by simp [h]),this]; simp [h]
  ·have h2 :(p.kind==3)=false:=by simpa using h
   rw [if_pos (by simp [h]),h2]; rfl
theorem ygz (n:Int) (e:Edge) :((((((decide ((min2 (min2 (min2 (e.a) (e.b)) (e.railway)) (e.km))<0)||decide (n<=(max2 (e.a) (e.b))))||(e.a==e.b))||decide (16<=e.railway))||decide (e.minutes<1))||decide (100000<e.minutes))||decide (10000<e.km)) = !zcq n e:=by
 have hm:∀ x y z:Int,z<=max2 x y↔z<=x\/z<=y:=by intro x y z; unfold max2; split <;> omega
 have hok:zcq n e=true↔((((((0<=e.a/\e.a<=n-1)/\0<=e.b/\e.b<=n-1)/\¬ e.a=e.b)/\0<=e.railway/\e.railway<=15)/\1<=e.minutes/\e.minutes<=100000)/\0<=e.km/\e.km<=10000):=by
  simp only [zcq,Bool.and_eq_true,zgy,bne_iff_ne,ne_eq]
 rw [Bool.eq_iff_iff,Bool.not_eq_true',<- Bool.not_eq_true,hok]
 simp only [Bool.or_eq_true,decide_eq_true_eq,zza,hm,beq_iff_eq]
 omega
theorem y9k (x:ze) :(decide (512 <(x.places.length:Int))||decide (2048 <(x.edges.length:Int))) =(decide (512<x.places.length)||decide (2048<x.edges.length)):=by
 congr 1 <;>(apply decide_eq_decide.2; omega)
theorem z47 (φ:Nat) (hφ:5000<φ) (x:ze):z8r φ x=some (z7k x,()):=by
 unfold z8r z7k
 rw [y9k]
 cases h:decide (512<x.places.length)||decide (2048<x.edges.length) with
 | true=>rfl
 | false=>
  simp only [Bool.or_eq_false_iff,decide_eq_false_iff_not,Nat.not_lt] at h
  rw [if_neg (by simp),z52 (fun n i=>z44 φ n (x.places.length:Int) x.places (x.places.length:Int) i x) (z2i φ φ (x.places.length:Int) x.edges (x.edges.length:Int) 0) (some (1,())) x.places (fun t=>!z9j t) ?_ ?_ φ (by omega)]
  ·rw [z52 (fun n i=>z2i φ n (x.places.length:Int) x.edges (x.edges.length:Int) i) (some (0,())) (some (1,())) x.edges (fun t=>!zcq x.places.length t) ?_ ?_ φ (by omega)]
   ·simp only [List.any_eq_not_all_not,Bool.not_not]
    cases x.places.all z9j <;> cases x.edges.all (zcq x.places.length) <;> rfl
   ·intro n i hi
    rw [z2i,if_pos (by simp; omega),z7 ⟨by omega,by omega⟩,ygz,W_id (by omega) (by omega)]
    cases zcq x.places.length (gt x.edges i) <;> rfl
   ·intro n; rw [z2i,if_neg (by simp)]
  ·intro n i hi
   rw [z44,if_pos (by simp; omega),z7 ⟨by omega,by omega⟩,zsb,Option.bind_some,W_id (by omega) (by omega)]
   cases z9j (gt x.places i) <;> rfl
  ·intro n; rw [z44,if_neg (by simp)]
theorem zej {x:ze} (h:z7k x=0):x.places.length<=512/\x.edges.length<=2048/\(∀ p∈x.places,z9j p=true)/\∀ e∈x.edges,zcq x.places.length e=true:=by
 unfold z7k at h
 cases h1:decide (512<x.places.length)||decide (2048<x.edges.length) with
 | true=>rw [h1] at h; cases h
 | false=>
  rw [h1] at h
  cases h2:x.places.all z9j&&x.edges.all (zcq x.places.length) with
  | false=>rw [h2] at h; cases h
  | true=>
   simp only [Bool.or_eq_false_iff,decide_eq_false_iff_not,Nat.not_lt] at h1
   simp only [Bool.and_eq_true,List.all_eq_true] at h2
   exact⟨h1.1,h1.2,h2⟩
def y3s:Int->List Int->Bool
 | _,[]=>true
 | p,h::t=>decide (p<h)&&decide (h<=745654)&&y3s h t
def zod (s:Span):Bool:=decide (0<=s.from_)&&decide (s.from_<=s.to)&&decide (s.to<=1440)
def zqy (c:z5n):Bool:=((List.range 7).all fun i=>zod (c.open_ i))&&y3s (-1) c.holidays
theorem yn2 (φ:Nat) (c:z5n):∀(n i:Nat) (p:Int),-1<=p->(i:Int)<=p+1->p<=745654->i<=c.holidays.length->745656<=(n:Int)+p->z2w φ n p c.holidays (c.holidays.length:Int) i=some (bif y3s p (c.holidays.drop i) then 0 else 1,()):=by
 intro n
 induction n with
 | zero=>intro i p _ _ _ _ _; omega
 | succ n ih=>
  intro i p hp hip hp2 hi hn
  by_cases h:i=c.holidays.length
  ·rw [h,z2w,if_neg (by simp),List.drop_length]; rfl
  ·rw [z2w,if_pos (by simp; omega),z7 ⟨by omega,by omega⟩,y1c _ _ (by omega)]
   by_cases hb:gt c.holidays i<=p\/745654<gt c.holidays i
   ·have :(decide (p<gt c.holidays i)&&decide (gt c.holidays i<=745654))=false:=by simp; omega
    rw [if_pos (by simpa using hb)]
    simp [y3s,this]
   ·have h2 :(decide (p<gt c.holidays i)&&decide (gt c.holidays i<=745654))=true:=by simp; omega
    rw [if_neg (by simpa using hb),W_id (by omega) (by omega)]
    have:=ih (i+1) (gt c.holidays i) (by omega) (by omega) (by omega) (by omega) (by omega)
    rw [show ((i+1:Nat):Int) =(i:Int)+1 by omega] at this
    rw [this]
    simp [y3s,h2]
theorem zpq (s:Span) :((decide (s.from_<0)||decide (s.to<s.from_))||decide (1440<s.to)) = !zod s:=by
 rw [Bool.eq_iff_iff]; simp [zod]
 try omega
theorem zr7 (φ:Nat) (hφ:800000<φ) (c:z5n):zbg φ c=some (bif zqy c then 0 else 1,()):=by
 unfold zbg
 refine zr (fun n i (_:Unit)=>z3l φ n c.open_ i c) 7 (fun i _=>((List.range i).all fun j=>zod (c.open_ j))=true) (fun o=>o=some (bif zqy c then 0 else 1,())) ?_ ?_ φ () (by simp) (by omega)
 ·intro n i _ hi h hs
  rw [z3l,if_pos (by simp; omega),z7 ⟨by omega,by omega⟩,Int.toNat_natCast,zpq,W_id (by omega) (by omega)]
  cases ho:zod (c.open_ i) with
  | true=>
   rw [if_neg (by simp)]
   exact hs () (by rw [zbb,h,ho]; rfl)
  | false=>
   have:zqy c=false:=by
    unfold zqy
    have :((List.range 7).all fun j=>zod (c.open_ j))=false:=by
     rw [List.all_eq_false]; exact⟨i,by simp; omega,by simp [ho]⟩
    rw [this]; rfl
   rw [if_pos (by simp),this]; rfl
 ·intro n _ h
  rw [z3l,if_neg (by simp)]
  unfold zqy
  rw [h,Bool.true_and]
  have:=yn2 φ c φ 0 (-1) (by omega) (by omega) (by omega) (by omega) (by omega)
  simpa using this
theorem zr4 {α ρ:Type} [Inhabited α] (L:Nat->Bool->Int->Option ρ) (k:Bool->Option ρ) (l:List α) (p:α->Bool)
  (step:∀(n i:Nat) (s:Bool),i<l.length->L (n+1) s i=L n (s||p (gt l i)) ((i:Int)+1)) (done:∀ n s,L (n+1) s l.length=k s) (n:Nat) (s:Bool) (hn:l.length<n):L n s 0=k (s||l.any p):=by
 refine zr (fun n i t=>L n t i) l.length (fun i t=>t =(s||(l.take i).any p)) (fun o=>o=k (s||l.any p)) ?_ ?_ n s (by simp) hn
 ·intro n i t hi ht hs
  rw [step n i t hi]
  exact hs _ (by rw [zic _ _ _ hi,ht,Bool.or_assoc])
 ·intro n t ht
  rw [List.take_length] at ht
  rw [done,ht]
def z7v (n:Int) (r:z26):Bool:=(((!bet r.place 0 (n-1))||decide (r.low <(-1000)))||decide (r.high<r.low))||decide (1000<r.high)
def z75 (x:ze) (s:zj5):Bool:=(!bet s.place 0 ((x.places.length:Int)-1))||((gt x.places s.place).kind !=4)
def znn (r:z5o):Bool:=!zqy r.calendar||!yc5 r.key
def zo4 (x:Pool):Bool:=
 ((((((x.railways.length:Int)==0)||x.readers.any (z7v x.network.places.length))||x.shippers.any (z75 x.network))||x.fleet.wagons.any (fun w=>decide ((x.network.places.length:Int)<=w.home)))||
 x.network.places.any (fun p=>decide ((x.railways.length:Int)<=p.railway)||decide ((x.railways.length:Int)<=p.other)))||x.network.edges.any (fun e=>decide ((x.railways.length:Int)<=e.railway))||x.railways.any znn
def zie (x:Pool):Bool:=(decide (256 <(x.readers.length:Int))||decide (256 <(x.shippers.length:Int)))||decide (16 <(x.railways.length:Int))
def zt (x:Pool):Int:=if z7k x.network≠0 then z7k x.network else if z5j x.fleet≠0 then z5j x.fleet else bif zie x then 2 else bif zo4 x then 1 else 0
theorem z9i (φ:Nat) (hφ:800000<φ) (x:Pool):z58 φ x=some (zt x,()):=by
 unfold z58 zt
 rw [z47 _ (by omega),Option.bind_some]
 by_cases hn:z7k x.network=0
 case neg=>rw [if_pos (by simp [hn]),if_pos hn]
 rw [if_neg (by simp [hn]),if_neg (fun e:z7k x.network≠0=>e hn),zwb _ (by omega),Option.bind_some]
 by_cases hf:z5j x.fleet=0
 case neg=>rw [if_pos (by simp [hf]),if_pos hf]
 rw [if_neg (by simp [hf]),if_neg (fun e:z5j x.fleet≠0=>e hf)]
 cases hb:zie x with
 | true=>
  have e :(((decide (256 <(x.readers.length:Int))||decide (256 <(x.shippers.length:Int)))||decide (16 <(x.railways.length:Int))))=zie x:=rfl
  rw [e,hb]; rfl
 | false=>
  have hb':¬(((decide (256 <(x.readers.length:Int))||decide (256 <(x.shippers.length:Int)))||decide (16 <(x.railways.length:Int)))=true):=by
   rw [show (((decide (256 <(x.readers.length:Int))||decide (256 <(x.shippers.length:Int)))||decide (16 <(x.railways.length:Int))))=zie x from rfl,hb]; simp
  rw [if_neg hb']
  simp only [Bool.or_eq_true,decide_eq_true_eq,not_or] at hb'
  obtain⟨n1,n2,_,_⟩:=zej hn
  obtain⟨f1,f2,_⟩:=z6n hf
  have hp:W ((x.network.places.length:Int)-1) =(x.network.places.length:Int)-1:=W_id (by omega) (by omega)
  have a1:=zr4 (fun n s i=>z2f φ n x.network.places (x.railways.length:Int) s x.readers (x.readers.length:Int) i x) (fun s=>z1m φ φ x.network.places (x.railways.length:Int) s x.shippers (x.shippers.length:Int) 0 x) x.readers (z7v x.network.places.length) (fun n i s hi=>by
   rw [z2f,if_pos (by simp; omega),z7 ⟨by omega,by omega⟩,hp,W_id (by omega) (by omega)]
   unfold z7v
   cases s with
   | true=>rw [gz_f (by simp)]; rfl
   | false=>rw [gz_t rfl]; rfl) (fun n s=>by rw [z2f,if_neg (by simp)]) φ ((x.railways.length:Int)==0) (by omega)
  refine a1.trans ?_
  have a2:=fun s0=>zr4 (fun n s i=>z1m φ n x.network.places (x.railways.length:Int) s x.shippers (x.shippers.length:Int) i x) (fun s=>z1j φ φ x.network.places (x.railways.length:Int) s x.fleet.wagons (x.fleet.wagons.length:Int) 0 x) x.shippers (z75 x.network) (fun n i s hi=>by
   rw [z1m,if_pos (by simp; omega),z7 ⟨by omega,by omega⟩,hp,W_id (by omega) (by omega)]
   unfold z75
   cases s with
   | true=>rw [gz_f (by simp),Option.bind_some,z7 (by simp)]; rfl
   | false=>
    rw [gz_t rfl,z49,Option.bind_some]
    cases hbt:bet (gt x.shippers i).place 0 ((x.network.places.length:Int)-1) with
    | true=>rw [z7 (fun _=>by have:=zt7 hbt; omega)]; rfl
    | false=>rw [z7 (by simp)]; rfl) (fun n s=>by rw [z1m,if_neg (by simp)]) φ s0 (by omega)
  refine(a2 _).trans ?_
  have a3:=fun s0=>zr4 (fun n s i=>z1j φ n x.network.places (x.railways.length:Int) s x.fleet.wagons (x.fleet.wagons.length:Int) i x) (fun s=>z1l φ φ (x.railways.length:Int) s x.network.places (x.network.places.length:Int) 0 x) x.fleet.wagons (fun w=>decide ((x.network.places.length:Int)<=w.home)) (fun n i s hi=>by
   rw [z1j,if_pos (by simp; omega),z7 ⟨by omega,by omega⟩,W_id (by omega) (by omega)]) (fun n s=>by rw [z1j,if_neg (by simp)]) φ s0 (by omega)
  refine(a3 _).trans ?_
  have a4:=fun s0=>zr4 (fun n s i=>z1l φ n (x.railways.length:Int) s x.network.places (x.network.places.length:Int) i x) (fun s=>z1i φ φ (x.railways.length:Int) s x.network.edges (x.network.edges.length:Int) 0 x) x.network.places (fun p=>decide ((x.railways.length:Int)<=p.railway)||decide ((x.railways.length:Int)<=p.other)) (fun n i s hi=>by
   rw [z1l,if_pos (by simp; omega),z7 ⟨by omega,by omega⟩,W_id (by omega) (by omega),Bool.or_assoc]) (fun n s=>by rw [z1l,if_neg (by simp)]) φ s0 (by omega)
  refine(a4 _).trans ?_
  have a5:=fun s0=>zr4 (fun n s i=>z1i φ n (x.railways.length:Int) s x.network.edges (x.network.edges.length:Int) i x) (fun s=>z1k φ φ s x.railways (x.railways.length:Int) 0) x.network.edges (fun e=>decide ((x.railways.length:Int)<=e.railway)) (fun n i s hi=>by
   rw [z1i,if_pos (by simp; omega),z7 ⟨by omega,by omega⟩,W_id (by omega) (by omega)]) (fun n s=>by rw [z1i,if_neg (by simp)]) φ s0 (by omega)
  refine(a5 _).trans ?_
  have a6:=fun s0=>zr4 (fun n s i=>z1k φ n s x.railways (x.railways.length:Int) i) (fun s=>if s=true then some (1,()) else some (0,())) x.railways znn (fun n i s hi=>by
   rw [z1k,if_pos (by simp; omega),z7 ⟨by omega,by omega⟩,W_id (by omega) (by omega)]
   unfold znn
   cases s with
   | true=>rw [gz_f (by simp),Option.bind_some,gz_f (by simp)]; rfl
   | false=>
    rw [gz_t rfl,zr7 _ hφ,Option.bind_some]
    cases zqy (gt x.railways i).calendar with
    | false=>rw [gz_f (by simp)]; rfl
    | true=>rw [gz_t (by simp),y07 _ (by omega)]; rfl) (fun n s=>by rw [z1k,if_neg (by simp)]) φ s0 (by omega)
  refine(a6 _).trans ?_
  show (if zo4 x=true then some ((1:Int),()) else some (0,()))=_
  cases zo4 x <;> rfl
theorem z3m {p:Pool} (h:zt p=0):z7k p.network=0/\z5j p.fleet=0/\p.readers.length<=256/\p.shippers.length<=256/\p.railways.length<=16/\zo4 p=false:=by
 unfold zt at h
 by_cases hn:z7k p.network=0
 case neg=>rw [if_pos hn] at h; exact absurd h hn
 rw [if_neg (fun e:z7k p.network≠0=>e hn)] at h
 by_cases hf:z5j p.fleet=0
 case neg=>rw [if_pos hf] at h; exact absurd h hf
 rw [if_neg (fun e:z5j p.fleet≠0=>e hf)] at h
 cases hb:zie p with
 | true=>rw [hb] at h; cases h
 | false=>
  rw [hb] at h
  cases hd:zo4 p with
  | true=>rw [hd] at h; cases h
  | false=>
   simp only [zie,Bool.or_eq_false_iff,decide_eq_false_iff_not] at hb
   exact⟨hn,hf,by omega,by omega,by omega,rfl⟩
theorem zm2 {p:Pool} (h:zt p=0) :(∀ r∈p.readers,0<=r.place/\r.place <(p.network.places.length:Int)/\-1000<=r.low/\r.low<=r.high/\r.high<=1000)/\
  (∀ w∈p.fleet.wagons,0<=w.home/\w.home <(p.network.places.length:Int))/\(∀ e∈p.network.edges,e.railway <(p.railways.length:Int))/\0<p.railways.length:=by
 obtain⟨hn,hf,h1,h2,h3,hb⟩:=z3m h
 simp only [zo4,Bool.or_eq_false_iff] at hb
 obtain⟨⟨⟨⟨⟨⟨b0,b1⟩,b2⟩,b3⟩,b4⟩,b5⟩,b6⟩:=hb
 obtain⟨_,_,_,_,_,hw,_,_⟩:=z6n hf
 refine⟨fun r hr=>?_,fun w hw'=>?_,fun e he=>?_,?_⟩
 ·have:=List.any_eq_false.1 b1 r hr
  simp only [z7v,Bool.not_eq_true,Bool.or_eq_false_iff,Bool.not_eq_false',decide_eq_false_iff_not] at this
  obtain⟨⟨⟨c1,c2⟩,c3⟩,c4⟩:=this
  have:=zt7 c1
  omega
 ·have:=List.any_eq_false.1 b3 w hw'
  have h3:=hw w hw'
  simp only [zgw,Bool.and_eq_true] at h3
  have:=zt7 h3.1.1.2
  simp at *
  omega
 ·have:=List.any_eq_false.1 b5 e he
  simp at this; omega
 ·simp at b0
  exact List.length_pos_iff.2 b0
end Px
end
section
namespace Px
open Go
theorem ylw {n b:Nat} (h:n<=100000) (hb:b<=1000):fits n b:=by
 unfold fits
 have:n*b<=100000*1000:=Nat.mul_le_mul h hb
 omega
abbrev Ln:=List ((Nat->Int)×Int)
abbrev keyP (a b:Int):Nat->Int:=upd (upd (fun _=>(default:Int)) 0 a) 1 b
abbrev lget (m:Ln) (a b:Int):Option Int:=@mget _ _ ⟨beqA 2⟩ m (keyP a b)
abbrev lset (m:Ln) (a b i:Int):Ln:=@mset _ _ ⟨beqA 2⟩ m (keyP a b) i
theorem yi2 (f g:Nat->Int):beqA 2 f g =(f 0==g 0&&f 1==g 1):=by
 simp [beqA,List.range_succ]
theorem yo8 (a b:Int):keyP a b 0=a:=rfl
theorem ymf (a b:Int):keyP a b 1=b:=rfl
theorem zoc (m:Ln) (a b i c d:Int):lget (lset m a b i) c d=if c=a/\d=b then some i else lget m c d:=by
 induction m with
 | nil=>
  show (bif beqA 2 (keyP c d) (keyP a b) then some i else none)=_
  rw [yi2]
  simp only [yo8,ymf]
  by_cases h:c=a/\d=b
  ·rw [if_pos h]; simp [h]
  ·rw [if_neg h]
   have :(c==a&&d==b)=false:=by rw [<- Bool.not_eq_true]; simpa using h
   rw [this]; rfl
 | cons p m ih=>
  obtain⟨k,v⟩:=p
  show lget (bif beqA 2 (keyP a b) k then(keyP a b,i)::m else(k,v)::lset m a b i) c d=_
  have e1:lget ((k,v)::m) c d=bif beqA 2 (keyP c d) k then some v else lget m c d:=rfl
  cases h1:beqA 2 (keyP a b) k with
  | true=>
   rw [yi2] at h1
   simp only [yo8,ymf,Bool.and_eq_true,beq_iff_eq] at h1
   show (bif beqA 2 (keyP c d) (keyP a b) then some i else lget m c d)=_
   rw [e1,yi2,yi2]
   simp only [yo8,ymf]
   by_cases h:c=a/\d=b
   ·rw [if_pos h]; simp [h]
   ·rw [if_neg h]
    have h2 :(c==a&&d==b)=false:=by rw [<- Bool.not_eq_true]; simpa using h
    have h3 :(c==k 0&&d==k 1)=false:=by rw [<- h1.1,<- h1.2]; exact h2
    rw [h2,h3]; rfl
  | false=>
   show (bif beqA 2 (keyP c d) k then some v else lget (lset m a b i) c d)=_
   rw [ih,e1]
   cases h2:beqA 2 (keyP c d) k with
   | false=>rfl
   | true=>
    by_cases h:c=a/\d=b
    ·obtain⟨rfl,rfl⟩:=h
     rw [h1] at h2; cases h2
    ·show some v=_
     rw [if_neg h]; rfl
theorem ykn {b:Bool} (h:¬(!b)=true):b=true:=by cases b <;> simp_all
def ent1 (es:List Edge) (i a b:Int) (s:List (List Int)×Ln):List (List Int)×Ln:=
 (if(!(lget s.2 a b).isSome)=true then zw s.1 a (gt s.1 a++[b]) else s.1,
  if(!(lget s.2 a b).isSome||decide ((gt es i).minutes <(gt es ((lget s.2 a b).getD default)).minutes))=true then lset s.2 a b i else s.2)
def entE (es:List Edge) (i:Int) (s:List (List Int)×Ln):List (List Int)×Ln:=ent1 es i (gt es i).b (gt es i).a (ent1 es i (gt es i).a (gt es i).b s)
structure GI (es:List Edge) (P k:Nat) (s:List (List Int)×Ln):Prop where
 len:s.1.length=P
 near:∀ a b:Int,0<=a->a <(P:Int)->(b∈gt s.1 a↔(lget s.2 a b).isSome=true)
 line:∀ a b i:Int,lget s.2 a b=some i->0<=i/\i <(k:Int)/\(((gt es i).a=a/\(gt es i).b=b)\/((gt es i).a=b/\(gt es i).b=a))
 size:∀ a:Int,0<=a->a <(P:Int)->(gt s.1 a).length<=2*k
structure HI (es:List Edge) (P k:Nat) (s:List (List Int)×Ln):Prop extends GI es P k s where
 sym:∀ a b:Int,lget s.2 a b=lget s.2 b a
theorem ykz (es:List Edge) (P:Nat):HI es P 0 (List.replicate P (default:List Int),[]) where
 len:=by simp
 near:=fun a b h0 h1=>by
  rw [z17 _ _ _ h0 (by omega)]
  show b∈([]:List Int)↔_
  simp [lget,mget]
 line:=fun a b i h=>by simp [lget,mget] at h
 size:=fun a h0 h1=>by rw [z17 _ _ _ h0 (by omega)]; simp; rfl
 sym:=fun a b=>rfl
theorem ymw {es:List Edge} {P k:Nat} {s:List (List Int)×Ln} (h:GI es P k s) {a b:Int} (ha:0<=a) (ha':a <(P:Int)) (he :((gt es (k:Int)).a=a/\(gt es (k:Int)).b=b)\/((gt es (k:Int)).a=b/\(gt es (k:Int)).b=a)) :
  (ent1 es k a b s).1.length=P/\(∀ c d:Int,0<=c->c <(P:Int)->(d∈gt (ent1 es k a b s).1 c↔(lget (ent1 es k a b s).2 c d).isSome=true))/\
  (∀ c d i:Int,lget (ent1 es k a b s).2 c d=some i->0<=i/\i <((k+1:Nat):Int)/\(((gt es i).a=c/\(gt es i).b=d)\/((gt es i).a=d/\(gt es i).b=c)))/\
  (∀ c:Int,0<=c->c <(P:Int)->(gt (ent1 es k a b s).1 c).length<=(gt s.1 c).length+1)/\
  (∀ c d:Int,¬(c=a/\d=b)->lget (ent1 es k a b s).2 c d=lget s.2 c d)/\
  lget (ent1 es k a b s).2 a b =(if(!(lget s.2 a b).isSome||decide ((gt es (k:Int)).minutes <(gt es ((lget s.2 a b).getD default)).minutes))=true then some (k:Int) else lget s.2 a b):=by
 have hl2:∀ c d:Int,lget (ent1 es k a b s).2 c d=if(c=a/\d=b) then(if(!(lget s.2 a b).isSome||decide ((gt es (k:Int)).minutes <(gt es ((lget s.2 a b).getD default)).minutes))=true then some (k:Int) else lget s.2 a b) else lget s.2 c d:=by
  intro c d
  unfold ent1
  simp only []
  split
  ·rw [zoc]
  ·split
   ·rename_i q; rw [q.1,q.2]
   ·rfl
 have hsm :(lget (ent1 es k a b s).2 a b).isSome=true:=by
  rw [hl2,if_pos ⟨rfl,rfl⟩]
  split
  ·rfl
  ·rename_i q
   simp only [Bool.or_eq_true,not_or] at q
   exact ykn q.1
 refine⟨?_,?_,?_,?_,fun c d hcd=>by rw [hl2,if_neg hcd],by rw [hl2,if_pos ⟨rfl,rfl⟩]⟩
 ·unfold ent1
  simp only []
  split
  ·rw [z05]; exact h.len
  ·exact h.len
 ·intro c d hc hc'
  by_cases hcd:c=a/\d=b
  ·obtain⟨rfl,rfl⟩:=hcd
   rw [hsm]
   refine⟨fun _=>rfl,fun _=>?_⟩
   unfold ent1
   simp only []
   split
   ·rw [zy _ _ _ _ hc (by rw [h.len]; exact hc') hc,if_pos rfl]; simp
   ·rename_i q
    exact(h.near c d hc hc').2 (ykn q)
  ·rw [hl2,if_neg hcd,<- h.near c d hc hc']
   unfold ent1
   simp only []
   split
   ·rw [zy _ _ _ _ ha (by rw [h.len]; exact ha') hc]
    by_cases e:c=a
    ·subst e
     rw [if_pos rfl]
     simp only [List.mem_append,List.mem_singleton]
     exact⟨fun q=>q.resolve_right (fun e=>hcd ⟨rfl,e⟩),.inl⟩
    ·rw [if_neg e]
   ·exact Iff.rfl
 ·intro c d i hi
  rw [hl2] at hi
  split at hi
  ·rename_i q
   obtain⟨rfl,rfl⟩:=q
   split at hi
   ·have:=Option.some.inj hi
    subst this
    exact⟨by omega,by omega,he⟩
   ·obtain⟨h1,h2,h3⟩:=h.line _ _ _ hi
    exact⟨h1,by omega,h3⟩
  ·obtain⟨h1,h2,h3⟩:=h.line _ _ _ hi
   exact⟨h1,by omega,h3⟩
 ·intro c hc hc'
  unfold ent1
  simp only []
  split
  ·rw [zy _ _ _ _ ha (by rw [h.len]; exact ha') hc]
   split
   ·rename_i e; subst e; simp
   ·omega
  ·omega
theorem yny {es:List Edge} {P k:Nat} {s:List (List Int)×Ln} (h:HI es P k s) (ha:0<=(gt es (k:Int)).a) (ha' :(gt es (k:Int)).a <(P:Int)) (hb:0<=(gt es (k:Int)).b) (hb' :(gt es (k:Int)).b <(P:Int)) (hne :(gt es (k:Int)).a≠(gt es (k:Int)).b) :
  HI es P (k+1) (entE es k s):=by
 obtain⟨a1,a2,a3,a4,a5,a6⟩:=ymw h.toGI ha ha' (.inl ⟨rfl,rfl⟩)
 unfold entE
 generalize hs1:ent1 es k (gt es (k:Int)).a (gt es (k:Int)).b s=s1 at *
 generalize (gt es (k:Int)).a=a at *
 generalize (gt es (k:Int)).b=b at *
 -- the second end,by the same law: only the zk0 on the numbers has moved
 have hl2:∀ c d:Int,lget (ent1 es k b a s1).2 c d=if(c=b/\d=a) then(if(!(lget s1.2 b a).isSome||decide ((gt es (k:Int)).minutes <(gt es ((lget s1.2 b a).getD default)).minutes))=true then some (k:Int) else lget s1.2 b a) else lget s1.2 c d:=by
  intro c d
  unfold ent1
  simp only []
  split
  ·rw [zoc]
  ·split
   ·rename_i q; rw [q.1,q.2]
   ·rfl
 have hba:lget s1.2 b a=lget s.2 a b:=by rw [a5 b a (fun q=>hne q.2),h.sym]
 have hsm :(lget (ent1 es k b a s1).2 b a).isSome=true:=by
  rw [hl2,if_pos ⟨rfl,rfl⟩]
  split
  ·rfl
  ·rename_i q
   simp only [Bool.or_eq_true,not_or] at q
   exact ykn q.1
 have hlab:lget (ent1 es k b a s1).2 a b=lget s1.2 a b:=by rw [hl2,if_neg (fun q=>hne q.1)]
 have hlba:lget (ent1 es k b a s1).2 b a=lget s1.2 a b:=by
  rw [hl2,if_pos ⟨rfl,rfl⟩,hba,a6]
 have hab :((gt es (k:Int)).a=a/\(gt es (k:Int)).b=b)\/((gt es (k:Int)).a=b/\(gt es (k:Int)).b=a)->True:=fun _=>trivial
 refine⟨⟨?_,?_,?_,?_⟩,?_⟩
 ·unfold ent1
  simp only []
  split
  ·rw [z05]; exact a1
  ·exact a1
 ·intro c d hc hc'
  by_cases hcd:c=b/\d=a
  ·obtain⟨rfl,rfl⟩:=hcd
   rw [hsm]
   refine⟨fun _=>rfl,fun _=>?_⟩
   unfold ent1
   simp only []
   split
   ·rw [zy _ _ _ _ hc (by rw [a1]; exact hc') hc,if_pos rfl]; simp
   ·rename_i q
    exact(a2 c d hc hc').2 (ykn q)
  ·rw [hl2,if_neg hcd,<- a2 c d hc hc']
   unfold ent1
   simp only []
   split
   ·rw [zy _ _ _ _ hb (by rw [a1]; exact hb') hc]
    by_cases e:c=b
    ·subst e
     rw [if_pos rfl]
     simp only [List.mem_append,List.mem_singleton]
     exact⟨fun q=>q.resolve_right (fun e=>hcd ⟨rfl,e⟩),.inl⟩
    ·rw [if_neg e]
   ·exact Iff.rfl
 ·intro c d i hi
  by_cases hcd:c=b/\d=a
  ·obtain⟨rfl,rfl⟩:=hcd
   rw [hlba] at hi
   obtain⟨h1,h2,h3⟩:=a3 _ _ _ hi
   exact⟨h1,h2,h3.elim .inr .inl⟩
  ·rw [hl2,if_neg hcd] at hi
   exact a3 _ _ _ hi
 ·intro c hc hc'
  have h1:=a4 c hc hc'
  have h0:=h.size c hc hc'
  have h2 :(gt (ent1 es k b a s1).1 c).length<=(gt s1.1 c).length+1:=by
   unfold ent1
   simp only []
   split
   ·rw [zy _ _ _ _ hb (by rw [a1]; exact hb') hc]
    split
    ·rename_i e; subst e; simp
    ·omega
   ·omega
  omega
 ·intro c d
  by_cases h1:c=b/\d=a
  ·obtain⟨rfl,rfl⟩:=h1
   rw [hlba,hlab]
  ·by_cases h2:c=a/\d=b
   ·obtain⟨rfl,rfl⟩:=h2
    rw [hlab,hlba]
   ·rw [hl2,if_neg h1,hl2,if_neg (fun q=>h2 ⟨q.2,q.1⟩),a5 c d h2,a5 d c (fun q=>h1 ⟨q.2,q.1⟩),h.sym]
def zf4 (es:List Edge) (P:Nat):Nat->List (List Int)×Ln
 | 0=>(List.replicate P default,[])
 | k+1=>entE es k (zf4 es P k)
structure zbu (x:ze):Prop where
 places:x.places.length<=512
 edges:x.edges.length<=2048
 edge:∀ i:Int,0<=i->i <(x.edges.length:Int)->zcq x.places.length (gt x.edges i)=true
theorem yf7 {x:ze} (h:z7k x=0):zbu x:=by
 obtain⟨h1,h2,_,h4⟩:=zej h
 exact⟨h1,h2,fun i h0 hi=>h4 _ (z0p h0 hi)⟩
theorem zbu.ends {x:ze} (h:zbu x) {i:Int} (h0:0<=i) (hi:i <(x.edges.length:Int)):0<=(gt x.edges i).a/\(gt x.edges i).a <(x.places.length:Int)/\0<=(gt x.edges i).b/\(gt x.edges i).b <(x.places.length:Int)/\
  (gt x.edges i).a≠(gt x.edges i).b/\0<=(gt x.edges i).railway/\(gt x.edges i).railway<=15/\1<=(gt x.edges i).minutes/\(gt x.edges i).minutes<=100000/\0<=(gt x.edges i).km/\(gt x.edges i).km<=10000:=by
 have:=h.edge i h0 hi
 simp only [zcq,Bool.and_eq_true,zgy,bne_iff_ne,ne_eq] at this
 obtain⟨⟨⟨⟨⟨q1,q2⟩,q3⟩,q4⟩,q5⟩,q6⟩:=this
 exact⟨q1.1,by omega,q2.1,by omega,q3,q4.1,q4.2,q5.1,q5.2,q6.1,q6.2⟩
theorem zj2 {x:ze} (h:zbu x):∀ k,k<=x.edges.length->HI x.edges x.places.length k (zf4 x.edges x.places.length k)
 | 0,_=>ykz _ _
 | k+1,hk=>by
  obtain⟨a1,a2,a3,a4,a5,_⟩:=h.ends (i:=(k:Int)) (by omega) (by omega)
  exact yny (zj2 h k (by omega)) a1 a2 a3 a4 a5
structure Gr (P:Nat) (near:List (List Int)) (wt:Int->Int->Int):Prop where
 len:near.length=P
 small:P<=512
 size:∀ a:Int,0<=a->a <(P:Int)->(gt near a).length<=5000
 rng:∀ a b:Int,0<=a->a <(P:Int)->b∈gt near a->0<=b/\b <(P:Int)
 sym:∀ a b:Int,0<=a->a <(P:Int)->b∈gt near a->a∈gt near b/\wt b a=wt a b
 wt:∀ a b:Int,0<=a->a <(P:Int)->b∈gt near a->1<=wt a b/\wt a b<=100000
def zcx (x:ze):Ln:=(zf4 x.edges x.places.length x.edges.length).2
def wtN (x:ze) (a b:Int):Int:=(gt x.edges ((lget (zcx x) a b).getD default)).minutes
def znl (x:ze):List (List Int):=(zf4 x.edges x.places.length x.edges.length).1
def z4y (x:ze):List (List Int):=(znl x).map fun l=>zky (fun a b=>decide (a<b)) l
theorem zrm {α β:Type} [Inhabited α] [Inhabited β] (f:α->β) (l:List α) {i:Int} (h0:0<=i) (h:i <(l.length:Int)):gt (l.map f) i=f (gt l i):=by
 obtain⟨n,rfl⟩:∃ n:Nat,i =(n:Int):=⟨i.toNat,by omega⟩
 rw [z23 (by simp; omega),z23 (by omega)]
 simp
theorem y04 {x:ze} (h:zbu x) {a b:Int} (ha:0<=a) (ha':a <(x.places.length:Int)) (hb:b∈gt (z4y x) a):∃ i,lget (zcx x) a b=some i/\0<=i/\i <(x.edges.length:Int)/\(((gt x.edges i).a=a/\(gt x.edges i).b=b)\/((gt x.edges i).a=b/\(gt x.edges i).b=a)):=by
 have H:=zj2 h x.edges.length (Nat.le_refl _)
 unfold z4y at hb
 rw [zrm _ _ ha (by show a <((znl x).length:Int); rw [show (znl x).length=_ from H.len]; exact ha')] at hb
 have hb:=(z1q _ _).mem_iff.1 hb
 have:=(H.near a b ha ha').1 hb
 obtain⟨i,hi⟩:=Option.isSome_iff_exists.1 this
 obtain⟨h1,h2,h3⟩:=H.line _ _ _ hi
 exact⟨i,hi,h1,h2,h3⟩
theorem grN {x:ze} (h:zbu x):Gr x.places.length (z4y x) (wtN x):=by
 have H:=zj2 h x.edges.length (Nat.le_refl _)
 have hlen :(z4y x).length=x.places.length:=by unfold z4y; rw [List.length_map]; exact H.len
 have hl0 :(znl x).length=x.places.length:=H.len
 have hmem:∀ a b:Int,0<=a->a <(x.places.length:Int)->(b∈gt (z4y x) a↔(lget (zcx x) a b).isSome=true):=by
  intro a b ha ha'
  unfold z4y
  rw [zrm _ _ ha (by rw [hl0]; exact ha')]
  exact((z1q _ _).mem_iff).trans (H.near a b ha ha')
 refine⟨hlen,h.places,?_,?_,?_,?_⟩
 ·intro a ha ha'
  unfold z4y
  rw [zrm _ _ ha (by rw [hl0]; exact ha'),(z1q _ _).length_eq]
  have:=H.size a ha ha'
  have:=h.edges
  show (gt (zf4 x.edges x.places.length x.edges.length).1 a).length<=_
  omega
 ·intro a b ha ha' hb
  obtain⟨i,_,h1,h2,h3⟩:=y04 h ha ha' hb
  obtain⟨e1,e2,e3,e4,_⟩:=h.ends h1 h2
  rcases h3 with⟨rfl,rfl⟩ |⟨rfl,rfl⟩
  ·exact⟨e3,e4⟩
  ·exact⟨e1,e2⟩
 ·intro a b ha ha' hb
  obtain⟨i,hi,h1,h2,h3⟩:=y04 h ha ha' hb
  obtain⟨e1,e2,e3,e4,_⟩:=h.ends h1 h2
  have hbr:0<=b/\b <(x.places.length:Int):=by
   rcases h3 with⟨rfl,rfl⟩ |⟨rfl,rfl⟩
   ·exact⟨e3,e4⟩
   ·exact⟨e1,e2⟩
  have hs:lget (zcx x) b a=lget (zcx x) a b:=H.sym b a
  refine⟨(hmem b a hbr.1 hbr.2).2 (by rw [hs,hi]; rfl),?_⟩
  unfold wtN
  rw [hs]
 ·intro a b ha ha' hb
  obtain⟨i,hi,h1,h2,_⟩:=y04 h ha ha' hb
  obtain⟨_,_,_,_,_,_,_,e1,e2,_⟩:=h.ends h1 h2
  unfold wtN
  rw [hi]
  exact⟨e1,e2⟩
structure DI (P:Nat) (near:List (List Int)) (wt:Int->Int->Int) (s:Int) (k:Nat) (t:List Int) (d:List Bool):Prop where
 lt:t.length=P
 ld:d.length=P
 src:gt t s=0
 bd:∀ i:Int,0<=i->i <(P:Int)->gt t i=-1\/(0<=gt t i/\gt t i<=100000*k)
 don:∀ i:Int,0<=i->i <(P:Int)->gt d i=true->0<=gt t i
 pre:∀ a:Int,0<=a->a <(P:Int)->a≠s->0<=gt t a->∃ q,0<=q/\q <(P:Int)/\gt d q=true/\q∈gt near a/\gt t a=gt t q+wt q a
 mon:∀ q i:Int,0<=q->q <(P:Int)->0<=i->i <(P:Int)->gt d q=true->gt d i=false->0<=gt t i->gt t q<=gt t i
 nbr:∀ q i:Int,0<=q->q <(P:Int)->gt d q=true->i∈gt near q->0<=gt t i/\gt t i<=gt t q+wt q i
 cnt:d.count true=k
structure RndI (P:Nat) (near:List (List Int)) (wt:Int->Int->Int) (s p:Int) (k:Nat) (t0:List Int) (d:List Bool) (seen:List Int) (t:List Int):Prop where
 lt:t.length=P
 own:gt t p=gt t0 p
 val:∀ i:Int,0<=i->i <(P:Int)->gt t i=gt t0 i\/(i∈seen/\gt t i=gt t0 p+wt p i/\(gt t0 i<0\/gt t0 p+wt p i<gt t0 i))
 got:∀ i∈seen,0<=i->0<=gt t i/\gt t i<=gt t p+wt p i
end Px
end
