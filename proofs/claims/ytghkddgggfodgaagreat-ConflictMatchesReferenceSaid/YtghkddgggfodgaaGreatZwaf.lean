/- A part of the proof of conflictMatchesReference_holds. Conditions: none. -/
import Derived.Test.YtghkddgggfodgaaGreatZwae
import Derived.Test.YtghkddgggfodgaaGreatProg
import Derived.Ground.SlsfProg
import Derived.Ground.NamesProg
import Derived.KernelRfl
set_option linter.unusedVariables false
set_option linter.unusedSimpArgs false
section
namespace Go.Proofs
open Go.Shelf
def Tryz.sortEv_ren:Go.Shelf.Ren:=⟨fun | 6=>68 | 15=>93 | 14=>92 | 28=>125 | 29=>114 | 20=>117 | 21=>118 | 22=>119 | 23=>120 | 24=>121 | 25=>122 | 26=>123 | 27=>124 | 46=>149 | 47=>150 | 48=>151 | 49=>152 | 50=>153 | 57=>166 | n=>n,fun | 22=>93 | 24=>97 | 25=>147 | 3=>3 | 39=>182 | 0=>0 | 53=>209 | 55=>118 | 4=>4 | 46=>203 | 45=>202 | 50=>100 | 5=>5 | 9=>9 | 66=>230 | 70=>226 | 76=>242 | 77=>243 | n=>n,fun | n=>n⟩
theorem Tryz.sortEv:Go.Proofs.SlLaysF0.n6 Tryz.prog Tryz.sortEv_ren:={
 mixed:=by kernel_rfl
 f6:=⟨Tryz.f68.name,by decide,Tryz.func68.trans (congrArg some (by kernel_rfl))⟩
 f14:=⟨Tryz.f92.name,by decide,Tryz.func92.trans (congrArg some (by kernel_rfl))⟩
 f15:=Tryz.func93.trans (congrArg some (by kernel_rfl))
 f20:=⟨Tryz.f117.name,by decide,Tryz.func117.trans (congrArg some (by kernel_rfl))⟩
 f21:=⟨Tryz.f118.name,by decide,Tryz.func118.trans (congrArg some (by kernel_rfl))⟩
 f22:=⟨Tryz.f119.name,by decide,Tryz.func119.trans (congrArg some (by kernel_rfl))⟩
 f23:=⟨Tryz.f120.name,by decide,Tryz.func120.trans (congrArg some (by kernel_rfl))⟩
 f24:=⟨Tryz.f121.name,by decide,Tryz.func121.trans (congrArg some (by kernel_rfl))⟩
 f25:=⟨Tryz.f122.name,by decide,Tryz.func122.trans (congrArg some (by kernel_rfl))⟩
 f26:=⟨Tryz.f123.name,by decide,Tryz.func123.trans (congrArg some (by kernel_rfl))⟩
 f27:=⟨Tryz.f124.name,by decide,Tryz.func124.trans (congrArg some (by kernel_rfl))⟩
 f28:=Tryz.func125.trans (congrArg some (by kernel_rfl))
 f29:=Tryz.func114.trans (congrArg some (by kernel_rfl))
 f46:=⟨Tryz.f149.name,by decide,Tryz.func149.trans (congrArg some (by kernel_rfl))⟩
 f47:=Tryz.func150.trans (congrArg some (by kernel_rfl))
 f48:=Tryz.func151.trans (congrArg some (by kernel_rfl))
 f49:=⟨Tryz.f152.name,by decide,Tryz.func152.trans (congrArg some (by kernel_rfl))⟩
 f50:=⟨Tryz.f153.name,by decide,Tryz.func153.trans (congrArg some (by kernel_rfl))⟩
 f57:=⟨Tryz.f166.name,by decide,Tryz.func166.trans (congrArg some (by kernel_rfl))⟩
 t0:=Tryz.underlying0
 a0:=Tryz.isAgg0
 z0:=Tryz.sizeOf0
 v0:=Tryz.zeroValue0
 t3:=Tryz.underlying3
 a3:=Tryz.isAgg3
 z3:=Tryz.sizeOf3
 v3:=Tryz.zeroValue3
 t4:=Tryz.underlying4
 a4:=Tryz.isAgg4
 z4:=Tryz.sizeOf4
 v4:=Tryz.zeroValue4
 t5:=Tryz.underlying5
 a5:=Tryz.isAgg5
 z5:=Tryz.sizeOf5
 v5:=Tryz.zeroValue5
 t9:=Tryz.underlying9
 a9:=Tryz.isAgg9
 z9:=Tryz.sizeOf9
 v9:=Tryz.zeroValue9
 t22:=Tryz.underlying93
 a22:=Tryz.isAgg93
 z22:=Tryz.sizeOf93
 v22:=Tryz.zeroValue93
 t25:=Tryz.underlying147
 a25:=Tryz.isAgg147
 z25:=Tryz.sizeOf147
 v25:=Tryz.zeroValue147
 t39:=Tryz.underlying182
 a39:=Tryz.isAgg182
 z39:=Tryz.sizeOf182
 v39:=Tryz.zeroValue182
 t45:=Tryz.underlying202
 a45:=Tryz.isAgg202
 z45:=Tryz.sizeOf202
 v45:=Tryz.zeroValue202
 t46:=Tryz.underlying203
 a46:=Tryz.isAgg203
 z46:=Tryz.sizeOf203
 v46:=Tryz.zeroValue203
 t50:=Tryz.underlying100
 a50:=Tryz.isAgg100
 z50:=Tryz.sizeOf100
 v50:=Tryz.zeroValue100
 t53:=Tryz.underlying209
 a53:=Tryz.isAgg209
 z53:=Tryz.sizeOf209
 v53:=Tryz.zeroValue209
 t55:=Tryz.underlying118
 a55:=Tryz.isAgg118
 z55:=Tryz.sizeOf118
 v55:=Tryz.zeroValue118
 t66:=Tryz.underlying230
 a66:=Tryz.isAgg230
 z66:=Tryz.sizeOf230
 v66:=Tryz.zeroValue230
 t70:=Tryz.underlying226
 a70:=Tryz.isAgg226
 z70:=Tryz.sizeOf226
 v70:=Tryz.zeroValue226
 t76:=Tryz.underlying242
 a76:=Tryz.isAgg242
 z76:=Tryz.sizeOf242
 v76:=Tryz.zeroValue242
 t77:=Tryz.underlying243
 a77:=Tryz.isAgg243
 z77:=Tryz.sizeOf243
 v77:=Tryz.zeroValue243 }
def Tryz.lays189_ren:Go.Shelf.Ren:=⟨fun | 189=>127 | 125=>93 | 257=>154 | 128=>125 | 129=>114 | 294=>167 | 295=>168 | 296=>169 | 297=>170 | 298=>171 | 299=>172 | 216=>173 | 300=>174 | 301=>175 | 328=>176 | 329=>150 | 330=>151 | 331=>177 | 332=>178 | 215=>58 | 343=>179 | n=>n,fun | 28=>62 | 3=>3 | 46=>182 | 0=>0 | 51=>209 | 53=>118 | 4=>4 | 183=>203 | 182=>202 | 131=>100 | 5=>5 | 9=>9 | 218=>230 | 222=>226 | 228=>242 | 229=>243 | n=>n,fun | n=>n⟩
theorem Tryz.lays189:Go.Proofs.Lays.n189 Tryz.prog Tryz.lays189_ren:={
 mixed:=by kernel_rfl
 f125:=Tryz.func93.trans (congrArg some (by kernel_rfl))
 f128:=Tryz.func125.trans (congrArg some (by kernel_rfl))
 f129:=Tryz.func114.trans (congrArg some (by kernel_rfl))
 f189:=Tryz.func127.trans (congrArg some (by kernel_rfl))
 f215:=Tryz.func58.trans (congrArg some (by kernel_rfl))
 f216:=Tryz.func173.trans (congrArg some (by kernel_rfl))
 f257:=Tryz.func154.trans (congrArg some (by kernel_rfl))
 f294:=Tryz.func167.trans (congrArg some (by kernel_rfl))
 f295:=Tryz.func168.trans (congrArg some (by kernel_rfl))
 f296:=Tryz.func169.trans (congrArg some (by kernel_rfl))
 f297:=Tryz.func170.trans (congrArg some (by kernel_rfl))
 f298:=Tryz.func171.trans (congrArg some (by kernel_rfl))
 f299:=Tryz.func172.trans (congrArg some (by kernel_rfl))
 f300:=Tryz.func174.trans (congrArg some (by kernel_rfl))
 f301:=Tryz.func175.trans (congrArg some (by kernel_rfl))
 f328:=Tryz.func176.trans (congrArg some (by kernel_rfl))
 f329:=Tryz.func150.trans (congrArg some (by kernel_rfl))
 f330:=Tryz.func151.trans (congrArg some (by kernel_rfl))
 f331:=Tryz.func177.trans (congrArg some (by kernel_rfl))
 f332:=Tryz.func178.trans (congrArg some (by kernel_rfl))
 f343:=Tryz.func179.trans (congrArg some (by kernel_rfl))
 t0:=Tryz.underlying0
 a0:=Tryz.isAgg0
 z0:=Tryz.sizeOf0
 v0:=Tryz.zeroValue0
 t3:=Tryz.underlying3
 a3:=Tryz.isAgg3
 z3:=Tryz.sizeOf3
 v3:=Tryz.zeroValue3
 t4:=Tryz.underlying4
 a4:=Tryz.isAgg4
 z4:=Tryz.sizeOf4
 v4:=Tryz.zeroValue4
 t5:=Tryz.underlying5
 a5:=Tryz.isAgg5
 z5:=Tryz.sizeOf5
 v5:=Tryz.zeroValue5
 t9:=Tryz.underlying9
 a9:=Tryz.isAgg9
 z9:=Tryz.sizeOf9
 v9:=Tryz.zeroValue9
 t28:=Tryz.underlying62
 a28:=Tryz.isAgg62
 z28:=Tryz.sizeOf62
 v28:=Tryz.zeroValue62
 t46:=Tryz.underlying182
 a46:=Tryz.isAgg182
 z46:=Tryz.sizeOf182
 v46:=Tryz.zeroValue182
 t51:=Tryz.underlying209
 a51:=Tryz.isAgg209
 z51:=Tryz.sizeOf209
 v51:=Tryz.zeroValue209
 t53:=Tryz.underlying118
 a53:=Tryz.isAgg118
 z53:=Tryz.sizeOf118
 v53:=Tryz.zeroValue118
 t131:=Tryz.underlying100
 a131:=Tryz.isAgg100
 z131:=Tryz.sizeOf100
 v131:=Tryz.zeroValue100
 t182:=Tryz.underlying202
 a182:=Tryz.isAgg202
 z182:=Tryz.sizeOf202
 v182:=Tryz.zeroValue202
 t183:=Tryz.underlying203
 a183:=Tryz.isAgg203
 z183:=Tryz.sizeOf203
 v183:=Tryz.zeroValue203
 t218:=Tryz.underlying230
 a218:=Tryz.isAgg230
 z218:=Tryz.sizeOf230
 v218:=Tryz.zeroValue230
 t222:=Tryz.underlying226
 a222:=Tryz.isAgg226
 z222:=Tryz.sizeOf226
 v222:=Tryz.zeroValue226
 t228:=Tryz.underlying242
 a228:=Tryz.isAgg242
 z228:=Tryz.sizeOf242
 v228:=Tryz.zeroValue242
 t229:=Tryz.underlying243
 a229:=Tryz.isAgg243
 z229:=Tryz.sizeOf243
 v229:=Tryz.zeroValue243 }
end Go.Proofs
end
section
namespace Px
open Go
theorem yge {σ ρ:Type} (L:Nat->Int->σ->Option ρ) (len:Nat) (Inv:Nat->σ->Prop) (G:Option ρ->Prop)
  (step:∀ n i s,i<len->Inv i s->(∀ s',Inv (i+1) s'->G (L n ((i:Int)+1) s'))->G (L (n+1) i s))
  (done:∀ n s,Inv len s->G (L (n+1) len s)):∀ n i s,i<=len->Inv i s->len-i<n->G (L n i s):=by
 intro n
 induction n with
 | zero=>intro i s _ _ h; omega
 | succ n ih=>
  intro i s hi hI hn
  by_cases h:i=len
  ·subst h; exact done n s hI
  ·refine step n i s (by omega) hI fun s' hs'=>?_
   have:=ih (i+1) s' (by omega) hs' (by omega)
   simpa using this
theorem zi {σ ρ:Type} (L:Nat->Int->σ->Option ρ) (len:Nat) (Inv:Nat->σ->Prop) (G:Option ρ->Prop)
  (step:∀ n i s,i<len->Inv i s->(∀ s',Inv (i+1) s'->G (L n ((i:Int)+1) s'))->G (L (n+1) i s))
  (done:∀ n s,Inv len s->G (L (n+1) len s)) (n:Nat) (s:σ) (h:Inv 0 s) (hn:len<n):G (L n 0 s):=by
 simpa using yge L len Inv G step done n 0 s (Nat.zero_le _) h (by omega)
theorem y1f (x:Int):W x=if x % 18446744073709551616 >= 9223372036854775808 then x % 18446744073709551616-18446744073709551616 else x % 18446744073709551616:=by
 simp [W,IntKind.wrap,IntKind.bits,IntKind.signed]
theorem ybo (x:Int):U x=x % 18446744073709551616:=by
 simp [U,IntKind.wrap,IntKind.bits,IntKind.signed]
theorem W_id {x:Int} (h : -9223372036854775808<=x) (h':x<=9223372036854775807):W x=x:=by
 rw [y1f]; split <;> omega
theorem U_id {x:Int} (h:0<=x) (h':x<=18446744073709551615):U x=x:=by
 rw [ybo]; omega
theorem zns {α:Type} [Inhabited α] (ok:α->Bool) (l:List α) (i:Nat) (h:i<l.length) :(l.take (i+1)).all ok =((l.take i).all ok&&ok (gt l (i:Int))):=by
 rw [List.take_succ_eq_append_getElem h,List.all_append]
 simp [gt,h]
theorem zj6 {α:Type} [Inhabited α] (ok:α->Bool) (l:List α) (i:Nat) (h:i<l.length) :(l.take (i+1)).any ok =((l.take i).any ok||ok (gt l (i:Int))):=by
 rw [List.take_succ_eq_append_getElem h,List.any_append]
 simp [gt,h]
theorem z09 {α:Type} [Inhabited α] (l:List α) (i:Nat) (h:i<l.length):l.take (i+1)=l.take i++[gt l (i:Int)]:=by
 rw [List.take_succ_eq_append_getElem h]
 simp [gt,h]
theorem z0y {α:Type} [Inhabited α] {l:List α} {i:Int} (h0:0<=i) (h:i <(l.length:Int)):gt l i∈l:=by
 have hlt:i.toNat<l.length:=by omega
 simp [gt,hlt]
theorem z0x {α:Type} [Inhabited α] {l:List α} {i:Nat} (h:i<l.length):gt l (i:Int)=l[i]:=by
 simp [gt,h]
theorem y03 {α:Type} [Inhabited α] (l:List α) (i:Nat) (h:i<l.length):l.drop i=gt l (i:Int)::l.drop (i+1):=by
 rw [z0x h,List.getElem_cons_drop]
theorem zgx {α:Type} [Inhabited α] {l:List α} {x:α} (h:x∈l):∃ i:Nat,i<l.length/\gt l (i:Int)=x:=by
 obtain⟨i,hi,e⟩:=List.getElem_of_mem h
 exact⟨i,hi,by rw [z0x hi,e]⟩
theorem zu {α:Type} [Inhabited α] (l:List α) (i j:Int) (x:α) (hi:0<=i) (h:i <(l.length:Int)) (hj:0<=j):gt (zp l i x) j=if j=i then x else gt l j:=by
 unfold gt zp
 by_cases e:j=i
 ·subst e
  have:j.toNat<l.length:=by omega
  simp [List.getD,List.getElem?_set,this]
 ·have:i.toNat≠j.toNat:=by omega
  simp [List.getD,List.getElem?_set,this,e]
theorem z3e {α:Type} [Inhabited α] (n:Nat) (x:α) (j:Int) (hj:0<=j) (h:j<n):gt (List.replicate n x) j=x:=by
 have:j.toNat<n:=by omega
 simp [gt,List.getD,List.getElem?_replicate,this]
theorem zs0 {α ρ:Type} [Inhabited α] (L:Nat->Int->Int->Option ρ) (k:Int->Option ρ) (l:List α) (ok:α->Bool)
  (step:∀(n i:Nat) (s:Int),i<l.length->L (n+1) i s=L n ((i:Int)+1) (bif ok (gt l i) then s else 1)) (done:∀ n s,L (n+1) l.length s=k s) :
  ∀ n s,l.length<n->L n 0 s=k (bif l.all ok then s else 1):=by
 intro n s hn
 refine yge L l.length (fun i t=>t=bif (l.take i).all ok then s else 1) (fun o=>o=k (bif l.all ok then s else 1)) ?_ ?_ n 0 s (Nat.zero_le _) (by simp) (by omega)
 ·intro n i t hi ht hs
  rw [step n i t hi]
  refine hs _ ?_
  rw [zns ok l i hi,ht]
  cases (l.take i).all ok <;> cases ok (gt l (i:Int)) <;> simp
 ·intro n t ht
  rw [done,ht,List.take_length]
theorem ybj {α ρ:Type} [Inhabited α] (L:Nat->Int->Option ρ) (k:Option ρ) (l:List α) (p:α->Bool) (g:α->Option ρ)
  (step:∀ n i:Nat,i<l.length->L (n+1) i=bif p (gt l i) then g (gt l i) else L n ((i:Int)+1)) (done:∀ n,L (n+1) l.length=k) :
  ∀ n,l.length<n->L n 0=match l.find? p with | some x=>g x | none=>k:=by
 intro n hn
 refine zi (fun n i (_:Unit)=>L n i) l.length (fun i _=>∀ x∈l.take i,p x=false) (fun o=>o=match l.find? p with | some x=>g x | none=>k) ?_ ?_ n () (by simp) hn
 ·intro n i _ hi hI hs
  simp only [step n i hi]
  cases e:p (gt l (i:Int)) with
  | false=>
   refine hs () ?_
   rw [z09 l i hi]
   intro x hx
   rcases List.mem_append.1 hx with h | h
   ·exact hI x h
   ·simp at h; rw [h]; exact e
  | true=>
   have:l.find? p=some (gt l (i:Int)):=by
    have h1:l=l.take i++(gt l (i:Int)::l.drop (i+1)):=by
     rw [z0x hi,List.getElem_cons_drop,List.take_append_drop]
    generalize gt l (i:Int)=y at *
    rw [h1,List.find?_append,List.find?_eq_none.2 (fun x hx=>by simp [hI x hx])]
    simp [List.find?_cons,e]
   rw [this]; rfl
 ·intro n _ hI
  simp only [done]
  rw [List.take_length] at hI
  rw [List.find?_eq_none.2 (fun x hx=>by simp [hI x hx])]
theorem yj7 {α ρ:Type} (l:List α) (p:α->Bool) (r k:ρ) :(match l.find? p with | some _=>r | none=>k)=bif l.any p then r else k:=by
 induction l with
 | nil=>rfl
 | cons x l ih=>
  rw [List.find?_cons,List.any_cons]
  cases p x
  ·simpa using ih
  ·rfl
theorem z4x {α ρ:Type} [Inhabited α] (L:Nat->Int->Option ρ) (k r:Option ρ) (l:List α) (p:α->Bool)
  (step:∀ n i:Nat,i<l.length->L (n+1) i=bif p (gt l i) then r else L n ((i:Int)+1)) (done:∀ n,L (n+1) l.length=k)
  (n:Nat) (hn:l.length<n):L n 0=bif l.any p then r else k:=by
 rw [ybj L k l p (fun _=>r) step done n hn,yj7]
def bet (a b c:Int):Bool:=decide (b<=a)&&decide (a<=c)
theorem zg6 {a b c:Int} : bet a b c=true↔b<=a/\a<=c:=by simp [bet]
theorem zug {a b c:Int} (h:bet a b c=true):b<=a/\a<=c:=zg6.1 h
theorem mk_t (n:Int) (b:Nat) (h0:0<=n) (h:n<=100000) (hb:b<=1000000):z4v n b:=by
 refine⟨h0,?_,by omega⟩
 have :(b:Int)*n<=1000000*100000:=Int.mul_le_mul (by omega) h h0 (by omega)
 omega
theorem y5j {x y z:Int} : min2 x y<z↔x<z\/y<z:=by unfold min2; split <;> omega
theorem ynt {x y z:Int} : z<max2 x y↔z<x\/z<y:=by unfold max2; split <;> omega
end Px
end
section
namespace Px
open Go
theorem y71 {a b:Int} : cmpI a b<0↔a<b:=by unfold cmpI; (repeat' split) <;> omega
theorem y4y {a b:Int} : cmpI a b=0↔a=b:=by unfold cmpI; (repeat' split) <;> omega
theorem ypr {a b c d e:Int} : or5 a b c d e<0↔a<0\/(a=0/\(b<0\/(b=0/\(c<0\/(c=0/\(d<0\/(d=0/\e<0))))))):=by
 unfold or5
 by_cases h1:a=0
 ·by_cases h2:b=0
  ·by_cases h3:c=0
   ·by_cases h4:d=0
    ·simp [h1,h2,h3,h4]
    ·simp [h1,h2,h3,h4]
   ·simp [h1,h2,h3]
  ·simp [h1,h2]
 ·simp [h1]
theorem zdw {a b:z6} : cfEv a b<0↔a.visit.early<b.visit.early\/(a.visit.early=b.visit.early/\(a.visit.ref.railway<b.visit.ref.railway\/(a.visit.ref.railway=b.visit.ref.railway/\(a.visit.ref.no<b.visit.ref.no\/(a.visit.ref.no=b.visit.ref.no/\
  (ordB a.second<ordB b.second\/(ordB a.second=ordB b.second/\a.report<b.report))))))):=by
 unfold cfEv
 rw [ypr,y71,y71,y71,y4y,y4y,y4y]
 have e1:∀ x y:Int,(x-y<0) =(x<y):=fun x y=>propext ⟨fun h=>by omega,fun h=>by omega⟩
 have e2:∀ x y:Int,(x-y=0) =(x=y):=fun x y=>propext ⟨fun h=>by omega,fun h=>by omega⟩
 rw [e1,e1,e2]
theorem yk9:Sort.SWO (Proofs.ltOf fun a b : {y:z6 // okEv y=true}=>cfEv a.1 b.1) where
 irrefl:=fun x=>by
  simp only [Proofs.ltOf,decide_eq_false_iff_not]
  rw [zdw]
  omega
 trans:=fun x y z h1 h2=>by
  simp only [Proofs.ltOf,decide_eq_true_eq] at *
  rw [zdw] at *
  omega
 ntrans:=fun x y z h1 h2=>by
  simp only [Proofs.ltOf,decide_eq_false_iff_not] at *
  rw [zdw] at *
  omega
theorem zmc (φ:Nat) (a b:Int):z5l φ a b=some (cmpI a b,()):=by
 unfold z5l cmpI
 simp only [bne_self_eq_false,Bool.false_eq_true,if_false,decide_eq_true_eq]
 split
 ·rfl
 ·split <;> rfl
theorem yi6 (φ:Nat) (b:Bool):zdk φ b=some (ordB b,()):=by
 unfold zdk ordB
 split <;> rfl
theorem yr0 (φ:Nat) (h:6<=φ) (a b c d e:Int):zth φ [a,b,c,d,e]=some (or5 a b c d e,()):=by
 obtain⟨n,rfl⟩:∃ n,φ=n+6:=⟨φ-6,by omega⟩
 unfold zth or5
 simp only [zbr,List.length_cons,List.length_nil]
 have w:∀ x:Int,0<=x->x<100->W (x+1)=x+1:=fun x h1 h2=>W_id (by omega) (by omega)
 have g0:gt [a,b,c,d,e] 0=a:=rfl
 have g1:gt [a,b,c,d,e] 1=b:=rfl
 have g2:gt [a,b,c,d,e] 2=c:=rfl
 have g3:gt [a,b,c,d,e] 3=d:=rfl
 have g4:gt [a,b,c,d,e] 4=e:=rfl
 rw [w 0 (by omega) (by omega),show (0:Int)+1=1 by rfl,w 1 (by omega) (by omega),show (1:Int)+1=2 by rfl,w 2 (by omega) (by omega),show (2:Int)+1=3 by rfl,w 3 (by omega) (by omega),show (3:Int)+1=4 by rfl,w 4 (by omega) (by omega),show (4:Int)+1=5 by rfl,g0,g1,g2,g3,g4]
 simp [ck]
 repeat' (split; try rfl)
 all_goals simp_all
theorem y3b (φ:Nat) (h:6<=φ) (a b:z6) (ha:okEv a=true) (hb:okEv b=true):zba φ a b=some (cfEv a b,()):=by
 simp only [okEv,decide_eq_true_eq] at ha hb
 unfold zba cfEv
 simp only [zmc,yi6,Option.bind_some]
 have w1:W (ordB a.second-ordB b.second)=ordB a.second-ordB b.second:=by
  have:∀ x:Bool,0<=ordB x/\ordB x<=1:=fun x=>by cases x <;> decide
  have h1:=this a.second
  have h2:=this b.second
  exact W_id (by omega) (by omega)
 rw [w1,W_id (by omega) (by omega),yr0 φ h]
 rfl
theorem y5z (a b:z6) (ha:okEv a=true) (hb:okEv b=true):zba 10 a b=some (cfEv a b,()):=y3b 10 (by omega) a b ha hb
end Px
end
section
set_option maxHeartbeats 4000000
set_option maxRecDepth 100000
namespace Px
open Go Go.RowKit Go.Proofs
def zce (φ:Nat):H TV (RTup TT [.val 0]):=.x
def zir (P:Program) (φ:Nat):Env TV:=⟨P,lk [],lk [],lk []⟩
theorem zzg (φ:Nat) (a) :(zcj φ).F a=fnX TV (zir Tryz.prog φ) φ Tryz.f37 [0,0] [.val 0] (zce φ) a:=by kernel_rfl
theorem zyu (φ:Nat):fnO TV (zir Tryz.prog φ) φ Tryz.f37 [.val 0] (zce φ):=by
 unfold fnO
 show obl _ _ _ _ _ _ _
 unfold zce
 repeat' (first | exact trivial |(refine⟨?_,?_⟩) |(intro _) | kernel_rfl)
theorem zoe (φ:Nat):zz TV Tryz.prog 37 (zcj φ):=
 z01 (N:=zir Tryz.prog φ) (zh trivial trivial trivial) (zce φ) Tryz.func37 (by kernel_rfl) (zzg φ) (zyu φ)
def y2x:Msp TV:=⟨3,0,[],zxn⟩
theorem yfs:ycs TV Tryz.prog 127 y2x:=fun l l' sv h=>y3m (ρ:=Tryz.lays189_ren) Tryz.lays189 h
def zd2 (φ:Nat):H TV (RTup TT [.val 0]):=.x
def zhc (P:Program) (φ:Nat):Env TV:=⟨P,lk [],lk [],lk []⟩
theorem zyv (φ:Nat) (a) :(zi0 φ).F a=fnX TV (zhc Tryz.prog φ) φ Tryz.f70 [2] [.val 0] (zd2 φ) a:=by kernel_rfl
theorem y06 (φ:Nat):fnO TV (zhc Tryz.prog φ) φ Tryz.f70 [.val 0] (zd2 φ):=by
 unfold fnO
 show obl _ _ _ _ _ _ _
 unfold zd2
 repeat' (first | exact trivial |(refine⟨?_,?_⟩) |(intro _) | kernel_rfl)
theorem zxi (φ:Nat):zz TV Tryz.prog 70 (zi0 φ):=
 z01 (N:=zhc Tryz.prog φ) (zh trivial trivial trivial) (zd2 φ) Tryz.func70 (by kernel_rfl) (zyv φ) (y06 φ)
def zs2 (φ:Nat):H TV (RTup TT [.val 0]):=(.seq .x (.seq .x (.seq (.seq .x (.body (.loop ⟨[(18,[(3,.val 0),(6,.val 5),(7,.val 0),(8,.val 0)])],[]⟩ (fun n z=>zbr φ n z.1 z.2.1 z.2.2.1 z.2.2.2.1) (fun zk6=>.x)))) .x)))
def zzx (P:Program) (φ:Nat):Env TV:=⟨P,lk [],lk [],lk []⟩
theorem yjf (φ:Nat) (a) :(zry φ).F a=fnX TV (zzx Tryz.prog φ) φ Tryz.f36 [5] [.val 0] (zs2 φ) a:=by kernel_rfl
theorem yjs (φ:Nat):fnO TV (zzx Tryz.prog φ) φ Tryz.f36 [.val 0] (zs2 φ):=by
 unfold fnO
 show obl _ _ _ _ _ _ _
 unfold zs2
 repeat' (first | exact trivial |(refine⟨?_,?_⟩) |(intro _) | kernel_rfl)
theorem y9i (φ:Nat):zz TV Tryz.prog 36 (zry φ):=
 z01 (N:=zzx Tryz.prog φ) (zh trivial trivial trivial) (zs2 φ) Tryz.func36 (by kernel_rfl) (yjf φ) (yjs φ)
def z82 (φ:Nat):H TV (RTup TT [.val 0]):=.x
def zc0 (P:Program) (φ:Nat):Env TV:=⟨P,lk [(37,zcj φ),(70,zi0 φ),(36,zry φ)],lk [],lk []⟩
theorem zrr (φ:Nat) (a) :(zj8 φ).F a=fnX TV (zc0 Tryz.prog φ) φ Tryz.f69 [4,4] [.val 0] (z82 φ) a:=by kernel_rfl
theorem zrt (φ:Nat):fnO TV (zc0 Tryz.prog φ) φ Tryz.f69 [.val 0] (z82 φ):=by
 unfold fnO
 show obl _ _ _ _ _ _ _
 unfold z82
 repeat' (first | exact trivial |(refine⟨?_,?_⟩) |(intro _) | kernel_rfl)
theorem zrk (φ:Nat):zz TV Tryz.prog 69 (zj8 φ):=
 z01 (N:=zc0 Tryz.prog φ) (zh ⟨zoe φ,zxi φ,y9i φ,trivial⟩ trivial trivial) (z82 φ) Tryz.func69 (by kernel_rfl) (zrr φ) (zrt φ)
def y98:Msp TV:=⟨97,4,[69],sortEv⟩
theorem yhu:ycs TV Tryz.prog 68 y98:=
 ygc (V:=TV) (c:=4) (ρ:=Tryz.sortEv_ren) Tryz.sortEv Tryz.isAgg97 (by rw [show TV.sz 4=11 by kernel_rfl]; exact Tryz.sizeOf97) (by kernel_rfl) (by kernel_rfl) ⟨Tryz.f69,Tryz.func69,by kernel_rfl,by kernel_rfl⟩ yk9 fun a b ha hb=>
  (zrk 10 (a,b,()) (cfEv a b,()) (y5z a b ha hb)).mono fun x news ⟨B,hB,h1,h2⟩=>by
   cases B with
   | nil=>exact⟨h1,h2⟩
   | cons y B=>cases hB
def zct (φ:Nat):H TV (RTup TT [.val 6]):=(.seq .x (.seq .x (.seq (.body (.loop ⟨[(26,[(0,.val 6),(1,.val 6),(2,.val 6),(7,.val 6)])],[]⟩ (fun n z=>z3d φ n z.1 z.2.1 z.2.2.1 z.2.2.2.1) (fun zk8=>(.seq .x (.seq (.body (.seq (.join ⟨[(26,[(0,.val 6),(1,.val 6),(2,.val 6),(7,.val 6)])],[]⟩ (fun z=>z8y φ (fun a0 a1 a2 a3=>zk8 (a0,a1,a2,a3,())) z.1 z.2.1 z.2.2.1 z.2.2.2.1) (.seq .x .x)) .x)) .x))))) .x)))
def zh6 (P:Program) (φ:Nat):Env TV:=⟨P,lk [],lk [],lk []⟩
theorem zxr (φ:Nat) (a) :(zi3 φ).F a=fnX TV (zh6 Tryz.prog φ) φ Tryz.f130 [6,6,6] [.val 6] (zct φ) a:=by kernel_rfl
theorem y05 (φ:Nat):fnO TV (zh6 Tryz.prog φ) φ Tryz.f130 [.val 6] (zct φ):=by
 unfold fnO
 show obl _ _ _ _ _ _ _
 unfold zct
 repeat' (first | exact trivial |(refine⟨?_,?_⟩) |(intro _) | kernel_rfl)
theorem zy5 (φ:Nat):zz TV Tryz.prog 130 (zi3 φ):=
 z01 (N:=zh6 Tryz.prog φ) (zh trivial trivial trivial) (zct φ) Tryz.func130 (by kernel_rfl) (zxr φ) (y05 φ)
def zhp (φ:Nat):H TV (RTup TT [.val 6]):=(.seq .x (.seq .x (.seq (.seq .x (.body (.loop ⟨[(22,[(0,.val 6),(1,.val 6),(5,.val 6)])],[]⟩ (fun n z=>z5g φ n z.1 z.2.1 z.2.2.1) (fun zk6=>(.seq .x (.seq (.body (.seq (.join ⟨[(22,[(0,.val 6),(1,.val 6),(5,.val 6)])],[]⟩ (fun z=>zd4 φ (fun a0 a1 a2=>zk6 (a0,a1,a2,())) z.1 z.2.1 z.2.2.1) (.seq .x .x)) .x)) .x)))))) .x)))
def zn0 (P:Program) (φ:Nat):Env TV:=⟨P,lk [(130,zi3 φ)],lk [],lk []⟩
theorem y58 (φ:Nat) (a) :(zh2 φ).F a=fnX TV (zn0 Tryz.prog φ) φ Tryz.f97 [6,6] [.val 6] (zhp φ) a:=by kernel_rfl
theorem y6b (φ:Nat):fnO TV (zn0 Tryz.prog φ) φ Tryz.f97 [.val 6] (zhp φ):=by
 unfold fnO
 show obl _ _ _ _ _ _ _
 unfold zhp
 repeat' (first | exact trivial |(refine⟨?_,?_⟩) |(intro _) | kernel_rfl)
theorem zs8 (φ:Nat):zz TV Tryz.prog 97 (zh2 φ):=
 z01 (N:=zn0 Tryz.prog φ) (zh ⟨zy5 φ,trivial⟩ trivial trivial) (zhp φ) Tryz.func97 (by kernel_rfl) (y58 φ) (y6b φ)
def zat (φ:Nat):H TV (RTup TT [.val 6,.val 0]):=.x
def zg7 (P:Program) (φ:Nat):Env TV:=⟨P,lk [(97,zh2 φ)],lk [],lk []⟩
theorem zvy (φ:Nat) (a) :(zg2 φ).F a=fnX TV (zg7 Tryz.prog φ) φ Tryz.f76 [6] [.val 6,.val 0] (zat φ) a:=by kernel_rfl
theorem zvl (φ:Nat):fnO TV (zg7 Tryz.prog φ) φ Tryz.f76 [.val 6,.val 0] (zat φ):=by
 unfold fnO
 show obl _ _ _ _ _ _ _
 unfold zat
 repeat' (first | exact trivial |(refine⟨?_,?_⟩) |(intro _) | kernel_rfl)
theorem zwd (φ:Nat):zz TV Tryz.prog 76 (zg2 φ):=
 z01 (N:=zg7 Tryz.prog φ) (zh ⟨zs8 φ,trivial⟩ trivial trivial) (zat φ) Tryz.func76 (by kernel_rfl) (zvy φ) (zvl φ)
def z8p (φ:Nat):H TV (RTup TT [.val 30]):=(.seq .x (.seq .x (.seq .x (.seq .x (.seq .x (.seq .x (.seq .x (.seq .x (.seq (.seq .x (.body (.loop ⟨[(50,[(0,.ptr 0 0),(1,.ptr 1 0),(2,.val 0)])],[.box 36 [.own 2,.own 3,.own 4,.own 5,.own 6,.own 7,.own 8,.own 9,.own 10],.box 36 [.own 11,.own 12,.own 13,.own 14,.own 15,.own 16,.own 17,.own 18,.own 19],.row 138 7,.row 112 9,.row 155 12,.row 140 14,.row 172 16,.row 176 18,.row 99 21,.row 136 23,.row 120 28,.row 138 7,.row 112 9,.row 155 12,.row 140 14,.row 172 16,.row 176 18,.row 99 21,.row 136 23,.row 120 28]⟩ (fun n z=>za4 φ n z.1 z.2.1 z.2.2.1 z.2.2.2.1 z.2.2.2.2.1 z.2.2.2.2.2.1 z.2.2.2.2.2.2.1 z.2.2.2.2.2.2.2.1 z.2.2.2.2.2.2.2.2.1 z.2.2.2.2.2.2.2.2.2.1 z.2.2.2.2.2.2.2.2.2.2.1 z.2.2.2.2.2.2.2.2.2.2.2.1 z.2.2.2.2.2.2.2.2.2.2.2.2.1 z.2.2.2.2.2.2.2.2.2.2.2.2.2.1 z.2.2.2.2.2.2.2.2.2.2.2.2.2.2.1 z.2.2.2.2.2.2.2.2.2.2.2.2.2.2.2.1 z.2.2.2.2.2.2.2.2.2.2.2.2.2.2.2.2.1 z.2.2.2.2.2.2.2.2.2.2.2.2.2.2.2.2.2.1 z.2.2.2.2.2.2.2.2.2.2.2.2.2.2.2.2.2.2.1) (fun zk20=>.x)))) .x)))))))))
def zee (P:Program) (φ:Nat):Env TV:=⟨P,lk [(76,zg2 φ)],lk [],lk []⟩
theorem zsx (φ:Nat) (a) :(zez φ).F a=fnX TV (zee Tryz.prog φ) φ Tryz.f47 [] [.val 30] (z8p φ) a:=by kernel_rfl
theorem zt2 (φ:Nat):fnO TV (zee Tryz.prog φ) φ Tryz.f47 [.val 30] (z8p φ):=by
 unfold fnO
 show obl _ _ _ _ _ _ _
 unfold z8p
 repeat' (first | exact trivial |(refine⟨?_,?_⟩) |(intro _) | kernel_rfl)
theorem zuf (φ:Nat):zz TV Tryz.prog 47 (zez φ):=
 z01 (N:=zee Tryz.prog φ) (zh ⟨zwd φ,trivial⟩ trivial trivial) (z8p φ) Tryz.func47 (by kernel_rfl) (zsx φ) (zt2 φ)
def z9f (φ:Nat):H TV (RTup TT [.val 30]):=.x
def zei (P:Program) (φ:Nat):Env TV:=⟨P,lk [(47,zez φ)],lk [],lk []⟩
theorem ztt (φ:Nat) (a) :(zdn φ).F a=fnX TV (zei Tryz.prog φ) φ Tryz.f27 [] [.val 30] (z9f φ) a:=by kernel_rfl
theorem zt8 (φ:Nat):fnO TV (zei Tryz.prog φ) φ Tryz.f27 [.val 30] (z9f φ):=by
 unfold fnO
 show obl _ _ _ _ _ _ _
 unfold z9f
 repeat' (first | exact trivial |(refine⟨?_,?_⟩) |(intro _) | kernel_rfl)
theorem ztk (φ:Nat):zz TV Tryz.prog 27 (zdn φ):=
 z01 (N:=zei Tryz.prog φ) (zh ⟨zuf φ,trivial⟩ trivial trivial) (z9f φ) Tryz.func27 (by kernel_rfl) (ztt φ) (zt8 φ)
def zb9 (φ:Nat):H TV (RTup TT [.val 35]):=.x
def zgf (P:Program) (φ:Nat):Env TV:=⟨P,lk [],lk [],lk []⟩
theorem zw5 (φ:Nat) (a) :(zgl φ).F a=fnX TV (zgf Tryz.prog φ) φ Tryz.f28 [0,0,0,0,0] [.val 35] (zb9 φ) a:=by kernel_rfl
theorem zv4 (φ:Nat):fnO TV (zgf Tryz.prog φ) φ Tryz.f28 [.val 35] (zb9 φ):=by
 unfold fnO
 show obl _ _ _ _ _ _ _
 unfold zb9
 repeat' (first | exact trivial |(refine⟨?_,?_⟩) |(intro _) | kernel_rfl)
theorem zvt (φ:Nat):zz TV Tryz.prog 28 (zgl φ):=
 z01 (N:=zgf Tryz.prog φ) (zh trivial trivial trivial) (zb9 φ) Tryz.func28 (by kernel_rfl) (zw5 φ) (zv4 φ)
def z8x (φ:Nat):H TV (RTup TT [.val 2]):=.x
def zeu (P:Program) (φ:Nat):Env TV:=⟨P,lk [],lk [],lk []⟩
theorem zti (φ:Nat) (a) :(ze7 φ).F a=fnX TV (zeu Tryz.prog φ) φ Tryz.f87 [7] [.val 2] (z8x φ) a:=by kernel_rfl
theorem zt5 (φ:Nat):fnO TV (zeu Tryz.prog φ) φ Tryz.f87 [.val 2] (z8x φ):=by
 unfold fnO
 show obl _ _ _ _ _ _ _
 unfold z8x
 repeat' (first | exact trivial |(refine⟨?_,?_⟩) |(intro _) | kernel_rfl)
theorem zsp (φ:Nat):zz TV Tryz.prog 87 (ze7 φ):=
 z01 (N:=zeu Tryz.prog φ) (zh trivial trivial trivial) (z8x φ) Tryz.func87 (by kernel_rfl) (zti φ) (zt5 φ)
def z93 (φ:Nat):H TV (RTup TT [.val 0]):=(.seq .x (.seq .x (.seq .x (.seq (.seq .x (.body (.loop ⟨[(84,[(1,.ptr 0 0),(3,.val 0),(20,.val 8),(21,.val 0),(22,.val 0)])],[.box 25 [.val 11]]⟩ (fun n z=>z40 φ n z.1 z.2.1 z.2.2.1 z.2.2.2.1 z.2.2.2.2.1) (fun zk7=>.x)))) (.seq (.seq .x (.body (.loop ⟨[(84,[(3,.val 0),(31,.val 10),(32,.val 0),(33,.val 0)])],[]⟩ (fun n z=>z2d φ n z.1 z.2.1 z.2.2.1 z.2.2.2.1) (fun zk13=>.x)))) .x)))))
def zdp (P:Program) (φ:Nat):Env TV:=⟨P,lk [(87,ze7 φ)],lk [],lk []⟩
theorem zt6 (φ:Nat) (a) :(z98 φ).F a=fnX TV (zdp Tryz.prog φ) φ Tryz.f61 [11] [.val 0] (z93 φ) a:=by kernel_rfl
theorem zu3 (φ:Nat):fnO TV (zdp Tryz.prog φ) φ Tryz.f61 [.val 0] (z93 φ):=by
 unfold fnO
 show obl _ _ _ _ _ _ _
 unfold z93
 repeat' (first | exact trivial |(refine⟨?_,?_⟩) |(intro _) | kernel_rfl)
theorem zk2 (φ:Nat):zz TV Tryz.prog 61 (z98 φ):=
 z01 (N:=zdp Tryz.prog φ) (zh ⟨zsp φ,trivial⟩ trivial trivial) (z93 φ) Tryz.func61 (by kernel_rfl) (zt6 φ) (zu3 φ)
def z90 (φ:Nat):H TV (RTup TT [.val 2]):=.x
def zeg (P:Program) (φ:Nat):Env TV:=⟨P,lk [],lk [],lk []⟩
theorem zul (φ:Nat) (a) :(z9g φ).F a=fnX TV (zeg Tryz.prog φ) φ Tryz.f63 [0,0,0] [.val 2] (z90 φ) a:=by kernel_rfl
theorem ztm (φ:Nat):fnO TV (zeg Tryz.prog φ) φ Tryz.f63 [.val 2] (z90 φ):=by
 unfold fnO
 show obl _ _ _ _ _ _ _
 unfold z90
 repeat' (first | exact trivial |(refine⟨?_,?_⟩) |(intro _) | kernel_rfl)
theorem zkh (φ:Nat):zz TV Tryz.prog 63 (z9g φ):=
 z01 (N:=zeg Tryz.prog φ) (zh trivial trivial trivial) (z90 φ) Tryz.func63 (by kernel_rfl) (zul φ) (ztm φ)
def zd3 (φ:Nat):H TV (RTup TT [.val 0]):=(.seq .x (.seq .x (.seq .x (.seq .x (.seq (.seq .x (.body (.loop ⟨[(206,[(1,.ptr 0 0),(3,.ptr 1 0),(4,.func 88 [.ptr 1 0]),(41,.val 13),(42,.val 0),(43,.val 0)])],[.box 31 [.val 20],.box 40 [.val 0]]⟩ (fun n z=>z4k φ n z.1 z.2.1 z.2.2.1 z.2.2.2.1 z.2.2.2.2.1) (fun zk7=>(.seq .x (.seq .x (.seq (.body (.seq .x (.seq (.seq .x (.body (.loop ⟨[(206,[(1,.ptr 0 0),(3,.ptr 1 0),(4,.func 88 [.ptr 1 0]),(6,.ptr 2 0),(41,.val 13),(42,.val 0),(43,.val 0),(55,.own 3),(56,.val 0),(57,.val 0)])],[.box 31 [.val 20],.box 40 [.val 0],.box 155 [.val 12],.row 3 0]⟩ (fun n z=>z2r φ (fun a0 a1 a2 a3 a4=>zk7 (a0,a1,a2,a3,a4,())) n z.1 z.2.1 z.2.2.1 z.2.2.2.1 z.2.2.2.2.1 z.2.2.2.2.2.1 z.2.2.2.2.2.2.1 z.2.2.2.2.2.2.2.1 z.2.2.2.2.2.2.2.2.1) (fun zk17=>.x)))) .x))) .x))))))) (.seq (.seq .x (.body (.loop ⟨[(206,[(1,.ptr 0 0),(3,.ptr 1 0),(4,.func 88 [.ptr 1 0]),(83,.val 15),(84,.val 0),(85,.val 0)])],[.box 31 [.val 20],.box 40 [.val 0]]⟩ (fun n z=>z0n φ n z.1 z.2.1 z.2.2.1 z.2.2.2.1 z.2.2.2.2.1) (fun zk27=>.x)))) (.seq (.seq .x (.body (.loop ⟨[(206,[(1,.ptr 0 0),(3,.ptr 1 0),(4,.func 88 [.ptr 1 0]),(120,.val 17),(121,.val 0),(122,.val 0)])],[.box 31 [.val 20],.box 40 [.val 0]]⟩ (fun n z=>z13 φ n z.1 z.2.1 z.2.2.1 z.2.2.2.1 z.2.2.2.2.1) (fun zk40=>.x)))) (.seq .x (.seq (.seq .x (.body (.loop ⟨[(206,[(3,.ptr 0 0),(4,.func 88 [.ptr 0 0]),(13,.ptr 1 0),(158,.val 19),(159,.val 0),(160,.val 0)])],[.box 40 [.val 0],.box 174 [.val 36]]⟩ (fun n z=>z00 φ n z.1 z.2.1 z.2.2.1 z.2.2.2.1 z.2.2.2.2.1) (fun zk49=>.x)))) .x)))))))))
def ziw (P:Program) (φ:Nat):Env TV:=⟨P,lk [(63,z9g φ)],lk [],lk []⟩
theorem zxs (φ:Nat) (a) :(zj2 φ).F a=fnX TV (ziw Tryz.prog φ) φ Tryz.f62 [20] [.val 0] (zd3 φ) a:=by kernel_rfl
theorem zxl (φ:Nat):fnO TV (ziw Tryz.prog φ) φ Tryz.f62 [.val 0] (zd3 φ):=by
 unfold fnO
 show obl _ _ _ _ _ _ _
 unfold zd3
 repeat' (first | exact trivial |(refine⟨?_,?_⟩) |(intro _) | kernel_rfl)
theorem zzz (φ:Nat):zz TV Tryz.prog 62 (zj2 φ):=
 z01 (N:=ziw Tryz.prog φ) (zh ⟨zkh φ,trivial⟩ trivial trivial) (zd3 φ) Tryz.func62 (by kernel_rfl) (zxs φ) (zxl φ)
def z81 (φ:Nat):H TV (RTup TT [.val 0]):=(.seq .x (.seq (.seq .x (.body (.loop ⟨[(45,[(1,.ptr 0 0),(9,.val 26),(10,.val 0)])],[.box 117 [.val 27]]⟩ (fun n z=>z3g φ n z.1 z.2.1 z.2.2.1) (fun zk5=>.x)))) (.seq .x (.seq (.seq .x (.body (.loop ⟨[(45,[(5,.val 0),(30,.val 5),(31,.val 0),(32,.val 0)])],[]⟩ (fun n z=>z2u φ n z.1 z.2.1 z.2.2.1 z.2.2.2.1) (fun zk10=>.x)))) .x))))
def zc7 (P:Program) (φ:Nat):Env TV:=⟨P,lk [],lk [],lk []⟩
theorem zrp (φ:Nat) (a) :(zca φ).F a=fnX TV (zc7 Tryz.prog φ) φ Tryz.f64 [27] [.val 0] (z81 φ) a:=by kernel_rfl
theorem zrs (φ:Nat):fnO TV (zc7 Tryz.prog φ) φ Tryz.f64 [.val 0] (z81 φ):=by
 unfold fnO
 show obl _ _ _ _ _ _ _
 unfold z81
 repeat' (first | exact trivial |(refine⟨?_,?_⟩) |(intro _) | kernel_rfl)
theorem zri (φ:Nat):zz TV Tryz.prog 64 (zca φ):=
 z01 (N:=zc7 Tryz.prog φ) (zh trivial trivial trivial) (z81 φ) Tryz.func64 (by kernel_rfl) (zrp φ) (zrs φ)
def zfj (φ:Nat):H TV (RTup TT [.val 6,.val 6]):=.x
def zjy (P:Program) (φ:Nat):Env TV:=⟨P,lk [],lk [],lk []⟩
theorem y2f (φ:Nat) (a) :(zfc φ).F a=fnX TV (zjy Tryz.prog φ) φ Tryz.f129 [6,6] [.val 6,.val 6] (zfj φ) a:=by kernel_rfl
theorem y4t (φ:Nat):fnO TV (zjy Tryz.prog φ) φ Tryz.f129 [.val 6,.val 6] (zfj φ):=by
 unfold fnO
 show obl _ _ _ _ _ _ _
 unfold zfj
 repeat' (first | exact trivial |(refine⟨?_,?_⟩) |(intro _) | kernel_rfl)
theorem zr8 (φ:Nat):zz TV Tryz.prog 129 (zfc φ):=
 z01 (N:=zjy Tryz.prog φ) (zh trivial trivial trivial) (zfj φ) Tryz.func129 (by kernel_rfl) (y2f φ) (y4t φ)
def z48 (φ:Nat):H TV (RTup TT [.val 0]):=(.seq .x (.seq (.ins 1 114 (.seq .x (.seq (.join ⟨[(25,[(0,.val 6),(2,.val 0)]),(6,[])],[]⟩ (fun z=>z26 φ z.1 z.2.1) (.seq .x .x)) (.seq (.join ⟨[(25,[(0,.val 6),(2,.val 0)]),(6,[])],[]⟩ (fun z=>z24 φ z.1 z.2.1) (.seq .x .x)) (.seq (.join ⟨[(25,[(0,.val 6),(2,.val 0)]),(6,[])],[]⟩ (fun z=>z1v φ z.1 z.2.1) (.seq .x .x)) .x)))) .x) .x))
def z6s (P:Program) (φ:Nat):Env TV:=⟨P,lk [],lk [],lk []⟩
theorem zl9 (φ:Nat) (a) :(z6r φ).F a=fnX TV (z6s Tryz.prog φ) φ Tryz.f157 [6] [.val 0] (z48 φ) a:=by kernel_rfl
theorem zkw (φ:Nat):fnO TV (z6s Tryz.prog φ) φ Tryz.f157 [.val 0] (z48 φ):=by
 unfold fnO
 show obl _ _ _ _ _ _ _
 unfold z48
 repeat' (first | exact trivial |(refine⟨?_,?_⟩) |(intro _) | kernel_rfl)
theorem zl6 (φ:Nat):zz TV Tryz.prog 157 (z6r φ):=
 z01 (N:=z6s Tryz.prog φ) (zh trivial trivial trivial) (z48 φ) Tryz.func157 (by kernel_rfl) (zl9 φ) (zkw φ)
def zfb (φ:Nat):H TV (RTup TT [.val 6,.val 6]):=(.seq .x (.seq .x (.seq .x (.seq .x (.seq .x (.seq .x (.seq .x (.seq .x (.seq .x (.seq .x (.seq .x (.seq .x (.seq .x (.seq .x (.seq (.join ⟨[(135,[(2,.val 6),(8,.val 6),(9,.val 6),(10,.val 6),(11,.val 6),(13,.val 6),(14,.val 6),(15,.val 6)])],[]⟩ (fun z=>z7x φ z.1 z.2.1 z.2.2.1 z.2.2.2.1 z.2.2.2.2.1 z.2.2.2.2.2.1 z.2.2.2.2.2.2.1 z.2.2.2.2.2.2.2.1) (.body (.loop ⟨[(135,[(2,.val 6),(8,.val 6),(9,.val 6),(10,.val 6),(11,.val 6),(13,.val 6),(14,.val 6),(15,.val 6),(16,.val 6)])],[]⟩ (fun n z=>z7s φ n z.1 z.2.1 z.2.2.1 z.2.2.2.1 z.2.2.2.2.1 z.2.2.2.2.2.1 z.2.2.2.2.2.2.1 z.2.2.2.2.2.2.2.1 z.2.2.2.2.2.2.2.2.1) (fun zk40=>.x)))) (.seq .x (.seq .x (.seq .x (.seq (.join ⟨[(135,[(2,.val 6),(8,.val 6),(14,.val 6),(15,.val 6),(17,.val 6),(18,.val 6)])],[]⟩ (fun z=>z7r φ z.1 z.2.1 z.2.2.1 z.2.2.2.1 z.2.2.2.2.1 z.2.2.2.2.2.1) (.body (.loop ⟨[(135,[(2,.val 6),(8,.val 6),(9,.val 6),(10,.val 6),(14,.val 6),(15,.val 6),(16,.val 6),(17,.val 6),(18,.val 6)])],[]⟩ (fun n z=>z7t φ n z.1 z.2.1 z.2.2.1 z.2.2.2.1 z.2.2.2.2.1 z.2.2.2.2.2.1 z.2.2.2.2.2.2.1 z.2.2.2.2.2.2.2.1 z.2.2.2.2.2.2.2.2.1) (fun zk30=>.x)))) .x)))))))))))))))))))
def zko (P:Program) (φ:Nat):Env TV:=⟨P,lk [(157,z6r φ)],lk [],lk []⟩
theorem y3r (φ:Nat) (a) :(zkf φ).F a=fnX TV (zko Tryz.prog φ) φ Tryz.f145 [6,6,6] [.val 6,.val 6] (zfb φ) a:=by kernel_rfl
theorem y3g (φ:Nat):fnO TV (zko Tryz.prog φ) φ Tryz.f145 [.val 6,.val 6] (zfb φ):=by
 unfold fnO
 show obl _ _ _ _ _ _ _
 unfold zfb
 repeat' (first | exact trivial |(refine⟨?_,?_⟩) |(intro _) | kernel_rfl)
theorem y3f (φ:Nat):zz TV Tryz.prog 145 (zkf φ):=
 z01 (N:=zko Tryz.prog φ) (zh ⟨zl6 φ,trivial⟩ trivial trivial) (zfb φ) Tryz.func145 (by kernel_rfl) (y3r φ) (y3g φ)
def zly (φ:Nat):H TV (RTup TT [.val 6]):=(.seq .x (.seq .x (.seq .x (.seq (.seq (.ins 1 114 (.seq .x (.seq (.join ⟨[(25,[(0,.val 6),(2,.val 0)]),(33,[(0,.val 6),(1,.val 6),(5,.func 144 [.ptr 0 0]),(6,.val 6)])],[.box 118 [.val 6]]⟩ (fun z=>zer φ z.1 z.2.1 z.2.2.1 z.2.2.2.1 z.2.2.2.2.1 z.2.2.2.2.2.1) (.seq .x .x)) (.seq (.join ⟨[(25,[(0,.val 6),(2,.val 0)]),(33,[(0,.val 6),(1,.val 6),(5,.func 144 [.ptr 0 0]),(6,.val 6)])],[.box 118 [.val 6]]⟩ (fun z=>zbh φ z.1 z.2.1 z.2.2.1 z.2.2.2.1 z.2.2.2.2.1 z.2.2.2.2.2.1) (.seq .x .x)) (.seq (.join ⟨[(25,[(0,.val 6),(2,.val 0)]),(33,[(0,.val 6),(1,.val 6),(5,.func 144 [.ptr 0 0]),(6,.val 6)])],[.box 118 [.val 6]]⟩ (fun z=>zbn φ z.1 z.2.1 z.2.2.1 z.2.2.2.1 z.2.2.2.2.1 z.2.2.2.2.2.1) (.seq .x .x)) .x)))) .x) (.body (.loop ⟨[(33,[(0,.val 6),(1,.val 6),(5,.func 144 [.ptr 0 0]),(6,.val 6),(10,.val 0),(11,.val 0)])],[.box 118 [.val 6]]⟩ (fun n z=>z0s φ n z.1 z.2.1 z.2.2.1 z.2.2.2.1 z.2.2.2.2.1 z.2.2.2.2.2.1) (fun zk30=>(.seq .x (.seq .x (.seq (.body (.seq .x (.seq .x (.seq (.ins 2 114 (.seq .x (.seq (.join ⟨[(25,[(0,.val 6),(2,.val 0)]),(33,[(0,.val 6),(1,.val 6),(5,.func 144 [.ptr 0 0]),(6,.val 6),(7,.val 0),(10,.val 0),(11,.val 0),(18,.val 6)])],[.box 118 [.val 6]]⟩ (fun z=>z4a φ (fun a0 a1 a2 a3 a4 a5=>zk30 (a0,a1,a2,a3,a4,a5,())) z.1 z.2.1 z.2.2.1 z.2.2.2.1 z.2.2.2.2.1 z.2.2.2.2.2.1 z.2.2.2.2.2.2.1 z.2.2.2.2.2.2.2.1 z.2.2.2.2.2.2.2.2.1 z.2.2.2.2.2.2.2.2.2.1) (.seq .x .x)) (.seq (.join ⟨[(25,[(0,.val 6),(2,.val 0)]),(33,[(0,.val 6),(1,.val 6),(5,.func 144 [.ptr 0 0]),(6,.val 6),(7,.val 0),(10,.val 0),(11,.val 0),(18,.val 6)])],[.box 118 [.val 6]]⟩ (fun z=>zbl φ (fun a0 a1 a2 a3 a4 a5=>zk30 (a0,a1,a2,a3,a4,a5,())) z.1 z.2.1 z.2.2.1 z.2.2.2.1 z.2.2.2.2.1 z.2.2.2.2.2.1 z.2.2.2.2.2.2.1 z.2.2.2.2.2.2.2.1 z.2.2.2.2.2.2.2.2.1 z.2.2.2.2.2.2.2.2.2.1) (.seq .x .x)) (.seq (.join ⟨[(25,[(0,.val 6),(2,.val 0)]),(33,[(0,.val 6),(1,.val 6),(5,.func 144 [.ptr 0 0]),(6,.val 6),(7,.val 0),(10,.val 0),(11,.val 0),(18,.val 6)])],[.box 118 [.val 6]]⟩ (fun z=>zbk φ (fun a0 a1 a2 a3 a4 a5=>zk30 (a0,a1,a2,a3,a4,a5,())) z.1 z.2.1 z.2.2.1 z.2.2.2.1 z.2.2.2.2.1 z.2.2.2.2.2.1 z.2.2.2.2.2.2.1 z.2.2.2.2.2.2.2.1 z.2.2.2.2.2.2.2.2.1 z.2.2.2.2.2.2.2.2.2.1) (.seq .x .x)) .x)))) .x) .x)))) .x))))))) .x))))
def zpd (P:Program) (φ:Nat):Env TV:=⟨P,lk [(129,zfc φ),(145,zkf φ)],lk [],lk []⟩
theorem yba (φ:Nat) (a) :(zq5 φ).F a=fnX TV (zpd Tryz.prog φ) φ Tryz.f89 [6,6] [.val 6] (zly φ) a:=by kernel_rfl
theorem ya3 (φ:Nat):fnO TV (zpd Tryz.prog φ) φ Tryz.f89 [.val 6] (zly φ):=by
 unfold fnO
 show obl _ _ _ _ _ _ _
 unfold zly
 repeat' (first | exact trivial |(refine⟨?_,?_⟩) |(intro _) | kernel_rfl)
theorem ya6 (φ:Nat):zz TV Tryz.prog 89 (zq5 φ):=
 z01 (N:=zpd Tryz.prog φ) (zh ⟨zr8 φ,y3f φ,trivial⟩ trivial trivial) (zly φ) Tryz.func89 (by kernel_rfl) (yba φ) (ya3 φ)
def zf6 (φ:Nat):H TV (RTup TT [.val 2]):=.x
def zkk (P:Program) (φ:Nat):Env TV:=⟨P,lk [(89,zq5 φ)],lk [],lk []⟩
theorem y1a (φ:Nat) (a) :(zkp φ).F a=fnX TV (zkk Tryz.prog φ) φ Tryz.f65 [6] [.val 2] (zf6 φ) a:=by kernel_rfl
theorem y1t (φ:Nat):fnO TV (zkk Tryz.prog φ) φ Tryz.f65 [.val 2] (zf6 φ):=by
 unfold fnO
 show obl _ _ _ _ _ _ _
 unfold zf6
 repeat' (first | exact trivial |(refine⟨?_,?_⟩) |(intro _) | kernel_rfl)
theorem y4n (φ:Nat):zz TV Tryz.prog 65 (zkp φ):=
 z01 (N:=zkk Tryz.prog φ) (zh ⟨ya6 φ,trivial⟩ trivial trivial) (zf6 φ) Tryz.func65 (by kernel_rfl) (y1a φ) (y1t φ)
def z7g (φ:Nat):H TV (RTup TT [.val 0]):=(.seq .x (.seq .x (.seq .x (.seq .x (.seq .x (.seq .x (.seq (.seq .x (.body (.loop ⟨[(193,[(1,.ptr 0 0),(5,.val 8),(6,.val 0),(7,.val 2),(57,.val 22),(58,.val 0),(59,.val 0)])],[.box 36 [.val 30]]⟩ (fun n z=>z2c φ n z.1 z.2.1 z.2.2.1 z.2.2.2.1 z.2.2.2.2.1 z.2.2.2.2.2.1 z.2.2.2.2.2.2.1) (fun zk11=>.x)))) (.seq (.seq .x (.body (.loop ⟨[(193,[(1,.ptr 0 0),(5,.val 8),(6,.val 0),(7,.val 2),(92,.val 24),(93,.val 0),(94,.val 0)])],[.box 36 [.val 30]]⟩ (fun n z=>z1b φ n z.1 z.2.1 z.2.2.1 z.2.2.2.1 z.2.2.2.2.1 z.2.2.2.2.2.1 z.2.2.2.2.2.2.1) (fun zk20=>.x)))) (.seq (.seq .x (.body (.loop ⟨[(193,[(1,.ptr 0 0),(5,.val 8),(6,.val 0),(7,.val 2),(120,.val 15),(121,.val 0),(122,.val 0)])],[.box 36 [.val 30]]⟩ (fun n z=>z1c φ n z.1 z.2.1 z.2.2.1 z.2.2.2.1 z.2.2.2.2.1 z.2.2.2.2.2.1 z.2.2.2.2.2.2.1) (fun zk29=>.x)))) (.seq (.seq .x (.body (.loop ⟨[(193,[(1,.ptr 0 0),(6,.val 0),(7,.val 2),(135,.val 8),(136,.val 0),(137,.val 0)])],[.box 36 [.val 30]]⟩ (fun n z=>z1d φ n z.1 z.2.1 z.2.2.1 z.2.2.2.1 z.2.2.2.2.1 z.2.2.2.2.2.1) (fun zk36=>.x)))) (.seq (.seq .x (.body (.loop ⟨[(193,[(1,.ptr 0 0),(6,.val 0),(7,.val 2),(157,.val 10),(158,.val 0),(159,.val 0)])],[.box 36 [.val 30]]⟩ (fun n z=>z1f φ n z.1 z.2.1 z.2.2.1 z.2.2.2.1 z.2.2.2.2.1 z.2.2.2.2.2.1) (fun zk43=>.x)))) (.seq (.seq .x (.body (.loop ⟨[(193,[(7,.val 2),(172,.val 29),(173,.val 0),(174,.val 0)])],[]⟩ (fun n z=>z1e φ n z.1 z.2.1 z.2.2.1 z.2.2.2.1) (fun zk48=>.x)))) .x))))))))))))
def zac (P:Program) (φ:Nat):Env TV:=⟨P,lk [(61,z98 φ),(62,zj2 φ),(63,z9g φ),(64,zca φ),(65,zkp φ)],lk [],lk []⟩
theorem zqg (φ:Nat) (a) :(z73 φ).F a=fnX TV (zac Tryz.prog φ) φ Tryz.f40 [30] [.val 0] (z7g φ) a:=by kernel_rfl
theorem zpp (φ:Nat):fnO TV (zac Tryz.prog φ) φ Tryz.f40 [.val 0] (z7g φ):=by
 unfold fnO
 show obl _ _ _ _ _ _ _
 unfold z7g
 repeat' (first | exact trivial |(refine⟨?_,?_⟩) |(intro _) | kernel_rfl)
theorem zgr (φ:Nat):zz TV Tryz.prog 40 (z73 φ):=
 z01 (N:=zac Tryz.prog φ) (zh ⟨zk2 φ,zzz φ,zkh φ,zri φ,y4n φ,trivial⟩ trivial trivial) (z7g φ) Tryz.func40 (by kernel_rfl) (zqg φ) (zpp φ)
def z9o (φ:Nat):H TV (RTup TT [.val 2]):=.x
def zf0 (P:Program) (φ:Nat):Env TV:=⟨P,lk [],lk [],lk []⟩
theorem ztr (φ:Nat) (a) :(zdu φ).F a=fnX TV (zf0 Tryz.prog φ) φ Tryz.f115 [34] [.val 2] (z9o φ) a:=by kernel_rfl
theorem zt0 (φ:Nat):fnO TV (zf0 Tryz.prog φ) φ Tryz.f115 [.val 2] (z9o φ):=by
 unfold fnO
 show obl _ _ _ _ _ _ _
 unfold z9o
 repeat' (first | exact trivial |(refine⟨?_,?_⟩) |(intro _) | kernel_rfl)
theorem zty (φ:Nat):zz TV Tryz.prog 115 (zdu φ):=
 z01 (N:=zf0 Tryz.prog φ) (zh trivial trivial trivial) (z9o φ) Tryz.func115 (by kernel_rfl) (ztr φ) (zt0 φ)
def zj7 (φ:Nat):H TV (RTup TT [.val 2]):=(.seq .x (.seq (.seq .x (.body (.loop ⟨[(43,[(0,.val 33),(1,.val 2),(7,.val 33),(8,.val 0),(9,.val 0)])],[]⟩ (fun n z=>z8c φ n z.1 z.2.1 z.2.2.1 z.2.2.2.1 z.2.2.2.2.1) (fun zk8=>.x)))) .x))
def znh (P:Program) (φ:Nat):Env TV:=⟨P,lk [],lk [],lk []⟩
theorem y65 (φ:Nat) (a) :(zn1 φ).F a=fnX TV (znh Tryz.prog φ) φ Tryz.f165 [33,2] [.val 2] (zj7 φ) a:=by kernel_rfl
theorem y5p (φ:Nat):fnO TV (znh Tryz.prog φ) φ Tryz.f165 [.val 2] (zj7 φ):=by
 unfold fnO
 show obl _ _ _ _ _ _ _
 unfold zj7
 repeat' (first | exact trivial |(refine⟨?_,?_⟩) |(intro _) | kernel_rfl)
theorem y56 (φ:Nat):zz TV Tryz.prog 165 (zn1 φ):=
 z01 (N:=znh Tryz.prog φ) (zh trivial trivial trivial) (zj7 φ) Tryz.func165 (by kernel_rfl) (y65 φ) (y5p φ)
def zft (φ:Nat):H TV (RTup TT [.val 2]):=(.seq .x (.seq .x (.seq (.join ⟨[(46,[(5,.ptr 0 0)])],[.box 225 [.val 37]]⟩ (fun z=>ze φ z.1) (.seq .x (.cond (.ins 0 146 (.seq .x (.seq .x (.seq .x (.seq .x (.body (.seq .x (.cond .x (.seq .x (.cond (.seq (.ins 1 161 (.seq .x (.seq (.join ⟨[(66,[(0,.ptr 0 0),(1,.val 0),(4,.ptr 1 0)]),(135,[(0,.ptr 0 0)]),(46,[(5,.ptr 0 0)])],[.box 225 [.val 37],.box 138 [.val 7]]⟩ (fun z=>z5m φ z.1 z.2.1 z.2.2.1) (.seq .x .x)) .x)) .x) .x) (.seq (.join ⟨[(135,[(0,.ptr 0 0),(2,.ptr 0 9),(20,.val 0),(43,.val 2)]),(46,[(5,.ptr 0 0)])],[.box 225 [.val 37]]⟩ (fun z=>z4i φ z.1 z.2.1 z.2.2.1) (.seq .x .x)) (.cond (.seq (.ins 1 161 (.seq .x (.seq (.join ⟨[(66,[(0,.ptr 0 0),(1,.val 0),(4,.ptr 1 0)]),(135,[(0,.ptr 0 0),(2,.ptr 0 9)]),(46,[(5,.ptr 0 0)])],[.box 225 [.val 37],.box 138 [.val 7]]⟩ (fun z=>z4j φ z.1 z.2.1 z.2.2.1) (.seq .x .x)) .x)) .x) .x) (.seq .x (.cond (.seq .x (.seq .x (.seq (.ins 1 161 (.seq .x (.seq (.join ⟨[(66,[(0,.ptr 0 0),(1,.val 0),(4,.ptr 1 0)]),(135,[(0,.ptr 0 0),(2,.ptr 0 9)]),(46,[(5,.ptr 0 0)])],[.box 225 [.val 37],.box 138 [.val 7]]⟩ (fun z=>z4m φ z.1 z.2.1 z.2.2.1) (.seq .x .x)) .x)) .x) .x))) (.seq (.join ⟨[(135,[(0,.ptr 0 0),(2,.ptr 0 9),(116,.val 2)]),(46,[(5,.ptr 0 0)])],[.box 225 [.val 37]]⟩ (fun z=>z4o φ z.1 z.2.1) (.seq .x .x)) (.cond (.seq (.ins 1 161 (.seq .x (.seq (.join ⟨[(66,[(0,.ptr 0 0),(1,.val 0),(4,.ptr 1 0)]),(135,[(0,.ptr 0 0),(2,.ptr 0 9)]),(46,[(5,.ptr 0 0)])],[.box 225 [.val 37],.box 138 [.val 7]]⟩ (fun z=>z4c φ z.1 z.2.1 z.2.2.1) (.seq .x .x)) .x)) .x) .x) .x))))))))))))))) .x) (.ins 0 147 (.seq .x (.seq .x (.body (.seq .x (.cond .x (.seq .x (.cond (.seq .x (.seq (.ins 1 161 (.seq .x (.seq (.join ⟨[(66,[(0,.ptr 0 0),(1,.val 0),(4,.ptr 1 0)]),(168,[(0,.ptr 0 0),(2,.ptr 0 9)]),(46,[(5,.ptr 0 0)])],[.box 225 [.val 37],.box 138 [.val 7]]⟩ (fun z=>z4e φ z.1 z.2.1 z.2.2.1) (.seq .x .x)) .x)) .x) .x)) (.seq .x (.cond .x (.seq (.join ⟨[(168,[(0,.ptr 0 0),(2,.ptr 0 9),(9,.val 0),(91,.val 2)]),(46,[(5,.ptr 0 0)])],[.box 225 [.val 37]]⟩ (fun z=>z1q φ z.1 z.2.1 z.2.2.1) (.seq .x .x)) (.cond .x (.seq .x (.cond .x (.seq .x (.cond (.seq .x (.seq (.ins 1 161 (.seq .x (.seq (.join ⟨[(66,[(0,.ptr 0 0),(1,.val 0),(4,.ptr 1 0)]),(168,[(0,.ptr 0 0),(2,.ptr 0 9)]),(46,[(5,.ptr 0 0)])],[.box 225 [.val 37],.box 138 [.val 7]]⟩ (fun z=>z4p φ z.1 z.2.1 z.2.2.1) (.seq .x .x)) .x)) .x) .x)) .x))))))))))))))) .x)))) (.seq (.seq .x (.body (.unr 12 .x))) .x))))
def zk3 (P:Program) (φ:Nat):Env TV:=⟨P,lk [(165,zn1 φ)],lk [],lk []⟩
theorem y3y (φ:Nat) (a) :(zki φ).F a=fnX TV (zk3 Tryz.prog φ) φ Tryz.f116 [30,34] [.val 2] (zft φ) a:=by kernel_rfl
theorem y2g (φ:Nat):fnO TV (zk3 Tryz.prog φ) φ Tryz.f116 [.val 2] (zft φ):=by
 unfold fnO
 show obl _ _ _ _ _ _ _
 unfold zft
 repeat' (first | exact trivial |(refine⟨?_,?_⟩) |(intro _) | kernel_rfl)
theorem y1b (φ:Nat):zz TV Tryz.prog 116 (zki φ):=
 z01 (N:=zk3 Tryz.prog φ) (zh ⟨y56 φ,trivial⟩ trivial trivial) (zft φ) Tryz.func116 (by kernel_rfl) (y3y φ) (y2g φ)
def zhb (φ:Nat):H TV (RTup TT [.val 0]):=.x
def znj (P:Program) (φ:Nat):Env TV:=⟨P,lk [(40,z73 φ),(115,zdu φ),(116,zki φ)],lk [],lk []⟩
theorem y5n (φ:Nat) (a) :(zn8 φ).F a=fnX TV (znj Tryz.prog φ) φ Tryz.f90 [30,34] [.val 0] (zhb φ) a:=by kernel_rfl
theorem y77 (φ:Nat):fnO TV (znj Tryz.prog φ) φ Tryz.f90 [.val 0] (zhb φ):=by
 unfold fnO
 show obl _ _ _ _ _ _ _
 unfold zhb
 repeat' (first | exact trivial |(refine⟨?_,?_⟩) |(intro _) | kernel_rfl)
theorem y4x (φ:Nat):zz TV Tryz.prog 90 (zn8 φ):=
 z01 (N:=znj Tryz.prog φ) (zh ⟨zgr φ,zty φ,y1b φ,trivial⟩ trivial trivial) (zhb φ) Tryz.func90 (by kernel_rfl) (y5n φ) (y77 φ)
def z8z (φ:Nat):H TV (RTup TT [.val 5]):=(.seq .x (.seq .x (.seq (.seq .x (.body (.loop ⟨[(26,[(2,.ptr 0 0),(5,.own 1),(8,.val 38),(9,.val 0),(10,.val 0)])],[.box 36 [.val 30],.row 3 0]⟩ (fun n z=>z2x φ n z.1 z.2.1 z.2.2.1 z.2.2.2.1 z.2.2.2.2.1) (fun zk8=>.x)))) .x)))
def zdo (P:Program) (φ:Nat):Env TV:=⟨P,lk [(90,zn8 φ)],lk [],lk []⟩
theorem ztz (φ:Nat) (a) :(zel φ).F a=fnX TV (zdo Tryz.prog φ) φ Tryz.f66 [30,38] [.val 5] (z8z φ) a:=by kernel_rfl
theorem zua (φ:Nat):fnO TV (zdo Tryz.prog φ) φ Tryz.f66 [.val 5] (z8z φ):=by
 unfold fnO
 show obl _ _ _ _ _ _ _
 unfold z8z
 repeat' (first | exact trivial |(refine⟨?_,?_⟩) |(intro _) | kernel_rfl)
theorem ztn (φ:Nat):zz TV Tryz.prog 66 (zel φ):=
 z01 (N:=zdo Tryz.prog φ) (zh ⟨y4x φ,trivial⟩ trivial trivial) (z8z φ) Tryz.func66 (by kernel_rfl) (ztz φ) (zua φ)
def z6k (φ:Nat):H TV (RTup TT [.val 4]):=.x
def z91 (P:Program) (φ:Nat):Env TV:=⟨P,lk [],lk [],lk []⟩
theorem zor (φ:Nat) (a b) :(z9q φ).F a b=fnXc TV (z91 Tryz.prog φ) φ Tryz.f91 [0,0] [.b (.val 34),.b (.val 35),.b (.val 0)] [.val 4] (z6k φ) a b:=by kernel_rfl
theorem zou (φ:Nat):fnO TV (z91 Tryz.prog φ) φ Tryz.f91 [.val 4] (z6k φ):=by
 unfold fnO
 show obl _ _ _ _ _ _ _
 unfold z6k
 repeat' (first | exact trivial |(refine⟨?_,?_⟩) |(intro _) | kernel_rfl)
theorem zop (φ:Nat):y68 TV Tryz.prog 91 (z9q φ):=
 y8j (N:=z91 Tryz.prog φ) (zh trivial trivial trivial) (z6k φ) Tryz.func91 (by kernel_rfl) (zor φ) (zou φ)
theorem zlc (φ:Nat) (x14:Item) (x15:z8) (x16:Int):z06 (z2v φ x14 x15 x16) (z88 φ x14 x15 x16):=by
 unfold z2v z88
 repeat' (first | exact z06.one | exact z06.nil | refine z06.cons ?_ ?_ | refine z06.ck ?_ | exact z06.same (n:=2) rfl | exact z06.same (n:=3) rfl | exact z06.same (n:=4) rfl | exact z06.same (n:=6) rfl | refine z06.bind fun _=>?_)
def z85 (φ:Nat):H TV (RTup TT [.val 39]):=(.seq .x (.seq .x (.seq .x (.seq (.seq .x (.body (.seq .x (.cond .x (.seq (.join ⟨[(68,[(7,.ptr 0 0),(8,.func 91 [.ptr 0 0,.ptr 1 0,.ptr 2 0]),(16,.val 0),(35,.val 2)])],[.box 59 [.val 34],.box 61 [.val 35],.box 3 [.val 0]]⟩ (fun z=>z0d φ z.1 z.2.1 z.2.2.1 z.2.2.2.1 z.2.2.2.2.1) (.seq .x .x)) (.cond (.seq (.join ⟨[(68,[(10,.ptr 0 0),(11,.ptr 1 0)])],[.box 97 [.val 4],.box 97 [.val 4]]⟩ (fun z=>z2t φ z.1 z.2.1) (.alt ⟨[(68,[(7,.ptr 0 0),(8,.func 91 [.ptr 0 0,.ptr 1 0,.ptr 2 0])])],[.box 59 [.val 34],.box 61 [.val 35],.box 3 [.val 0]]⟩ (fun z=>z2v φ z.1 z.2.1 z.2.2.1) (fun z=>z88 φ z.1 z.2.1 z.2.2.1))) .x) (.seq (.join ⟨[(68,[(7,.ptr 0 0),(8,.func 91 [.ptr 0 0,.ptr 1 0,.ptr 2 0]),(56,.val 2)])],[.box 59 [.val 34],.box 61 [.val 35],.box 3 [.val 0]]⟩ (fun z=>z0e φ z.1 z.2.1 z.2.2.1 z.2.2.2.1) (.seq .x .x)) .x))))))) .x))))
def zc5 (P:Program) (φ:Nat):Env TV:=⟨P,lk [],lk [],lk [(91,z9q φ)]⟩
theorem zrd (φ:Nat) (a) :(zc9 φ).F a=fnX TV (zc5 Tryz.prog φ) φ Tryz.f67 [30,35,0] [.val 39] (z85 φ) a:=by kernel_rfl
theorem zrh (φ:Nat):fnO TV (zc5 Tryz.prog φ) φ Tryz.f67 [.val 39] (z85 φ):=by
 unfold fnO
 show obl _ _ _ _ _ _ _
 unfold z85
 repeat' (first | exact trivial |(refine⟨?_,?_⟩) |(intro _) | kernel_rfl | exact zlc ..)
theorem zrl (φ:Nat):zz TV Tryz.prog 67 (zc9 φ):=
 z01 (N:=zc5 Tryz.prog φ) (zh trivial trivial ⟨zop φ,trivial⟩) (z85 φ) Tryz.func67 (by kernel_rfl) (zrd φ) (zrh φ)
def zb2 (φ:Nat):H TV (RTup TT [.val 40]):=(.seq .x (.seq .x (.seq (.seq .x (.body (.loop ⟨[(63,[(1,.val 38),(2,.ptr 0 0),(5,.own 1),(19,.val 5),(20,.val 0),(21,.val 0)])],[.box 36 [.val 30],.nst 93 97 39 none]⟩ (fun n z=>z33 φ n z.1 z.2.1 z.2.2.1 z.2.2.2.1 z.2.2.2.2.1 z.2.2.2.2.2.1) (fun zk10=>(.seq .x (.seq .x (.seq (.body (.seq .x (.seq .x (.seq .x (.cond (.seq .x (.foc (5,none) (9,none) .x)) .x))))) .x))))))) (.seq (.seq .x (.body (.loop ⟨[(63,[(5,.own 0),(51,.own 0),(52,.val 0),(53,.val 0)])],[.nst 93 97 39 none]⟩ (fun n z=>z20 φ n z.1 z.2.1 z.2.2.1) (fun zk15=>(.seq .x (.seq .x (.seq (.body (.seq (.foc (5,none) (53,none) .x) (.seq .x (.ins 1 71 (.seq .x (.seq .x (.body (.loop ⟨[(48,[(0,.own 0),(2,.own 1),(6,.val 0),(7,.val 0)]),(63,[(5,.own 2),(51,.own 2),(52,.val 0),(53,.val 0)])],[.row 97 4,.map 0 2,.nst 93 97 39 (some 0)]⟩ (fun n z=>z18 φ (fun a0 a1 a2=>zk15 (a0,a1,a2,())) n z.1 z.2.1 z.2.2.1 z.2.2.2.1 z.2.2.2.2.1 z.2.2.2.2.2.1 z.2.2.2.2.2.2.1 z.2.2.2.2.2.2.2.1) (fun zk25=>(.seq .x (.seq .x (.seq (.body (.seq .x (.seq (.join ⟨[(48,[(0,.own 0),(2,.own 1),(3,.val 0),(6,.val 0),(7,.val 0)]),(63,[(5,.own 2),(51,.own 2),(52,.val 0),(53,.val 0)])],[.row 97 4,.map 0 2,.nst 93 97 39 (some 0)]⟩ (fun z=>z3y φ (fun a0 a1 a2 a3 a4 a5 a6 a7=>zk25 (a0,a1,a2,a3,a4,a5,a6,a7,())) z.1 z.2.1 z.2.2.1 z.2.2.2.1 z.2.2.2.2.1 z.2.2.2.2.2.1 z.2.2.2.2.2.2.1 z.2.2.2.2.2.2.2.1 z.2.2.2.2.2.2.2.2.1) (.seq .x .x)) .x))) .x)))))))) .x)))) .x))))))) .x))))
def zg9 (P:Program) (φ:Nat):Env TV:=⟨P,lk [(66,zel φ),(67,zc9 φ)],lk [(68,y98)],lk []⟩
theorem zvp (φ:Nat) (a) :(zgk φ).F a=fnX TV (zg9 Tryz.prog φ) φ Tryz.f41 [30,38] [.val 40] (zb2 φ) a:=by kernel_rfl
theorem zvm (φ:Nat):fnO TV (zg9 Tryz.prog φ) φ Tryz.f41 [.val 40] (zb2 φ):=by
 unfold fnO
 show obl _ _ _ _ _ _ _
 unfold zb2
 repeat' (first | exact trivial |(refine⟨?_,?_⟩) |(intro _) | kernel_rfl)
theorem zvn (φ:Nat):zz TV Tryz.prog 41 (zgk φ):=
 z01 (N:=zg9 Tryz.prog φ) (zh ⟨ztn φ,zrl φ,trivial⟩ ⟨yhu,trivial⟩ trivial) (zb2 φ) Tryz.func41 (by kernel_rfl) (zvp φ) (zvm φ)
def z7e (φ:Nat):H TV (RTup TT [.val 0,.val 0]):=(.seq .x (.seq (.ins 4 94 (.seq .x (.seq .x (.seq (.seq .x (.body (.loop ⟨[(77,[(2,.ptr 0 0),(4,.ptr 1 0),(19,.own 2),(20,.val 0),(21,.val 0)]),(30,[(1,.val 0),(2,.val 0),(3,.ptr 3 0)])],[.box 25 [.val 11],.box 186 [.own 4,.raw (.map none)],.row 3 0,.box 25 [.val 11],.row 62 5]⟩ (fun n z=>zx φ n z.1 z.2.1 z.2.2.1 z.2.2.2.1 z.2.2.2.2.1 z.2.2.2.2.2.1 z.2.2.2.2.2.2.1 z.2.2.2.2.2.2.2.1) (fun zk13=>.x)))) (.seq .x (.seq .x (.seq (.seq .x (.body (.loop ⟨[(77,[(4,.ptr 0 0),(8,.func 126 [.ptr 0 0,.ptr 1 0]),(44,.val 10),(45,.val 0),(46,.val 0)]),(30,[(1,.val 0),(2,.val 0),(3,.ptr 2 0)])],[.box 186 [.own 3,.own 4],.box 25 [.val 11],.box 25 [.val 11],.nst 62 3 5 none,.map 41 0]⟩ (fun n z=>zr φ n z.1 z.2.1 z.2.2.1 z.2.2.2.1 z.2.2.2.2.1 z.2.2.2.2.2.1 z.2.2.2.2.2.2.1 z.2.2.2.2.2.2.2.1 z.2.2.2.2.2.2.2.2.1) (fun zk23=>(.seq .x (.seq .x (.seq (.body (.seq .x (.seq (.ins 6 126 (.seq .x (.seq .x (.seq (.join ⟨[(56,[(2,.val 0),(3,.ptr 0 0),(4,.ptr 1 0),(8,.ptr 2 0),(9,.val 0),(10,.val 2)]),(77,[(4,.ptr 0 0),(8,.func 126 [.ptr 0 0,.ptr 1 0]),(9,.val 0),(10,.ptr 3 0),(44,.val 10),(45,.val 0),(46,.val 0)]),(30,[(1,.val 0),(2,.val 0),(3,.ptr 4 0)])],[.box 186 [.own 5,.own 6],.box 25 [.val 11],.box 210 [.val 41],.box 112 [.val 9],.box 25 [.val 11],.nst 62 3 5 none,.map 41 0]⟩ (fun z=>z3s φ (fun a0 a1 a2 a3 a4 a5 a6 a7 a8=>zk23 (a0,a1,a2,a3,a4,a5,a6,a7,a8,())) z.1 z.2.1 z.2.2.1 z.2.2.2.1 z.2.2.2.2.1 z.2.2.2.2.2.1 z.2.2.2.2.2.2.1 z.2.2.2.2.2.2.2.1 z.2.2.2.2.2.2.2.2.1 z.2.2.2.2.2.2.2.2.2.1 z.2.2.2.2.2.2.2.2.2.2.1 z.2.2.2.2.2.2.2.2.2.2.2.1 z.2.2.2.2.2.2.2.2.2.2.2.2.1 z.2.2.2.2.2.2.2.2.2.2.2.2.2.1 z.2.2.2.2.2.2.2.2.2.2.2.2.2.2.1) (.seq .x (.cond (.foc (3,some 0) (0,none) .x) .x))) .x))) .x) (.ins 6 126 (.seq .x (.seq .x (.seq (.join ⟨[(56,[(2,.val 0),(3,.ptr 0 0),(4,.ptr 1 0),(8,.ptr 2 0),(9,.val 0),(10,.val 2)]),(77,[(4,.ptr 0 0),(8,.func 126 [.ptr 0 0,.ptr 1 0]),(44,.val 10),(45,.val 0),(46,.val 0)]),(30,[(1,.val 0),(2,.val 0),(3,.ptr 3 0)])],[.box 186 [.own 4,.own 5],.box 25 [.val 11],.box 210 [.val 41],.box 25 [.val 11],.nst 62 3 5 none,.map 41 0]⟩ (fun z=>z3m φ (fun a0 a1 a2 a3 a4 a5 a6 a7 a8=>zk23 (a0,a1,a2,a3,a4,a5,a6,a7,a8,())) z.1 z.2.1 z.2.2.1 z.2.2.2.1 z.2.2.2.2.1 z.2.2.2.2.2.1 z.2.2.2.2.2.2.1 z.2.2.2.2.2.2.2.1 z.2.2.2.2.2.2.2.2.1 z.2.2.2.2.2.2.2.2.2.1 z.2.2.2.2.2.2.2.2.2.2.1 z.2.2.2.2.2.2.2.2.2.2.2.1 z.2.2.2.2.2.2.2.2.2.2.2.2.1) (.seq .x (.cond (.foc (3,some 0) (0,none) .x) .x))) .x))) .x)))) .x))))))) (.seq (.seq .x (.body (.loop ⟨[(77,[(4,.ptr 0 0),(67,.own 1),(68,.val 0),(69,.val 0)]),(30,[(1,.val 0),(2,.val 0),(3,.ptr 2 0)])],[.box 186 [.own 1,.own 3],.nst 62 3 5 none,.box 25 [.val 11],.map 41 0]⟩ (fun n z=>z1g φ n z.1 z.2.1 z.2.2.1 z.2.2.2.1 z.2.2.2.2.1 z.2.2.2.2.2.1 z.2.2.2.2.2.2.1) (fun zk75=>(.seq .x (.seq .x (.seq (.body (.seq (.foc (67,none) (69,none) .x) .x)) .x))))))) .x))))))) .x) (.seq .x (.seq (.seq (.ins 3 95 (.seq .x (.seq .x (.seq .x (.seq (.seq .x (.body (.loop ⟨[(118,[(2,.val 0),(3,.ptr 0 0),(4,.ptr 1 0),(7,.own 2),(8,.own 3),(23,.val 0),(24,.val 0)]),(30,[(2,.val 0)])],[.box 25 [.val 11],.box 186 [.own 4,.own 5],.row 3 0,.fix 4 2,.nst 62 3 5 none,.map 41 0]⟩ (fun n z=>z05 φ n z.1 z.2.1 z.2.2.1 z.2.2.2.1 z.2.2.2.2.1 z.2.2.2.2.2.1 z.2.2.2.2.2.2.1 z.2.2.2.2.2.2.2.1 z.2.2.2.2.2.2.2.2.1) (fun zk86=>.x)))) (.seq .x (.body (.loop ⟨[(118,[(3,.ptr 0 0),(4,.ptr 1 0),(7,.own 2),(8,.own 3)]),(30,[(2,.val 0)])],[.box 25 [.val 11],.box 186 [.own 4,.own 5],.row 3 0,.fix 4 2,.nst 62 3 5 none,.map 41 0]⟩ (fun n z=>zw φ n z.1 z.2.1 z.2.2.1 z.2.2.2.1 z.2.2.2.2.1 z.2.2.2.2.2.1) (fun zk93=>(.body (.seq .x (.seq (.seq .x (.body (.loop ⟨[(118,[(3,.ptr 0 0),(4,.ptr 1 0),(7,.own 2),(8,.own 3),(10,.val 0),(35,.val 0),(36,.val 0)]),(30,[(2,.val 0)])],[.box 25 [.val 11],.box 186 [.own 4,.own 5],.row 3 0,.fix 4 2,.nst 62 3 5 none,.map 41 0]⟩ (fun n z=>z11 φ (fun a0 a1 a2 a3 a4 a5=>zk93 (a0,a1,a2,a3,a4,a5,())) n z.1 z.2.1 z.2.2.1 z.2.2.2.1 z.2.2.2.2.1 z.2.2.2.2.2.1 z.2.2.2.2.2.2.1 z.2.2.2.2.2.2.2.1 z.2.2.2.2.2.2.2.2.1) (fun zk103=>.x)))) (.seq .x (.seq .x (.seq (.foc (4,some 0) (10,none) .x) (.body (.loop ⟨[(118,[(3,.ptr 0 0),(4,.ptr 1 0),(7,.own 2),(8,.own 3),(10,.val 0),(78,.own 4),(79,.val 0),(80,.val 0)]),(30,[(2,.val 0)])],[.box 25 [.val 11],.box 186 [.own 5,.own 6],.row 3 0,.fix 4 2,.row 3 0,.nst 62 3 5 (some 4),.map 41 0]⟩ (fun n z=>z12 φ (fun a0 a1 a2 a3 a4 a5=>zk93 (a0,a1,a2,a3,a4,a5,())) n z.1 z.2.1 z.2.2.1 z.2.2.2.1 z.2.2.2.2.1 z.2.2.2.2.2.1 z.2.2.2.2.2.2.1 z.2.2.2.2.2.2.2.1 z.2.2.2.2.2.2.2.2.1 z.2.2.2.2.2.2.2.2.2.1 z.2.2.2.2.2.2.2.2.2.2.1) (fun zk115=>.x))))))))))))))))) .x) .x) .x))))
def za2 (P:Program) (φ:Nat):Env TV:=⟨P,lk [(61,z98 φ)],lk [(127,y2x)],lk []⟩
theorem zqw (φ:Nat) (a) :(zag φ).F a=fnX TV (za2 Tryz.prog φ) φ Tryz.f72 [11,0,0] [.val 0,.val 0] (z7e φ) a:=by kernel_rfl
theorem zpf (φ:Nat):fnO TV (za2 Tryz.prog φ) φ Tryz.f72 [.val 0,.val 0] (z7e φ):=by
 unfold fnO
 show obl _ _ _ _ _ _ _
 unfold z7e
 repeat' (first | exact trivial |(refine⟨?_,?_⟩) |(intro _) | kernel_rfl)
theorem zqd (φ:Nat):zz TV Tryz.prog 72 (zag φ):=
 z01 (N:=za2 Tryz.prog φ) (zh ⟨zk2 φ,trivial⟩ ⟨yfs,trivial⟩ trivial) (z7e φ) Tryz.func72 (by kernel_rfl) (zqw φ) (zpf φ)
def zav (φ:Nat):H TV (RTup TT [.val 0]):=.x
def zgd (P:Program) (φ:Nat):Env TV:=⟨P,lk [(72,zag φ)],lk [],lk []⟩
theorem zv0 (φ:Nat) (a) :(zgn φ).F a=fnX TV (zgd Tryz.prog φ) φ Tryz.f43 [11,3,3] [.val 0] (zav φ) a:=by kernel_rfl
theorem zv5 (φ:Nat):fnO TV (zgd Tryz.prog φ) φ Tryz.f43 [.val 0] (zav φ):=by
 unfold fnO
 show obl _ _ _ _ _ _ _
 unfold zav
 repeat' (first | exact trivial |(refine⟨?_,?_⟩) |(intro _) | kernel_rfl)
theorem zvb (φ:Nat):zz TV Tryz.prog 43 (zgn φ):=
 z01 (N:=zgd Tryz.prog φ) (zh ⟨zqd φ,trivial⟩ trivial trivial) (zav φ) Tryz.func43 (by kernel_rfl) (zv0 φ) (zv5 φ)
end Px
end
section
set_option maxHeartbeats 4000000
set_option maxRecDepth 100000
namespace Px
open Go Go.RowKit Go.Proofs
def zd6 (φ:Nat):H TV (RTup TT [.val 48,.val 0]):=(.seq .x (.seq .x (.seq .x (.seq .x (.seq .x (.seq (.seq .x (.body (.loop ⟨[(257,[(2,.ptr 0 0),(4,.ptr 1 0),(7,.val 40),(8,.ptr 2 0),(9,.own 3),(40,.val 40),(41,.val 0),(42,.val 0)])],[.box 36 [.val 30],.box 68 [.val 0,.own 4,.own 5,.own 6],.box 91 [.val 0,.own 7,.own 8,.own 9],.map 0 0,.row 103 42,.row 73 44,.row 105 46,.row 103 42,.row 73 44,.row 105 46]⟩ (fun n z=>z2p φ n z.1 z.2.1 z.2.2.1 z.2.2.2.1 z.2.2.2.2.1 z.2.2.2.2.2.1 z.2.2.2.2.2.2.1 z.2.2.2.2.2.2.2.1 z.2.2.2.2.2.2.2.2.1 z.2.2.2.2.2.2.2.2.2.1 z.2.2.2.2.2.2.2.2.2.2.1 z.2.2.2.2.2.2.2.2.2.2.2.1 z.2.2.2.2.2.2.2.2.2.2.2.2.1 z.2.2.2.2.2.2.2.2.2.2.2.2.2.1) (fun zk19=>(.seq .x (.seq .x (.seq (.body (.seq .x (.seq .x (.body (.loop ⟨[(257,[(2,.ptr 0 0),(4,.ptr 1 0),(7,.val 40),(8,.ptr 2 0),(9,.own 3),(40,.val 40),(41,.val 0),(42,.val 0),(46,.val 39),(47,.val 0),(48,.val 0)])],[.box 36 [.val 30],.box 68 [.val 0,.own 4,.own 5,.own 6],.box 91 [.val 0,.own 7,.own 8,.own 9],.map 0 0,.row 103 42,.row 73 44,.row 105 46,.row 103 42,.row 73 44,.row 105 46]⟩ (fun n z=>z2k φ (fun a0 a1 a2 a3 a4 a5 a6 a7 a8 a9 a10 a11 a12 a13=>zk19 (a0,a1,a2,a3,a4,a5,a6,a7,a8,a9,a10,a11,a12,a13,())) n z.1 z.2.1 z.2.2.1 z.2.2.2.1 z.2.2.2.2.1 z.2.2.2.2.2.1 z.2.2.2.2.2.2.1 z.2.2.2.2.2.2.2.1 z.2.2.2.2.2.2.2.2.1 z.2.2.2.2.2.2.2.2.2.1 z.2.2.2.2.2.2.2.2.2.2.1 z.2.2.2.2.2.2.2.2.2.2.2.1 z.2.2.2.2.2.2.2.2.2.2.2.2.1 z.2.2.2.2.2.2.2.2.2.2.2.2.2.1 z.2.2.2.2.2.2.2.2.2.2.2.2.2.2.1 z.2.2.2.2.2.2.2.2.2.2.2.2.2.2.2.1 z.2.2.2.2.2.2.2.2.2.2.2.2.2.2.2.2.1) (fun zk37=>.x)))))) .x))))))) (.seq (.seq .x (.body (.loop ⟨[(257,[(2,.ptr 0 0),(4,.ptr 1 0),(7,.val 40),(8,.ptr 2 0),(9,.own 3),(61,.val 22),(62,.val 0),(63,.val 0)])],[.box 36 [.val 30],.box 68 [.val 0,.own 4,.own 5,.own 6],.box 91 [.val 0,.own 7,.own 8,.own 9],.map 0 0,.row 103 42,.row 73 44,.row 105 46,.row 103 42,.row 73 44,.row 105 46]⟩ (fun n z=>z1x φ n z.1 z.2.1 z.2.2.1 z.2.2.2.1 z.2.2.2.2.1 z.2.2.2.2.2.1 z.2.2.2.2.2.2.1 z.2.2.2.2.2.2.2.1 z.2.2.2.2.2.2.2.2.1 z.2.2.2.2.2.2.2.2.2.1 z.2.2.2.2.2.2.2.2.2.2.1 z.2.2.2.2.2.2.2.2.2.2.2.1 z.2.2.2.2.2.2.2.2.2.2.2.2.1 z.2.2.2.2.2.2.2.2.2.2.2.2.2.1) (fun zk52=>(.seq .x (.seq .x (.seq (.body (.seq .x (.seq .x (.seq .x (.cond (.seq .x (.seq (.ins 20 42 (.seq .x (.seq .x (.body (.loop ⟨[(39,[(0,.ptr 0 0),(4,.ptr 1 0),(8,.own 2),(9,.val 0),(10,.val 0)]),(257,[(2,.ptr 3 0),(4,.ptr 4 0),(7,.val 40),(8,.ptr 0 0),(9,.own 5),(61,.val 22),(62,.val 0),(63,.val 0),(82,.ptr 0 0),(83,.val 44),(84,.ptr 0 0),(85,.ptr 0 0),(86,.ptr 0 0),(87,.ptr 0 0),(88,.val 0),(89,.ptr 6 1),(90,.val 0),(91,.val 0),(92,.val 42),(93,.ptr 0 0),(94,.ptr 0 0),(95,.ptr 0 0),(96,.ptr 0 0),(97,.val 0),(98,.ptr 6 2),(99,.val 0),(100,.val 42),(101,.own 2)])],[.box 91 [.val 0,.own 7,.own 8,.own 9],.box 73 [.val 44],.row 103 42,.box 36 [.val 30],.box 68 [.val 0,.own 10,.own 11,.own 12],.map 0 0,.box 99 [.val 21],.row 103 42,.row 73 44,.row 105 46,.row 103 42,.row 73 44,.row 105 46]⟩ (fun n z=>z3r φ (fun a0 a1 a2 a3 a4 a5 a6 a7 a8 a9 a10 a11 a12 a13=>zk52 (a0,a1,a2,a3,a4,a5,a6,a7,a8,a9,a10,a11,a12,a13,())) n z.1 z.2.1 z.2.2.1 z.2.2.2.1 z.2.2.2.2.1 z.2.2.2.2.2.1 z.2.2.2.2.2.2.1 z.2.2.2.2.2.2.2.1 z.2.2.2.2.2.2.2.2.1 z.2.2.2.2.2.2.2.2.2.1 z.2.2.2.2.2.2.2.2.2.2.1 z.2.2.2.2.2.2.2.2.2.2.2.1 z.2.2.2.2.2.2.2.2.2.2.2.2.1 z.2.2.2.2.2.2.2.2.2.2.2.2.2.1 z.2.2.2.2.2.2.2.2.2.2.2.2.2.2.1 z.2.2.2.2.2.2.2.2.2.2.2.2.2.2.2.1 z.2.2.2.2.2.2.2.2.2.2.2.2.2.2.2.2.1 z.2.2.2.2.2.2.2.2.2.2.2.2.2.2.2.2.2.1 z.2.2.2.2.2.2.2.2.2.2.2.2.2.2.2.2.2.2.1 z.2.2.2.2.2.2.2.2.2.2.2.2.2.2.2.2.2.2.2.1 z.2.2.2.2.2.2.2.2.2.2.2.2.2.2.2.2.2.2.2.2.1 z.2.2.2.2.2.2.2.2.2.2.2.2.2.2.2.2.2.2.2.2.2.1 z.2.2.2.2.2.2.2.2.2.2.2.2.2.2.2.2.2.2.2.2.2.2.1 z.2.2.2.2.2.2.2.2.2.2.2.2.2.2.2.2.2.2.2.2.2.2.2.1 z.2.2.2.2.2.2.2.2.2.2.2.2.2.2.2.2.2.2.2.2.2.2.2.2.1 z.2.2.2.2.2.2.2.2.2.2.2.2.2.2.2.2.2.2.2.2.2.2.2.2.2.1 z.2.2.2.2.2.2.2.2.2.2.2.2.2.2.2.2.2.2.2.2.2.2.2.2.2.2.1) (fun zk80=>.x))))) .x) .x)) .x))))) .x))))))) (.seq (.seq .x (.body (.loop ⟨[(257,[(2,.ptr 0 0),(4,.ptr 1 0),(8,.ptr 2 0),(9,.own 3),(113,.val 40),(114,.val 0),(115,.val 0)])],[.box 36 [.val 30],.box 68 [.val 0,.own 4,.own 5,.own 6],.box 91 [.val 0,.own 7,.own 8,.own 9],.map 0 0,.row 103 42,.row 73 44,.row 105 46,.row 103 42,.row 73 44,.row 105 46]⟩ (fun n z=>z2o φ n z.1 z.2.1 z.2.2.1 z.2.2.2.1 z.2.2.2.2.1 z.2.2.2.2.2.1 z.2.2.2.2.2.2.1 z.2.2.2.2.2.2.2.1 z.2.2.2.2.2.2.2.2.1 z.2.2.2.2.2.2.2.2.2.1 z.2.2.2.2.2.2.2.2.2.2.1 z.2.2.2.2.2.2.2.2.2.2.2.1 z.2.2.2.2.2.2.2.2.2.2.2.2.1) (fun zk94=>(.seq .x (.seq .x (.seq (.body (.seq .x (.seq .x (.body (.loop ⟨[(257,[(2,.ptr 0 0),(4,.ptr 1 0),(8,.ptr 2 0),(9,.own 3),(19,.val 39),(113,.val 40),(114,.val 0),(115,.val 0),(119,.val 39),(120,.val 0),(121,.val 0)])],[.box 36 [.val 30],.box 68 [.val 0,.own 4,.own 5,.own 6],.box 91 [.val 0,.own 7,.own 8,.own 9],.map 0 0,.row 103 42,.row 73 44,.row 105 46,.row 103 42,.row 73 44,.row 105 46]⟩ (fun n z=>z0l φ (fun a0 a1 a2 a3 a4 a5 a6 a7 a8 a9 a10 a11 a12=>zk94 (a0,a1,a2,a3,a4,a5,a6,a7,a8,a9,a10,a11,a12,())) n z.1 z.2.1 z.2.2.1 z.2.2.2.1 z.2.2.2.2.1 z.2.2.2.2.2.1 z.2.2.2.2.2.2.1 z.2.2.2.2.2.2.2.1 z.2.2.2.2.2.2.2.2.1 z.2.2.2.2.2.2.2.2.2.1 z.2.2.2.2.2.2.2.2.2.2.1 z.2.2.2.2.2.2.2.2.2.2.2.1 z.2.2.2.2.2.2.2.2.2.2.2.2.1 z.2.2.2.2.2.2.2.2.2.2.2.2.2.1 z.2.2.2.2.2.2.2.2.2.2.2.2.2.2.1 z.2.2.2.2.2.2.2.2.2.2.2.2.2.2.2.1 z.2.2.2.2.2.2.2.2.2.2.2.2.2.2.2.2.1) (fun zk112=>(.seq .x (.seq .x (.seq (.body (.seq .x (.seq .x (.seq .x (.seq .x (.seq (.join ⟨[(257,[(2,.ptr 0 0),(4,.ptr 1 0),(8,.ptr 2 0),(9,.own 3),(19,.val 39),(20,.val 0),(21,.ptr 4 0),(22,.val 0),(113,.val 40),(114,.val 0),(115,.val 0),(119,.val 39),(120,.val 0),(121,.val 0)])],[.box 36 [.val 30],.box 68 [.val 0,.own 5,.own 6,.own 7],.box 91 [.val 0,.own 8,.own 9,.own 10],.map 0 0,.box 97 [.val 4],.row 103 42,.row 73 44,.row 105 46,.row 103 42,.row 73 44,.row 105 46]⟩ (fun z=>z1a φ (fun a0 a1 a2 a3 a4 a5 a6 a7 a8 a9 a10 a11 a12 a13 a14 a15 a16=>zk112 (a0,a1,a2,a3,a4,a5,a6,a7,a8,a9,a10,a11,a12,a13,a14,a15,a16,())) z.1 z.2.1 z.2.2.1 z.2.2.2.1 z.2.2.2.2.1 z.2.2.2.2.2.1 z.2.2.2.2.2.2.1 z.2.2.2.2.2.2.2.1 z.2.2.2.2.2.2.2.2.1 z.2.2.2.2.2.2.2.2.2.1 z.2.2.2.2.2.2.2.2.2.2.1 z.2.2.2.2.2.2.2.2.2.2.2.1 z.2.2.2.2.2.2.2.2.2.2.2.2.1 z.2.2.2.2.2.2.2.2.2.2.2.2.2.1 z.2.2.2.2.2.2.2.2.2.2.2.2.2.2.1 z.2.2.2.2.2.2.2.2.2.2.2.2.2.2.2.1 z.2.2.2.2.2.2.2.2.2.2.2.2.2.2.2.2.1 z.2.2.2.2.2.2.2.2.2.2.2.2.2.2.2.2.2.1 z.2.2.2.2.2.2.2.2.2.2.2.2.2.2.2.2.2.2.1 z.2.2.2.2.2.2.2.2.2.2.2.2.2.2.2.2.2.2.2.1) (.seq .x (.cond (.ins 10 42 (.seq .x (.seq .x (.body (.loop ⟨[(39,[(0,.ptr 0 0),(4,.ptr 1 0),(8,.own 2),(9,.val 0),(10,.val 0)]),(257,[(2,.ptr 3 0),(4,.ptr 4 0),(8,.ptr 0 0),(9,.own 5),(19,.val 39),(20,.val 0),(21,.ptr 6 0),(22,.val 0),(113,.val 40),(114,.val 0),(115,.val 0),(119,.val 39),(120,.val 0),(121,.val 0)])],[.box 91 [.val 0,.own 7,.own 8,.own 9],.box 73 [.val 44],.row 103 42,.box 36 [.val 30],.box 68 [.val 0,.own 10,.own 11,.own 12],.map 0 0,.box 97 [.val 4],.row 103 42,.row 73 44,.row 105 46,.row 103 42,.row 73 44,.row 105 46]⟩ (fun n z=>z36 φ (fun a0 a1 a2 a3 a4 a5 a6 a7 a8 a9 a10 a11 a12 a13 a14 a15 a16=>zk112 (a0,a1,a2,a3,a4,a5,a6,a7,a8,a9,a10,a11,a12,a13,a14,a15,a16,())) n z.1 z.2.1 z.2.2.1 z.2.2.2.1 z.2.2.2.2.1 z.2.2.2.2.2.1 z.2.2.2.2.2.2.1 z.2.2.2.2.2.2.2.1 z.2.2.2.2.2.2.2.2.1 z.2.2.2.2.2.2.2.2.2.1 z.2.2.2.2.2.2.2.2.2.2.1 z.2.2.2.2.2.2.2.2.2.2.2.1 z.2.2.2.2.2.2.2.2.2.2.2.2.1 z.2.2.2.2.2.2.2.2.2.2.2.2.2.1 z.2.2.2.2.2.2.2.2.2.2.2.2.2.2.1 z.2.2.2.2.2.2.2.2.2.2.2.2.2.2.2.1 z.2.2.2.2.2.2.2.2.2.2.2.2.2.2.2.2.1 z.2.2.2.2.2.2.2.2.2.2.2.2.2.2.2.2.2.1 z.2.2.2.2.2.2.2.2.2.2.2.2.2.2.2.2.2.2.1 z.2.2.2.2.2.2.2.2.2.2.2.2.2.2.2.2.2.2.2.1 z.2.2.2.2.2.2.2.2.2.2.2.2.2.2.2.2.2.2.2.2.1 z.2.2.2.2.2.2.2.2.2.2.2.2.2.2.2.2.2.2.2.2.2.1 z.2.2.2.2.2.2.2.2.2.2.2.2.2.2.2.2.2.2.2.2.2.2.1 z.2.2.2.2.2.2.2.2.2.2.2.2.2.2.2.2.2.2.2.2.2.2.2.1) (fun zk195=>.x))))) .x) (.seq .x (.ins 16 42 (.seq .x (.seq .x (.body (.loop ⟨[(39,[(0,.ptr 0 0),(4,.ptr 1 0),(8,.own 2),(9,.val 0),(10,.val 0)]),(257,[(2,.ptr 3 0),(4,.ptr 4 0),(8,.ptr 0 0),(9,.own 5),(19,.val 39),(20,.val 0),(21,.ptr 6 0),(22,.val 0),(113,.val 40),(114,.val 0),(115,.val 0),(119,.val 39),(120,.val 0),(121,.val 0)])],[.box 91 [.val 0,.own 7,.own 8,.own 9],.box 73 [.val 44],.row 103 42,.box 36 [.val 30],.box 68 [.val 0,.own 10,.own 11,.own 12],.map 0 0,.box 97 [.val 4],.row 103 42,.row 73 44,.row 105 46,.row 103 42,.row 73 44,.row 105 46]⟩ (fun n z=>z38 φ (fun a0 a1 a2 a3 a4 a5 a6 a7 a8 a9 a10 a11 a12 a13 a14 a15 a16=>zk112 (a0,a1,a2,a3,a4,a5,a6,a7,a8,a9,a10,a11,a12,a13,a14,a15,a16,())) n z.1 z.2.1 z.2.2.1 z.2.2.2.1 z.2.2.2.2.1 z.2.2.2.2.2.1 z.2.2.2.2.2.2.1 z.2.2.2.2.2.2.2.1 z.2.2.2.2.2.2.2.2.1 z.2.2.2.2.2.2.2.2.2.1 z.2.2.2.2.2.2.2.2.2.2.1 z.2.2.2.2.2.2.2.2.2.2.2.1 z.2.2.2.2.2.2.2.2.2.2.2.2.1 z.2.2.2.2.2.2.2.2.2.2.2.2.2.1 z.2.2.2.2.2.2.2.2.2.2.2.2.2.2.1 z.2.2.2.2.2.2.2.2.2.2.2.2.2.2.2.1 z.2.2.2.2.2.2.2.2.2.2.2.2.2.2.2.2.1 z.2.2.2.2.2.2.2.2.2.2.2.2.2.2.2.2.2.1 z.2.2.2.2.2.2.2.2.2.2.2.2.2.2.2.2.2.2.1 z.2.2.2.2.2.2.2.2.2.2.2.2.2.2.2.2.2.2.2.1 z.2.2.2.2.2.2.2.2.2.2.2.2.2.2.2.2.2.2.2.2.1 z.2.2.2.2.2.2.2.2.2.2.2.2.2.2.2.2.2.2.2.2.2.1 z.2.2.2.2.2.2.2.2.2.2.2.2.2.2.2.2.2.2.2.2.2.2.1 z.2.2.2.2.2.2.2.2.2.2.2.2.2.2.2.2.2.2.2.2.2.2.2.1) (fun zk220=>.x))))) .x))))) (.seq .x (.cond (.seq .x (.ins 19 42 (.seq .x (.seq .x (.body (.loop ⟨[(39,[(0,.ptr 0 0),(4,.ptr 1 0),(8,.own 2),(9,.val 0),(10,.val 0)]),(257,[(2,.ptr 3 0),(4,.ptr 4 0),(8,.ptr 0 0),(9,.own 5),(19,.val 39),(113,.val 40),(114,.val 0),(115,.val 0),(119,.val 39),(120,.val 0),(121,.val 0),(215,.ptr 0 0),(216,.ptr 6 2),(217,.val 1),(218,.ptr 7 0),(219,.ptr 7 2),(220,.val 1),(221,.val 44),(222,.val 0),(223,.val 0),(224,.val 0),(225,.ptr 3 0),(226,.val 11),(227,.val 3),(228,.ptr 7 0),(229,.val 3),(230,.val 0),(231,.val 0),(232,.val 42),(233,.own 2)])],[.box 91 [.val 0,.own 8,.own 9,.own 10],.box 73 [.val 44],.row 103 42,.box 36 [.val 30],.box 68 [.val 0,.own 11,.own 12,.own 13],.map 0 0,.box 95 [.val 3],.box 97 [.val 4],.row 103 42,.row 73 44,.row 105 46,.row 103 42,.row 73 44,.row 105 46]⟩ (fun n z=>z30 φ (fun a0 a1 a2 a3 a4 a5 a6 a7 a8 a9 a10 a11 a12 a13 a14 a15 a16=>zk112 (a0,a1,a2,a3,a4,a5,a6,a7,a8,a9,a10,a11,a12,a13,a14,a15,a16,())) n z.1 z.2.1 z.2.2.1 z.2.2.2.1 z.2.2.2.2.1 z.2.2.2.2.2.1 z.2.2.2.2.2.2.1 z.2.2.2.2.2.2.2.1 z.2.2.2.2.2.2.2.2.1 z.2.2.2.2.2.2.2.2.2.1 z.2.2.2.2.2.2.2.2.2.2.1 z.2.2.2.2.2.2.2.2.2.2.2.1 z.2.2.2.2.2.2.2.2.2.2.2.2.1 z.2.2.2.2.2.2.2.2.2.2.2.2.2.1 z.2.2.2.2.2.2.2.2.2.2.2.2.2.2.1 z.2.2.2.2.2.2.2.2.2.2.2.2.2.2.2.1 z.2.2.2.2.2.2.2.2.2.2.2.2.2.2.2.2.1 z.2.2.2.2.2.2.2.2.2.2.2.2.2.2.2.2.2.1 z.2.2.2.2.2.2.2.2.2.2.2.2.2.2.2.2.2.2.1 z.2.2.2.2.2.2.2.2.2.2.2.2.2.2.2.2.2.2.2.1 z.2.2.2.2.2.2.2.2.2.2.2.2.2.2.2.2.2.2.2.2.1 z.2.2.2.2.2.2.2.2.2.2.2.2.2.2.2.2.2.2.2.2.2.1 z.2.2.2.2.2.2.2.2.2.2.2.2.2.2.2.2.2.2.2.2.2.2.1 z.2.2.2.2.2.2.2.2.2.2.2.2.2.2.2.2.2.2.2.2.2.2.2.1 z.2.2.2.2.2.2.2.2.2.2.2.2.2.2.2.2.2.2.2.2.2.2.2.2.1 z.2.2.2.2.2.2.2.2.2.2.2.2.2.2.2.2.2.2.2.2.2.2.2.2.2.1 z.2.2.2.2.2.2.2.2.2.2.2.2.2.2.2.2.2.2.2.2.2.2.2.2.2.2.1 z.2.2.2.2.2.2.2.2.2.2.2.2.2.2.2.2.2.2.2.2.2.2.2.2.2.2.2.1 z.2.2.2.2.2.2.2.2.2.2.2.2.2.2.2.2.2.2.2.2.2.2.2.2.2.2.2.2.1 z.2.2.2.2.2.2.2.2.2.2.2.2.2.2.2.2.2.2.2.2.2.2.2.2.2.2.2.2.2.1 z.2.2.2.2.2.2.2.2.2.2.2.2.2.2.2.2.2.2.2.2.2.2.2.2.2.2.2.2.2.2.1 z.2.2.2.2.2.2.2.2.2.2.2.2.2.2.2.2.2.2.2.2.2.2.2.2.2.2.2.2.2.2.2.1 z.2.2.2.2.2.2.2.2.2.2.2.2.2.2.2.2.2.2.2.2.2.2.2.2.2.2.2.2.2.2.2.2.1 z.2.2.2.2.2.2.2.2.2.2.2.2.2.2.2.2.2.2.2.2.2.2.2.2.2.2.2.2.2.2.2.2.2.1 z.2.2.2.2.2.2.2.2.2.2.2.2.2.2.2.2.2.2.2.2.2.2.2.2.2.2.2.2.2.2.2.2.2.2.1) (fun zk170=>.x))))) .x)) .x)))))))) .x))))))))) .x))))))) .x))))))))
def zif (P:Program) (φ:Nat):Env TV:=⟨P,lk [(40,z73 φ),(41,zgk φ),(43,zgn φ)],lk [],lk []⟩
theorem zy8 (φ:Nat) (a) :(zip φ).F a=fnX TV (zif Tryz.prog φ) φ Tryz.f24 [30,38] [.val 48,.val 0] (zd6 φ) a:=by kernel_rfl
theorem y0j (φ:Nat):fnO TV (zif Tryz.prog φ) φ Tryz.f24 [.val 48,.val 0] (zd6 φ):=by
 unfold fnO
 show obl _ _ _ _ _ _ _
 unfold zd6
 repeat' (first | exact trivial |(refine⟨?_,?_⟩) |(intro _) | kernel_rfl)
theorem zza (φ:Nat):zz TV Tryz.prog 24 (zip φ):=
 z01 (N:=zif Tryz.prog φ) (zh ⟨zgr φ,zvn φ,zvb φ,trivial⟩ trivial trivial) (zd6 φ) Tryz.func24 (by kernel_rfl) (zy8 φ) (y0j φ)
def zf8 (φ:Nat):H TV (RTup TT [.val 0]):=(.seq .x (.seq .x (.seq .x (.seq (.seq .x (.body (.loop ⟨[(48,[(0,.val 0),(16,.val 43),(17,.val 0),(18,.val 0)])],[]⟩ (fun n z=>z7a φ n z.1 z.2.1 z.2.2.1 z.2.2.2.1) (fun zk7=>.x)))) .x))))
def zjs (P:Program) (φ:Nat):Env TV:=⟨P,lk [],lk [],lk []⟩
theorem y3a (φ:Nat) (a) :(zl2 φ).F a=fnX TV (zjs Tryz.prog φ) φ Tryz.f44 [0,43] [.val 0] (zf8 φ) a:=by kernel_rfl
theorem y46 (φ:Nat):fnO TV (zjs Tryz.prog φ) φ Tryz.f44 [.val 0] (zf8 φ):=by
 unfold fnO
 show obl _ _ _ _ _ _ _
 unfold zf8
 repeat' (first | exact trivial |(refine⟨?_,?_⟩) |(intro _) | kernel_rfl)
theorem y4m (φ:Nat):zz TV Tryz.prog 44 (zl2 φ):=
 z01 (N:=zjs Tryz.prog φ) (zh trivial trivial trivial) (zf8 φ) Tryz.func44 (by kernel_rfl) (y3a φ) (y46 φ)
def zfa (φ:Nat):H TV (RTup TT [.val 50,.val 50]):=.x
def zkc (P:Program) (φ:Nat):Env TV:=⟨P,lk [],lk [],lk []⟩
theorem y4f (φ:Nat) (a) :(zkt φ).F a=fnX TV (zkc Tryz.prog φ) φ Tryz.f128 [50,50] [.val 50,.val 50] (zfa φ) a:=by kernel_rfl
theorem y3q (φ:Nat):fnO TV (zkc Tryz.prog φ) φ Tryz.f128 [.val 50,.val 50] (zfa φ):=by
 unfold fnO
 show obl _ _ _ _ _ _ _
 unfold zfa
 repeat' (first | exact trivial |(refine⟨?_,?_⟩) |(intro _) | kernel_rfl)
theorem y1n (φ:Nat):zz TV Tryz.prog 128 (zkt φ):=
 z01 (N:=zkc Tryz.prog φ) (zh trivial trivial trivial) (zfa φ) Tryz.func128 (by kernel_rfl) (y4f φ) (y3q φ)
def zll (φ:Nat):H TV (RTup TT [.val 6,.val 6]):=.x
def zpk (P:Program) (φ:Nat):Env TV:=⟨P,lk [(128,zkt φ),(129,zfc φ)],lk [],lk []⟩
theorem ya4 (φ:Nat) (a) :(zqv φ).F a=fnX TV (zpk Tryz.prog φ) φ Tryz.f96 [6,6] [.val 6,.val 6] (zll φ) a:=by kernel_rfl
theorem ya8 (φ:Nat):fnO TV (zpk Tryz.prog φ) φ Tryz.f96 [.val 6,.val 6] (zll φ):=by
 unfold fnO
 show obl _ _ _ _ _ _ _
 unfold zll
 repeat' (first | exact trivial |(refine⟨?_,?_⟩) |(intro _) | kernel_rfl)
theorem yad (φ:Nat):zz TV Tryz.prog 96 (zqv φ):=
 z01 (N:=zpk Tryz.prog φ) (zh ⟨y1n φ,zr8 φ,trivial⟩ trivial trivial) (zll φ) Tryz.func96 (by kernel_rfl) (ya4 φ) (ya8 φ)
def z9i (φ:Nat):H TV (RTup TT [.row 3 0]):=(.seq .x (.seq .x (.seq .x (.seq .x (.seq .x (.seq .x (.seq (.body (.loop ⟨[(48,[(7,.own 0),(8,.val 0)])],[.row 3 0]⟩ (fun n z=>z5u φ n z.1 z.2.1) (fun zk6=>.x))) .x)))))))
def zev (P:Program) (φ:Nat):Env TV:=⟨P,lk [(96,zqv φ)],lk [],lk []⟩
theorem zst (φ:Nat) (a) :(ze1 φ).F a=fnX TV (zev Tryz.prog φ) φ Tryz.f73 [5,0] [.row 3 0] (z9i φ) a:=by kernel_rfl
theorem zu4 (φ:Nat):fnO TV (zev Tryz.prog φ) φ Tryz.f73 [.row 3 0] (z9i φ):=by
 unfold fnO
 show obl _ _ _ _ _ _ _
 unfold z9i
 repeat' (first | exact trivial |(refine⟨?_,?_⟩) |(intro _) | kernel_rfl)
theorem zuq (φ:Nat):zz TV Tryz.prog 73 (ze1 φ):=
 z01 (N:=zev Tryz.prog φ) (zh ⟨yad φ,trivial⟩ trivial trivial) (z9i φ) Tryz.func73 (by kernel_rfl) (zst φ) (zu4 φ)
theorem zoc (φ:Nat) (k24 :((List zb)->Int->Int->Int->(List zb)->Int->Int->(List Int)->(List Int)->Option ((List Int)×(List Int)×Int×Unit))) (x25:Int) (x26:Int) (x27 :(List zb)) (x28:Int) (x29:Int) (x30:Int) (x31:Int) (x32 :(List zb)) (x33:Int) (x34:Int) (x35:zb) (x36 :(List Int)) (x37 :(List Int)):z06 (z6o φ k24 x25 x26 x27 x28 x29 x30 x31 x32 x33 x34 x35 x36 x37) (zbz φ k24 x25 x26 x27 x28 x29 x30 x31 x32 x33 x34 x35 x36 x37):=by
 unfold z6o zbz
 repeat' (first | exact z06.one | exact z06.nil | refine z06.cons ?_ ?_ | refine z06.ck ?_ | exact z06.same (n:=2) rfl | exact z06.same (n:=3) rfl | exact z06.same (n:=4) rfl | exact z06.same (n:=6) rfl | refine z06.bind fun _=>?_)
theorem zp1 (φ:Nat) (x39:Int) (x40 :(List Int)) (x41 :(List Int)):z06 (zen φ x39 x40 x41) (zjb φ x39 x40 x41):=by
 unfold zen zjb
 repeat' (first | exact z06.one | exact z06.nil | refine z06.cons ?_ ?_ | refine z06.ck ?_ | exact z06.same (n:=2) rfl | exact z06.same (n:=3) rfl | exact z06.same (n:=4) rfl | exact z06.same (n:=6) rfl | refine z06.bind fun _=>?_)
theorem zoo (φ:Nat) (x43:Int) (x44 :(List Int)) (x45 :(List Int)):z06 (z8u φ x43 x44 x45) (zc3 φ x43 x44 x45):=by
 unfold z8u zc3
 repeat' (first | exact z06.one | exact z06.nil | refine z06.cons ?_ ?_ | refine z06.ck ?_ | exact z06.same (n:=2) rfl | exact z06.same (n:=3) rfl | exact z06.same (n:=4) rfl | exact z06.same (n:=6) rfl | refine z06.bind fun _=>?_)
theorem zoy (φ:Nat) (x47:Int) (x48 :(List zb)) (x49 :(List Int)) (x50 :(List Int)):z06 (z6u φ x47 x48 x49 x50) (zbx φ x47 x48 x49 x50):=by
 unfold z6u zbx
 constructor
 intro r h
 obtain⟨hp,h⟩:=zjr h
 obtain⟨y,hy,hk⟩:=bind_some h
 exact⟨[some r,some r,some r],by simp [z7 hp,hy,catL,cat2]; exact hk,by simp⟩
def zci (φ:Nat):H TV (RTup TT [.val 5,.val 5,.val 0]):=(.seq .x (.seq (.join ⟨[(19,[(0,.val 0),(1,.val 43),(4,.ptr 0 0),(5,.ptr 1 0)])],[.box 62 [.own 2],.box 62 [.own 3],.row 3 0,.row 3 0]⟩ (fun z=>z69 φ z.1 z.2.1 z.2.2.1 z.2.2.2.1) (.alt ⟨[(19,[(0,.val 0),(1,.val 43),(4,.ptr 0 0),(5,.ptr 1 0)])],[.box 62 [.own 2],.box 62 [.own 3],.row 3 0,.row 3 0]⟩ (fun z=>z6u φ z.1 z.2.1 z.2.2.1 z.2.2.2.1) (fun z=>zbx φ z.1 z.2.1 z.2.2.1 z.2.2.2.1))) (.seq (.ins 3 74 (.seq .x (.body (.seq .x (.seq .x (.seq (.seq .x (.body (.loop ⟨[(30,[(1,.val 43),(2,.func 75 [.ptr 0 0,.ptr 1 0]),(7,.val 0),(10,.val 0),(11,.val 0)]),(19,[(4,.ptr 0 0),(5,.ptr 1 0)])],[.box 62 [.own 2],.box 62 [.own 3],.row 3 0,.row 3 0]⟩ (fun n z=>z56 φ n z.1 z.2.1 z.2.2.1 z.2.2.2.1 z.2.2.2.2.1 z.2.2.2.2.2.1) (fun zk14=>(.seq .x (.seq .x (.seq (.body (.seq .x (.seq (.seq .x (.body (.loop ⟨[(30,[(1,.val 43),(2,.func 75 [.ptr 0 0,.ptr 1 0]),(7,.val 0),(10,.val 0),(11,.val 0),(13,.val 43),(14,.val 0),(15,.val 0)]),(19,[(4,.ptr 0 0),(5,.ptr 1 0)])],[.box 62 [.own 2],.box 62 [.own 3],.row 3 0,.row 3 0]⟩ (fun n z=>z2n φ (fun a0 a1 a2 a3 a4 a5=>zk14 (a0,a1,a2,a3,a4,a5,())) n z.1 z.2.1 z.2.2.1 z.2.2.2.1 z.2.2.2.2.1 z.2.2.2.2.2.1 z.2.2.2.2.2.2.1 z.2.2.2.2.2.2.2.1 z.2.2.2.2.2.2.2.2.1) (fun zk24=>(.seq .x (.seq .x (.seq (.body (.seq .x (.seq (.ins 3 75 (.seq .x (.seq (.seq .x (.seq .x (.cond (.seq (.alt ⟨[(33,[(0,.val 0),(2,.ptr 0 0),(3,.ptr 1 0),(5,.ptr 2 0),(7,.val 0)]),(30,[(1,.val 43),(2,.func 75 [.ptr 0 0,.ptr 1 0]),(7,.val 0),(8,.val 0),(10,.val 0),(11,.val 0),(13,.val 43),(14,.val 0),(15,.val 0)]),(19,[(4,.ptr 0 0),(5,.ptr 1 0)])],[.box 62 [.own 3],.box 62 [.own 4],.box 103 [.val 42],.row 3 0,.row 3 0]⟩ (fun z=>z6o φ (fun a0 a1 a2 a3 a4 a5 a6 a7 a8=>zk24 (a0,a1,a2,a3,a4,a5,a6,a7,a8,())) z.1 z.2.1 z.2.2.1 z.2.2.2.1 z.2.2.2.2.1 z.2.2.2.2.2.1 z.2.2.2.2.2.2.1 z.2.2.2.2.2.2.2.1 z.2.2.2.2.2.2.2.2.1 z.2.2.2.2.2.2.2.2.2.1 z.2.2.2.2.2.2.2.2.2.2.1 z.2.2.2.2.2.2.2.2.2.2.2.1 z.2.2.2.2.2.2.2.2.2.2.2.2.1) (fun z=>zbz φ (fun a0 a1 a2 a3 a4 a5 a6 a7 a8=>zk24 (a0,a1,a2,a3,a4,a5,a6,a7,a8,())) z.1 z.2.1 z.2.2.1 z.2.2.2.1 z.2.2.2.2.1 z.2.2.2.2.2.1 z.2.2.2.2.2.2.1 z.2.2.2.2.2.2.2.1 z.2.2.2.2.2.2.2.2.1 z.2.2.2.2.2.2.2.2.2.1 z.2.2.2.2.2.2.2.2.2.2.1 z.2.2.2.2.2.2.2.2.2.2.2.1 z.2.2.2.2.2.2.2.2.2.2.2.2.1)) .x) .x))) .x)) .x) .x))) .x))))))) .x))) .x))))))) .x))))) .x) (.seq (.alt ⟨[(19,[(4,.ptr 0 0),(5,.ptr 1 0),(6,.val 0)])],[.box 62 [.own 2],.box 62 [.own 3],.row 3 0,.row 3 0]⟩ (fun z=>z8u φ z.1 z.2.1 z.2.2.1) (fun z=>zc3 φ z.1 z.2.1 z.2.2.1)) .x))))
def zhj (P:Program) (φ:Nat):Env TV:=⟨P,lk [(73,ze1 φ)],lk [],lk []⟩
theorem zz8 (φ:Nat) (a) :(zib φ).F a=fnX TV (zhj Tryz.prog φ) φ Tryz.f45 [0,43] [.val 5,.val 5,.val 0] (zci φ) a:=by kernel_rfl
theorem y0e (φ:Nat):fnO TV (zhj Tryz.prog φ) φ Tryz.f45 [.val 5,.val 5,.val 0] (zci φ):=by
 unfold fnO
 show obl _ _ _ _ _ _ _
 unfold zci
 repeat' (first | exact trivial |(refine⟨?_,?_⟩) |(intro _) | kernel_rfl | exact zoc .. | exact zp1 .. | exact zoo .. | exact zoy ..)
theorem zyq (φ:Nat):zz TV Tryz.prog 45 (zib φ):=
 z01 (N:=zhj Tryz.prog φ) (zh ⟨zuq φ,trivial⟩ trivial trivial) (zci φ) Tryz.func45 (by kernel_rfl) (zz8 φ) (y0e φ)
def zfe (φ:Nat):H TV (RTup TT [.val 5,.val 0]):=.x
def zkm (P:Program) (φ:Nat):Env TV:=⟨P,lk [(44,zl2 φ),(45,zib φ)],lk [],lk []⟩
theorem y4j (φ:Nat) (a) :(zkr φ).F a=fnX TV (zkm Tryz.prog φ) φ Tryz.f25 [0,43] [.val 5,.val 0] (zfe φ) a:=by kernel_rfl
theorem y3z (φ:Nat):fnO TV (zkm Tryz.prog φ) φ Tryz.f25 [.val 5,.val 0] (zfe φ):=by
 unfold fnO
 show obl _ _ _ _ _ _ _
 unfold zfe
 repeat' (first | exact trivial |(refine⟨?_,?_⟩) |(intro _) | kernel_rfl)
theorem y1q (φ:Nat):zz TV Tryz.prog 25 (zkr φ):=
 z01 (N:=zkm Tryz.prog φ) (zh ⟨y4m φ,zyq φ,trivial⟩ trivial trivial) (zfe φ) Tryz.func25 (by kernel_rfl) (y4j φ) (y3z φ)
def z49 (φ:Nat):H TV (RTup TT [.val 2,.val 0]):=.x
def z6p (P:Program) (φ:Nat):Env TV:=⟨P,lk [(24,zip φ),(25,zkr φ)],lk [],lk []⟩
theorem zlb (φ:Nat) (a) :(z0t φ).F a=fnX TV (z6p Tryz.prog φ) φ Tryz.f12 [30,38] [.val 2,.val 0] (z49 φ) a:=by kernel_rfl
theorem zkq (φ:Nat):fnO TV (z6p Tryz.prog φ) φ Tryz.f12 [.val 2,.val 0] (z49 φ):=by
 unfold fnO
 show obl _ _ _ _ _ _ _
 unfold z49
 repeat' (first | exact trivial |(refine⟨?_,?_⟩) |(intro _) | kernel_rfl)
theorem z2l (φ:Nat):zz TV Tryz.prog 12 (z0t φ):=
 z01 (N:=z6p Tryz.prog φ) (zh ⟨zza φ,y1q φ,trivial⟩ trivial trivial) (z49 φ) Tryz.func12 (by kernel_rfl) (zlb φ) (zkq φ)
def z3u (φ:Nat):H TV (RTup TT [.val 38]):=(.seq .x (.seq (.seq .x (.body (.loop ⟨[(21,[(1,.rom 0 2),(2,.own 0),(5,.val 38),(6,.val 0),(7,.val 0)])],[.row 61 35]⟩ (fun n z=>z0j φ n z.1 z.2.1 z.2.2.1 z.2.2.2.1 z.2.2.2.2.1) (fun zk8=>.x)))) .x))
def z6d (P:Program) (φ:Nat):Env TV:=⟨P,lk [],lk [],lk []⟩
theorem zjj (φ:Nat) (a b) :(z6g φ).F a b=fnXc TV (z6d Tryz.prog φ) φ Tryz.f55 [] [.b (.val 38),.b (.map 0 2)] [.val 38] (z3u φ) a b:=by kernel_rfl
theorem zjf (φ:Nat):fnO TV (z6d Tryz.prog φ) φ Tryz.f55 [.val 38] (z3u φ):=by
 unfold fnO
 show obl _ _ _ _ _ _ _
 unfold z3u
 repeat' (first | exact trivial |(refine⟨?_,?_⟩) |(intro _) | kernel_rfl)
theorem zjk (φ:Nat):y68 TV Tryz.prog 55 (z6g φ):=
 y8j (N:=z6d Tryz.prog φ) (zh trivial trivial trivial) (z3u φ) Tryz.func55 (by kernel_rfl) (zjj φ) (zjf φ)
def z3v (φ:Nat):H TV (RTup TT [.val 2]):=.x
def z6f (P:Program) (φ:Nat):Env TV:=⟨P,lk [(12,z0t φ)],lk [],lk [(55,z6g φ)]⟩
theorem zjm (φ:Nat) (a b) :(z3w φ).F a b=fnXc TV (z6f Tryz.prog φ) φ Tryz.f56 [] [.b (.val 30),.fn 55 [.val 38,.map 0 2]] [.val 2] (z3v φ) a b:=by kernel_rfl
theorem zjg (φ:Nat):fnO TV (z6f Tryz.prog φ) φ Tryz.f56 [.val 2] (z3v φ):=by
 unfold fnO
 show obl _ _ _ _ _ _ _
 unfold z3v
 repeat' (first | exact trivial |(refine⟨?_,?_⟩) |(intro _) | kernel_rfl)
theorem z9x (φ:Nat):y68 TV Tryz.prog 56 (z3w φ):=
 y8j (N:=z6f Tryz.prog φ) (zh ⟨z2l φ,trivial⟩ trivial ⟨zjk φ,trivial⟩) (z3v φ) Tryz.func56 (by kernel_rfl) (zjm φ) (zjg φ)
theorem zmg (φ:Nat) (x38 :(List z8)) (x39:Pool) (x40 :(List Ref)) (x41 :(List (Int×Bool))) (x42 :(List z8)):z06 (z5e φ x38 x39 x40 x41 x42) (z8s φ x38 x39 x40 x41 x42):=by
 unfold z5e z8s
 repeat' (first | exact z06.one | exact z06.nil | refine z06.cons ?_ ?_ | refine z06.ck ?_ | exact z06.same (n:=2) rfl | exact z06.same (n:=3) rfl | exact z06.same (n:=4) rfl | exact z06.same (n:=6) rfl | refine z06.bind fun _=>?_)
def z94 (φ:Nat):H TV (RTup TT [.val 51,.val 0]):=(.seq .x (.seq .x (.seq (.ins 2 33 (.seq .x (.seq .x (.seq .x (.seq .x (.seq (.join ⟨[(13,[(4,.ptr 0 0),(5,.func 56 [.ptr 1 0,.ptr 2 0]),(6,.ptr 2 0)]),(68,[(1,.val 38),(4,.own 3)])],[.box 78 [.own 4],.box 36 [.val 30],.box 79 [.func 55 [.ptr 5 0,.ptr 0 0]],.row 56 1,.map 0 2,.box 37 [.val 38]]⟩ (fun z=>z5t φ z.1 z.2.1 z.2.2.1 z.2.2.2.1 z.2.2.2.2.1) (.alt ⟨[(13,[(4,.ptr 0 0),(5,.func 56 [.ptr 1 0,.ptr 2 0]),(6,.ptr 2 0)]),(68,[(1,.val 38),(4,.own 3)])],[.box 78 [.own 4],.box 36 [.val 30],.box 79 [.func 55 [.ptr 5 0,.ptr 0 0]],.row 56 1,.map 0 2,.box 37 [.val 38]]⟩ (fun z=>z5e φ z.1 z.2.1 z.2.2.1 z.2.2.2.1 z.2.2.2.2.1) (fun z=>z8s φ z.1 z.2.1 z.2.2.1 z.2.2.2.1 z.2.2.2.2.1))) .x))))) .x) (.seq (.seq .x (.body (.loop ⟨[(68,[(1,.val 38),(4,.own 0),(8,.own 1),(9,.func 56 [.ptr 2 0,.ptr 3 0]),(10,.func 55 [.ptr 4 0,.ptr 5 0]),(35,.val 0),(36,.val 0)])],[.row 56 1,.map 0 2,.box 36 [.val 30],.box 79 [.func 55 [.ptr 4 0,.ptr 5 0]],.box 37 [.val 38],.box 78 [.own 1]]⟩ (fun n z=>z2e φ n z.1 z.2.1 z.2.2.1 z.2.2.2.1 z.2.2.2.2.1 z.2.2.2.2.2.1 z.2.2.2.2.2.2.1) (fun zk17=>.x)))) (.seq (.seq .x (.body (.loop ⟨[(68,[(4,.own 0),(8,.own 1),(9,.func 56 [.ptr 2 0,.ptr 3 0]),(10,.func 55 [.ptr 4 0,.ptr 5 0]),(43,.val 0),(44,.val 0)])],[.row 56 1,.map 0 2,.box 36 [.val 30],.box 79 [.func 55 [.ptr 4 0,.ptr 5 0]],.box 37 [.val 38],.box 78 [.own 1]]⟩ (fun n z=>z1i φ n z.1 z.2.1 z.2.2.1 z.2.2.2.1 z.2.2.2.2.1 z.2.2.2.2.2.1) (fun zk24=>.x)))) (.seq (.seq (.ins 1 55 (.seq .x (.seq (.seq .x (.body (.loop ⟨[(21,[(1,.ptr 0 0),(2,.own 1),(5,.val 38),(6,.val 0),(7,.val 0)]),(68,[(4,.own 2)])],[.box 78 [.own 3],.row 61 35,.row 56 1,.map 0 2]⟩ (fun n z=>z1l φ n z.1 z.2.1 z.2.2.1 z.2.2.2.1 z.2.2.2.2.1 z.2.2.2.2.2.1) (fun zk32=>.x)))) .x)) .x) (.body (.loop ⟨[(68,[(4,.own 0),(55,.own 1),(56,.val 0),(57,.val 0)])],[.row 56 1,.row 61 35]⟩ (fun n z=>z2b φ n z.1 z.2.1 z.2.2.1 z.2.2.2.1) (fun zk37=>.x)))) .x))))))
def ze8 (P:Program) (φ:Nat):Env TV:=⟨P,lk [(12,z0t φ)],lk [],lk [(56,z3w φ)]⟩
theorem zus (φ:Nat) (a) :(z9a φ).F a=fnX TV (ze8 Tryz.prog φ) φ Tryz.f14 [30,38] [.val 51,.val 0] (z94 φ) a:=by kernel_rfl
theorem zsi (φ:Nat):fnO TV (ze8 Tryz.prog φ) φ Tryz.f14 [.val 51,.val 0] (z94 φ):=by
 unfold fnO
 show obl _ _ _ _ _ _ _
 unfold z94
 repeat' (first | exact trivial |(refine⟨?_,?_⟩) |(intro _) | kernel_rfl | exact zmg ..)
theorem zkg (φ:Nat):zz TV Tryz.prog 14 (z9a φ):=
 z01 (N:=ze8 Tryz.prog φ) (zh ⟨z2l φ,trivial⟩ trivial ⟨z9x φ,trivial⟩) (z94 φ) Tryz.func14 (by kernel_rfl) (zus φ) (zsi φ)
theorem zji (φ:Nat) (x11:Int) (x12:Int) (x13 :(List z8)):z06 (z3l φ x11 x12 x13) (z7p φ x11 x12 x13):=by
 unfold z3l z7p
 repeat' (first | exact z06.one | exact z06.nil | refine z06.cons ?_ ?_ | refine z06.ck ?_ | exact z06.same (n:=2) rfl | exact z06.same (n:=3) rfl | exact z06.same (n:=4) rfl | exact z06.same (n:=6) rfl | refine z06.bind fun _=>?_)
def z7k (φ:Nat):H TV (RTup TT [.val 0]):=(.seq .x (.seq (.join ⟨[(37,[(6,.ptr 0 0),(7,.ptr 1 0)])],[.box 61 [.val 35],.box 61 [.val 35]]⟩ (fun z=>z44 φ z.1 z.2.1) (.alt ⟨[(37,[(0,.val 0),(1,.val 0),(2,.rop 38)])],[]⟩ (fun z=>z3l φ z.1 z.2.1 z.2.2.1) (fun z=>z7p φ z.1 z.2.1 z.2.2.1))) .x))
def zao (P:Program) (φ:Nat):Env TV:=⟨P,lk [(37,zcj φ),(36,zry φ)],lk [],lk []⟩
theorem zqa (φ:Nat) (a b) :(zaf φ).F a b=fnXc TV (zao Tryz.prog φ) φ Tryz.f35 [0,0] [.b (.val 38)] [.val 0] (z7k φ) a b:=by kernel_rfl
theorem zps (φ:Nat):fnO TV (zao Tryz.prog φ) φ Tryz.f35 [.val 0] (z7k φ):=by
 unfold fnO
 show obl _ _ _ _ _ _ _
 unfold z7k
 repeat' (first | exact trivial |(refine⟨?_,?_⟩) |(intro _) | kernel_rfl | exact zji ..)
theorem zpy (φ:Nat):y68 TV Tryz.prog 35 (zaf φ):=
 y8j (N:=zao Tryz.prog φ) (zh ⟨zoe φ,y9i φ,trivial⟩ trivial trivial) (z7k φ) Tryz.func35 (by kernel_rfl) (zqa φ) (zps φ)
theorem zmk (φ:Nat) (x93:Pool) (x94 :(List Int)) (x95 :(List (Int×Bool))) (x96 :(List z8)):z06 (z5d φ x93 x94 x95 x96) (z8h φ x93 x94 x95 x96):=by
 unfold z5d z8h
 repeat' (first | exact z06.one | exact z06.nil | refine z06.cons ?_ ?_ | refine z06.ck ?_ | exact z06.same (n:=2) rfl | exact z06.same (n:=3) rfl | exact z06.same (n:=4) rfl | exact z06.same (n:=6) rfl | refine z06.bind fun _=>?_)
def z9d (φ:Nat):H TV (RTup TT [.val 38,.val 0]):=(.seq .x (.seq .x (.seq .x (.seq .x (.seq .x (.seq (.seq .x (.body (.loop ⟨[(64,[(2,.ptr 0 0),(3,.ptr 1 0),(7,.own 2),(29,.val 0),(30,.val 0)])],[.box 36 [.val 30],.box 37 [.val 38],.row 3 0]⟩ (fun n z=>z34 φ n z.1 z.2.1 z.2.2.1 z.2.2.2.1 z.2.2.2.2.1) (fun zk9=>.x)))) (.seq (.ins 2 34 (.ins 4 57 (.seq .x (.seq .x (.seq (.body (.loop ⟨[(63,[(0,.own 0),(1,.val 0),(2,.func 35 [.ptr 1 0]),(6,.val 0),(7,.val 0),(8,.val 0)]),(9,[]),(64,[(2,.ptr 2 0),(3,.ptr 1 0),(7,.own 0)])],[.row 3 0,.box 37 [.val 38],.box 36 [.val 30]]⟩ (fun n z=>z57 φ n z.1 z.2.1 z.2.2.1 z.2.2.2.1 z.2.2.2.2.1 z.2.2.2.2.2.1 z.2.2.2.2.2.2.1) (fun zk17=>(.seq .x (.body (.seq (.ins 4 83 (.seq .x (.body (.loop ⟨[(53,[(0,.own 0),(1,.val 0),(2,.val 0),(3,.func 35 [.ptr 1 0]),(8,.val 0)]),(63,[(0,.own 0),(1,.val 0),(2,.func 35 [.ptr 1 0]),(6,.val 0),(8,.val 0)]),(9,[]),(64,[(2,.ptr 2 0),(3,.ptr 1 0),(7,.own 0)])],[.row 3 0,.box 37 [.val 38],.box 36 [.val 30]]⟩ (fun n z=>zaq φ (fun a0 a1 a2 a3 a4 a5 a6=>zk17 (a0,a1,a2,a3,a4,a5,a6,())) n z.1 z.2.1 z.2.2.1 z.2.2.2.1 z.2.2.2.2.1 z.2.2.2.2.2.1 z.2.2.2.2.2.2.1 z.2.2.2.2.2.2.2.1 z.2.2.2.2.2.2.2.2.1) (fun zk27=>(.seq .x (.seq (.body (.seq .x (.body (.loop ⟨[(53,[(0,.own 0),(1,.val 0),(2,.val 0),(3,.func 35 [.ptr 1 0]),(8,.val 0),(9,.val 0)]),(63,[(0,.own 0),(1,.val 0),(2,.func 35 [.ptr 1 0]),(6,.val 0),(8,.val 0)]),(9,[]),(64,[(2,.ptr 2 0),(3,.ptr 1 0),(7,.own 0)])],[.row 3 0,.box 37 [.val 38],.box 36 [.val 30]]⟩ (fun n z=>za1 φ (fun a0 a1 a2 a3 a4 a5 a6 a7 a8=>zk27 (a0,a1,a2,a3,a4,a5,a6,a7,a8,())) n z.1 z.2.1 z.2.2.1 z.2.2.2.1 z.2.2.2.2.1 z.2.2.2.2.2.1 z.2.2.2.2.2.2.1 z.2.2.2.2.2.2.2.1 z.2.2.2.2.2.2.2.2.1 z.2.2.2.2.2.2.2.2.2.1) (fun zk38=>.x))))) .x)))))) .x) .x)))))) (.seq (.ins 4 83 (.seq .x (.body (.loop ⟨[(53,[(0,.own 0),(1,.val 0),(2,.val 0),(3,.func 35 [.ptr 1 0]),(8,.val 0)]),(63,[(0,.own 0),(1,.val 0),(2,.func 35 [.ptr 1 0]),(6,.val 0)]),(9,[]),(64,[(2,.ptr 2 0),(3,.ptr 1 0),(7,.own 0)])],[.row 3 0,.box 37 [.val 38],.box 36 [.val 30]]⟩ (fun n z=>z1j φ n z.1 z.2.1 z.2.2.1 z.2.2.2.1 z.2.2.2.2.1 z.2.2.2.2.2.1 z.2.2.2.2.2.2.1 z.2.2.2.2.2.2.2.1) (fun zk48=>(.seq .x (.seq (.body (.seq .x (.body (.loop ⟨[(53,[(0,.own 0),(1,.val 0),(2,.val 0),(3,.func 35 [.ptr 1 0]),(8,.val 0),(9,.val 0)]),(63,[(0,.own 0),(1,.val 0),(2,.func 35 [.ptr 1 0]),(6,.val 0)]),(9,[]),(64,[(2,.ptr 2 0),(3,.ptr 1 0),(7,.own 0)])],[.row 3 0,.box 37 [.val 38],.box 36 [.val 30]]⟩ (fun n z=>z3h φ (fun a0 a1 a2 a3 a4 a5 a6 a7=>zk48 (a0,a1,a2,a3,a4,a5,a6,a7,())) n z.1 z.2.1 z.2.2.1 z.2.2.2.1 z.2.2.2.2.1 z.2.2.2.2.2.1 z.2.2.2.2.2.2.1 z.2.2.2.2.2.2.2.1 z.2.2.2.2.2.2.2.2.1) (fun zk58=>.x))))) .x)))))) .x) (.body (.loop ⟨[(63,[(0,.own 0),(1,.val 0),(2,.func 35 [.ptr 1 0]),(6,.val 0)]),(9,[]),(64,[(2,.ptr 2 0),(3,.ptr 1 0),(7,.own 0)])],[.row 3 0,.box 37 [.val 38],.box 36 [.val 30]]⟩ (fun n z=>z59 φ n z.1 z.2.1 z.2.2.1 z.2.2.2.1 z.2.2.2.2.1) (fun zk65=>(.seq .x (.body (.seq .x (.seq (.body (.loop ⟨[(63,[(0,.own 0),(1,.val 0),(2,.func 35 [.ptr 1 0]),(6,.val 0),(7,.val 0),(8,.val 0)]),(9,[]),(64,[(2,.ptr 2 0),(3,.ptr 1 0),(7,.own 0)])],[.row 3 0,.box 37 [.val 38],.box 36 [.val 30]]⟩ (fun n z=>zgt φ (fun a0 a1 a2 a3 a4=>zk65 (a0,a1,a2,a3,a4,())) n z.1 z.2.1 z.2.2.1 z.2.2.2.1 z.2.2.2.2.1 z.2.2.2.2.2.1 z.2.2.2.2.2.2.1) (fun zk73=>(.seq .x (.body (.seq (.ins 7 84 .no .x) .x)))))) (.seq (.seq .x (.seq .x (.cond (.ins 5 84 .no .x) .x))) .x)))))))))))) .x) .x) (.seq (.ins 2 33 (.seq .x (.seq .x (.seq .x (.seq .x (.seq (.join ⟨[(13,[(4,.ptr 0 0),(5,.func 56 [.ptr 1 0,.ptr 2 0]),(6,.ptr 2 0)]),(64,[(7,.own 3)])],[.box 78 [.own 4],.box 36 [.val 30],.box 79 [.func 55 [.ptr 5 0,.ptr 0 0]],.row 3 0,.map 0 2,.box 37 [.val 38]]⟩ (fun z=>z58 φ z.1 z.2.1 z.2.2.1 z.2.2.2.1) (.alt ⟨[(13,[(4,.ptr 0 0),(5,.func 56 [.ptr 1 0,.ptr 2 0]),(6,.ptr 2 0)]),(64,[(7,.own 3)])],[.box 78 [.own 4],.box 36 [.val 30],.box 79 [.func 55 [.ptr 5 0,.ptr 0 0]],.row 3 0,.map 0 2,.box 37 [.val 38]]⟩ (fun z=>z5d φ z.1 z.2.1 z.2.2.1 z.2.2.2.1) (fun z=>z8h φ z.1 z.2.1 z.2.2.1 z.2.2.2.1))) .x))))) .x) (.seq (.seq .x (.body (.loop ⟨[(64,[(9,.own 0),(10,.func 56 [.ptr 1 0,.ptr 2 0]),(11,.func 55 [.ptr 3 0,.ptr 4 0]),(48,.own 5),(49,.val 0),(50,.val 0)])],[.map 0 2,.box 36 [.val 30],.box 79 [.func 55 [.ptr 3 0,.ptr 4 0]],.box 37 [.val 38],.box 78 [.own 0],.row 3 0]⟩ (fun n z=>z1n φ n z.1 z.2.1 z.2.2.1 z.2.2.2.1 z.2.2.2.2.1 z.2.2.2.2.2.1) (fun zk85=>.x)))) (.seq (.ins 1 55 (.seq .x (.seq (.seq .x (.body (.loop ⟨[(21,[(1,.ptr 0 0),(2,.own 1),(5,.val 38),(6,.val 0),(7,.val 0)]),(64,[])],[.box 78 [.own 2],.row 61 35,.map 0 2]⟩ (fun n z=>z1k φ n z.1 z.2.1 z.2.2.1 z.2.2.2.1 z.2.2.2.2.1) (fun zk92=>.x)))) .x)) .x) .x))))))))))
def zex (P:Program) (φ:Nat):Env TV:=⟨P,lk [(12,z0t φ)],lk [],lk [(35,zaf φ),(56,z3w φ)]⟩
theorem ztx (φ:Nat) (a) :(z9e φ).F a=fnX TV (zex Tryz.prog φ) φ Tryz.f16 [30,38] [.val 38,.val 0] (z9d φ) a:=by kernel_rfl
theorem zt9 (φ:Nat):fnO TV (zex Tryz.prog φ) φ Tryz.f16 [.val 38,.val 0] (z9d φ):=by
 unfold fnO
 show obl _ _ _ _ _ _ _
 unfold z9d
 repeat' (first | exact trivial |(refine⟨?_,?_⟩) |(intro _) | kernel_rfl | exact zmk ..)
theorem zl8 (φ:Nat):zz TV Tryz.prog 16 (z9e φ):=
 z01 (N:=zex Tryz.prog φ) (zh ⟨z2l φ,trivial⟩ trivial ⟨zpy φ,z9x φ,trivial⟩) (z9d φ) Tryz.func16 (by kernel_rfl) (ztx φ) (zt9 φ)
def z86 (φ:Nat):H TV (RTup TT [.val 2]):=(.seq .x (.seq .x (.seq (.seq .x (.body (.loop ⟨[(26,[(0,.val 51),(1,.val 51),(5,.val 0)])],[]⟩ (fun n z=>z3i φ n z.1 z.2.1 z.2.2.1) (fun zk6=>.x)))) .x)))
def zbw (P:Program) (φ:Nat):Env TV:=⟨P,lk [],lk [],lk []⟩
theorem zro (φ:Nat) (a) :(z87 φ).F a=fnX TV (zbw Tryz.prog φ) φ Tryz.f18 [51,51] [.val 2] (z86 φ) a:=by kernel_rfl
theorem zrc (φ:Nat):fnO TV (zbw Tryz.prog φ) φ Tryz.f18 [.val 2] (z86 φ):=by
 unfold fnO
 show obl _ _ _ _ _ _ _
 unfold z86
 repeat' (first | exact trivial |(refine⟨?_,?_⟩) |(intro _) | kernel_rfl)
theorem zj9 (φ:Nat):zz TV Tryz.prog 18 (z87 φ):=
 z01 (N:=zbw Tryz.prog φ) (zh trivial trivial trivial) (z86 φ) Tryz.func18 (by kernel_rfl) (zro φ) (zrc φ)
def zdb (φ:Nat):H TV (RTup TT [.val 0]):=.x
def zix (P:Program) (φ:Nat):Env TV:=⟨P,lk [],lk [],lk []⟩
theorem zxo (φ:Nat) (a) :(zd9 φ).F a=fnX TV (zix Tryz.prog φ) φ Tryz.f85 [34,52] [.val 0] (zdb φ) a:=by kernel_rfl
theorem zzb (φ:Nat):fnO TV (zix Tryz.prog φ) φ Tryz.f85 [.val 0] (zdb φ):=by
 unfold fnO
 show obl _ _ _ _ _ _ _
 unfold zdb
 repeat' (first | exact trivial |(refine⟨?_,?_⟩) |(intro _) | kernel_rfl)
theorem znu (φ:Nat):zz TV Tryz.prog 85 (zd9 φ):=
 z01 (N:=zix Tryz.prog φ) (zh trivial trivial trivial) (zdb φ) Tryz.func85 (by kernel_rfl) (zxo φ) (zzb φ)
def z75 (φ:Nat):H TV (RTup TT [.val 2]):=(.seq .x (.seq .x (.seq (.seq .x (.body (.loop ⟨[(26,[(0,.val 33),(1,.val 33),(5,.val 0)])],[]⟩ (fun n z=>z2w φ n z.1 z.2.1 z.2.2.1) (fun zk6=>.x)))) .x)))
def za9 (P:Program) (φ:Nat):Env TV:=⟨P,lk [],lk [],lk []⟩
theorem zq3 (φ:Nat) (a) :(za5 φ).F a=fnX TV (za9 Tryz.prog φ) φ Tryz.f86 [33,33] [.val 2] (z75 φ) a:=by kernel_rfl
theorem zpe (φ:Nat):fnO TV (za9 Tryz.prog φ) φ Tryz.f86 [.val 2] (z75 φ):=by
 unfold fnO
 show obl _ _ _ _ _ _ _
 unfold z75
 repeat' (first | exact trivial |(refine⟨?_,?_⟩) |(intro _) | kernel_rfl)
theorem zpa (φ:Nat):zz TV Tryz.prog 86 (za5 φ):=
 z01 (N:=za9 Tryz.prog φ) (zh trivial trivial trivial) (z75 φ) Tryz.func86 (by kernel_rfl) (zq3 φ) (zpe φ)
def zff (φ:Nat):H TV (RTup TT [.val 2]):=(.seq .x (.seq (.seq .x (.body (.loop ⟨[(45,[(2,.ptr 0 0),(3,.ptr 1 0),(5,.val 0)])],[.box 59 [.val 34],.box 59 [.val 34]]⟩ (fun n z=>z7f φ n z.1 z.2.1 z.2.2.1) (fun zk6=>.x)))) .x))
def zka (P:Program) (φ:Nat):Env TV:=⟨P,lk [(85,zd9 φ),(86,za5 φ)],lk [],lk []⟩
theorem y1y (φ:Nat) (a) :(zjq φ).F a=fnX TV (zka Tryz.prog φ) φ Tryz.f59 [34,34] [.val 2] (zff φ) a:=by kernel_rfl
theorem y3d (φ:Nat):fnO TV (zka Tryz.prog φ) φ Tryz.f59 [.val 2] (zff φ):=by
 unfold fnO
 show obl _ _ _ _ _ _ _
 unfold zff
 repeat' (first | exact trivial |(refine⟨?_,?_⟩) |(intro _) | kernel_rfl)
theorem y1i (φ:Nat):zz TV Tryz.prog 59 (zjq φ):=
 z01 (N:=zka Tryz.prog φ) (zh ⟨znu φ,zpa φ,trivial⟩ trivial trivial) (zff φ) Tryz.func59 (by kernel_rfl) (y1y φ) (y3d φ)
def z5o (φ:Nat):H TV (RTup TT [.val 2]):=(.seq .x (.seq .x (.seq (.seq .x (.body (.loop ⟨[(68,[(0,.val 38),(1,.val 38),(5,.val 0)])],[]⟩ (fun n z=>z1y φ n z.1 z.2.1 z.2.2.1) (fun zk6=>.x)))) .x)))
def z8a (P:Program) (φ:Nat):Env TV:=⟨P,lk [(59,zjq φ)],lk [],lk []⟩
theorem zne (φ:Nat) (a) :(z89 φ).F a=fnX TV (z8a Tryz.prog φ) φ Tryz.f38 [38,38] [.val 2] (z5o φ) a:=by kernel_rfl
theorem zng (φ:Nat):fnO TV (z8a Tryz.prog φ) φ Tryz.f38 [.val 2] (z5o φ):=by
 unfold fnO
 show obl _ _ _ _ _ _ _
 unfold z5o
 repeat' (first | exact trivial |(refine⟨?_,?_⟩) |(intro _) | kernel_rfl)
theorem zn9 (φ:Nat):zz TV Tryz.prog 38 (z89 φ):=
 z01 (N:=z8a Tryz.prog φ) (zh ⟨y1i φ,trivial⟩ trivial trivial) (z5o φ) Tryz.func38 (by kernel_rfl) (zne φ) (zng φ)
def zfo (φ:Nat):H TV (RTup TT [.val 2]):=.x
def zjv (P:Program) (φ:Nat):Env TV:=⟨P,lk [(38,z89 φ)],lk [],lk []⟩
theorem y1h (φ:Nat) (a) :(zfv φ).F a=fnX TV (zjv Tryz.prog φ) φ Tryz.f19 [38,38] [.val 2] (zfo φ) a:=by kernel_rfl
theorem y2j (φ:Nat):fnO TV (zjv Tryz.prog φ) φ Tryz.f19 [.val 2] (zfo φ):=by
 unfold fnO
 show obl _ _ _ _ _ _ _
 unfold zfo
 repeat' (first | exact trivial |(refine⟨?_,?_⟩) |(intro _) | kernel_rfl)
theorem zr9 (φ:Nat):zz TV Tryz.prog 19 (zfv φ):=
 z01 (N:=zjv Tryz.prog φ) (zh ⟨zn9 φ,trivial⟩ trivial trivial) (zfo φ) Tryz.func19 (by kernel_rfl) (y1h φ) (y2j φ)
def zfk (φ:Nat):H TV (RTup TT [.val 2]):=.x
def zjz (P:Program) (φ:Nat):Env TV:=⟨P,lk [(27,zdn φ),(28,zgl φ),(12,z0t φ),(14,z9a φ),(16,z9e φ),(18,z87 φ),(19,zfv φ)],lk [],lk []⟩
theorem y2d (φ:Nat) (a) :(zkd φ).F a=fnX TV (zjz Tryz.prog φ) φ Tryz.f10 [] [.val 2] (zfk φ) a:=by kernel_rfl
theorem y1w (φ:Nat):fnO TV (zjz Tryz.prog φ) φ Tryz.f10 [.val 2] (zfk φ):=by
 unfold fnO
 show obl _ _ _ _ _ _ _
 unfold zfk
 repeat' (first | exact trivial |(refine⟨?_,?_⟩) |(intro _) | kernel_rfl)
theorem y3p (φ:Nat):zz TV Tryz.prog 10 (zkd φ):=
 z01 (N:=zjz Tryz.prog φ) (zh ⟨ztk φ,zvt φ,z2l φ,zkg φ,zl8 φ,zj9 φ,zr9 φ,trivial⟩ trivial trivial) (zfk φ) Tryz.func10 (by kernel_rfl) (y2d φ) (y1w φ)
def z74 (φ:Nat):H TV (RTup TT [.val 2]):=(.seq .x (.seq .x (.seq (.seq .x (.body (.loop ⟨[(65,[(1,.ptr 0 0),(3,.val 0)])],[.box 36 [.val 30]]⟩ (fun n z=>z1w φ n z.1 z.2.1) (fun zk4=>.x)))) .x)))
def za8 (P:Program) (φ:Nat):Env TV:=⟨P,lk [],lk [],lk []⟩
theorem zq4 (φ:Nat) (a) :(zak φ).F a=fnX TV (za8 Tryz.prog φ) φ Tryz.f29 [30] [.val 2] (z74 φ) a:=by kernel_rfl
theorem zqo (φ:Nat):fnO TV (za8 Tryz.prog φ) φ Tryz.f29 [.val 2] (z74 φ):=by
 unfold fnO
 show obl _ _ _ _ _ _ _
 unfold z74
 repeat' (first | exact trivial |(refine⟨?_,?_⟩) |(intro _) | kernel_rfl)
theorem zqj (φ:Nat):zz TV Tryz.prog 29 (zak φ):=
 z01 (N:=za8 Tryz.prog φ) (zh trivial trivial trivial) (z74 φ) Tryz.func29 (by kernel_rfl) (zq4 φ) (zqo φ)
def z6l (φ:Nat):H TV (RTup TT [.val 2]):=(.seq .x (.seq .x (.seq (.seq .x (.body (.loop ⟨[(34,[(0,.val 38),(5,.val 0)])],[]⟩ (fun n z=>z2a φ n z.1 z.2.1) (fun zk5=>.x)))) .x)))
def z8n (P:Program) (φ:Nat):Env TV:=⟨P,lk [],lk [],lk []⟩
theorem znx (φ:Nat) (a) :(z8q φ).F a=fnX TV (z8n Tryz.prog φ) φ Tryz.f30 [38,0] [.val 2] (z6l φ) a:=by kernel_rfl
theorem zp9 (φ:Nat):fnO TV (z8n Tryz.prog φ) φ Tryz.f30 [.val 2] (z6l φ):=by
 unfold fnO
 show obl _ _ _ _ _ _ _
 unfold z6l
 repeat' (first | exact trivial |(refine⟨?_,?_⟩) |(intro _) | kernel_rfl)
theorem zo7 (φ:Nat):zz TV Tryz.prog 30 (z8q φ):=
 z01 (N:=z8n Tryz.prog φ) (zh trivial trivial trivial) (z6l φ) Tryz.func30 (by kernel_rfl) (znx φ) (zp9 φ)
def zhk (φ:Nat):H TV (RTup TT [.val 2]):=.x
def znn (P:Program) (φ:Nat):Env TV:=⟨P,lk [(29,zak φ),(30,z8q φ)],lk [],lk []⟩
theorem y5c (φ:Nat) (a) :(zn5 φ).F a=fnX TV (znn Tryz.prog φ) φ Tryz.f11 [30,38] [.val 2] (zhk φ) a:=by kernel_rfl
theorem y6j (φ:Nat):fnO TV (znn Tryz.prog φ) φ Tryz.f11 [.val 2] (zhk φ):=by
 unfold fnO
 show obl _ _ _ _ _ _ _
 unfold zhk
 repeat' (first | exact trivial |(refine⟨?_,?_⟩) |(intro _) | kernel_rfl)
theorem y6u (φ:Nat):zz TV Tryz.prog 11 (zn5 φ):=
 z01 (N:=znn Tryz.prog φ) (zh ⟨zqj φ,zo7 φ,trivial⟩ trivial trivial) (zhk φ) Tryz.func11 (by kernel_rfl) (y5c φ) (y6j φ)
def z8k (φ:Nat):H TV (RTup TT [.val 2]):=.x
def zek (P:Program) (φ:Nat):Env TV:=⟨P,lk [],lk [],lk []⟩
theorem zsd (φ:Nat) (a) :(z6n φ).F a=fnX TV (zek Tryz.prog φ) φ Tryz.f155 [0,0,0] [.val 2] (z8k φ) a:=by kernel_rfl
theorem ztv (φ:Nat):fnO TV (zek Tryz.prog φ) φ Tryz.f155 [.val 2] (z8k φ):=by
 unfold fnO
 show obl _ _ _ _ _ _ _
 unfold z8k
 repeat' (first | exact trivial |(refine⟨?_,?_⟩) |(intro _) | kernel_rfl)
theorem ze4 (φ:Nat):zz TV Tryz.prog 155 (z6n φ):=
 z01 (N:=zek Tryz.prog φ) (zh trivial trivial trivial) (z8k φ) Tryz.func155 (by kernel_rfl) (zsd φ) (ztv φ)
def zd7 (φ:Nat):H TV (RTup TT [.val 2]):=.x
def zhq (P:Program) (φ:Nat):Env TV:=⟨P,lk [(155,z6n φ)],lk [],lk []⟩
theorem zzq (φ:Nat) (a) :(zhv φ).F a=fnX TV (zhq Tryz.prog φ) φ Tryz.f131 [7] [.val 2] (zd7 φ) a:=by kernel_rfl
theorem zxx (φ:Nat):fnO TV (zhq Tryz.prog φ) φ Tryz.f131 [.val 2] (zd7 φ):=by
 unfold fnO
 show obl _ _ _ _ _ _ _
 unfold zd7
 repeat' (first | exact trivial |(refine⟨?_,?_⟩) |(intro _) | kernel_rfl)
theorem zz7 (φ:Nat):zz TV Tryz.prog 131 (zhv φ):=
 z01 (N:=zhq Tryz.prog φ) (zh ⟨ze4 φ,trivial⟩ trivial trivial) (zd7 φ) Tryz.func131 (by kernel_rfl) (zzq φ) (zxx φ)
def zfw (φ:Nat):H TV (RTup TT [.val 2]):=.x
def zku (P:Program) (φ:Nat):Env TV:=⟨P,lk [(155,z6n φ)],lk [],lk []⟩
theorem y2z (φ:Nat) (a) :(zjo φ).F a=fnX TV (zku Tryz.prog φ) φ Tryz.f132 [9,0] [.val 2] (zfw φ) a:=by kernel_rfl
theorem y2n (φ:Nat):fnO TV (zku Tryz.prog φ) φ Tryz.f132 [.val 2] (zfw φ):=by
 unfold fnO
 show obl _ _ _ _ _ _ _
 unfold zfw
 repeat' (first | exact trivial |(refine⟨?_,?_⟩) |(intro _) | kernel_rfl)
theorem y2l (φ:Nat):zz TV Tryz.prog 132 (zjo φ):=
 z01 (N:=zku Tryz.prog φ) (zh ⟨ze4 φ,trivial⟩ trivial trivial) (zfw φ) Tryz.func132 (by kernel_rfl) (y2z φ) (y2n φ)
def zd8 (φ:Nat):H TV (RTup TT [.val 0]):=(.seq .x (.seq .x (.seq (.seq .x (.body (.loop ⟨[(46,[(1,.ptr 0 0),(3,.val 0)])],[.box 25 [.val 11]]⟩ (fun n z=>z62 φ n z.1 z.2.1) (fun zk4=>.x)))) (.seq (.seq .x (.body (.loop ⟨[(46,[(1,.ptr 0 0),(4,.val 0)])],[.box 25 [.val 11]]⟩ (fun n z=>z4g φ n z.1 z.2.1) (fun zk8=>.x)))) .x))))
def zhx (P:Program) (φ:Nat):Env TV:=⟨P,lk [(131,zhv φ),(132,zjo φ)],lk [],lk []⟩
theorem zzc (φ:Nat) (a) :(zdc φ).F a=fnX TV (zhx Tryz.prog φ) φ Tryz.f98 [11] [.val 0] (zd8 φ) a:=by kernel_rfl
theorem zys (φ:Nat):fnO TV (zhx Tryz.prog φ) φ Tryz.f98 [.val 0] (zd8 φ):=by
 unfold fnO
 show obl _ _ _ _ _ _ _
 unfold zd8
 repeat' (first | exact trivial |(refine⟨?_,?_⟩) |(intro _) | kernel_rfl)
theorem zon (φ:Nat):zz TV Tryz.prog 98 (zdc φ):=
 z01 (N:=zhx Tryz.prog φ) (zh ⟨zz7 φ,y2l φ,trivial⟩ trivial trivial) (zd8 φ) Tryz.func98 (by kernel_rfl) (zzc φ) (zys φ)
def zau (φ:Nat):H TV (RTup TT [.val 2]):=.x
def zgg (P:Program) (φ:Nat):Env TV:=⟨P,lk [],lk [],lk []⟩
theorem zvd (φ:Nat) (a) :(z4h φ).F a=fnX TV (zgg Tryz.prog φ) φ Tryz.f135 [0,0,0] [.val 2] (zau φ) a:=by kernel_rfl
theorem zvs (φ:Nat):fnO TV (zgg Tryz.prog φ) φ Tryz.f135 [.val 2] (zau φ):=by
 unfold fnO
 show obl _ _ _ _ _ _ _
 unfold zau
 repeat' (first | exact trivial |(refine⟨?_,?_⟩) |(intro _) | kernel_rfl)
theorem z7w (φ:Nat):zz TV Tryz.prog 135 (z4h φ):=
 z01 (N:=zgg Tryz.prog φ) (zh trivial trivial trivial) (zau φ) Tryz.func135 (by kernel_rfl) (zvd φ) (zvs φ)
def z7b (φ:Nat):H TV (RTup TT [.val 2]):=.x
def zan (P:Program) (φ:Nat):Env TV:=⟨P,lk [(135,z4h φ)],lk [],lk []⟩
theorem zpb (φ:Nat) (a) :(zam φ).F a=fnX TV (zan Tryz.prog φ) φ Tryz.f133 [12] [.val 2] (z7b φ) a:=by kernel_rfl
theorem zq6 (φ:Nat):fnO TV (zan Tryz.prog φ) φ Tryz.f133 [.val 2] (z7b φ):=by
 unfold fnO
 show obl _ _ _ _ _ _ _
 unfold z7b
 repeat' (first | exact trivial |(refine⟨?_,?_⟩) |(intro _) | kernel_rfl)
theorem zqp (φ:Nat):zz TV Tryz.prog 133 (zam φ):=
 z01 (N:=zan Tryz.prog φ) (zh ⟨z7w φ,trivial⟩ trivial trivial) (z7b φ) Tryz.func133 (by kernel_rfl) (zpb φ) (zq6 φ)
def z6m (φ:Nat):H TV (RTup TT [.val 2]):=.x
def z9m (P:Program) (φ:Nat):Env TV:=⟨P,lk [(135,z4h φ)],lk [],lk []⟩
theorem zo3 (φ:Nat) (a) :(z96 φ).F a=fnX TV (z9m Tryz.prog φ) φ Tryz.f134 [14,0] [.val 2] (z6m φ) a:=by kernel_rfl
theorem zp7 (φ:Nat):fnO TV (z9m Tryz.prog φ) φ Tryz.f134 [.val 2] (z6m φ):=by
 unfold fnO
 show obl _ _ _ _ _ _ _
 unfold z6m
 repeat' (first | exact trivial |(refine⟨?_,?_⟩) |(intro _) | kernel_rfl)
theorem zp2 (φ:Nat):zz TV Tryz.prog 134 (z96 φ):=
 z01 (N:=z9m Tryz.prog φ) (zh ⟨z7w φ,trivial⟩ trivial trivial) (z6m φ) Tryz.func134 (by kernel_rfl) (zo3 φ) (zp7 φ)
def zb6 (φ:Nat):H TV (RTup TT [.val 0]):=(.seq .x (.seq .x (.seq (.seq .x (.body (.loop ⟨[(57,[(0,.val 19),(3,.own 0),(4,.val 0)])],[.fix 4 2]⟩ (fun n z=>z4z φ n z.1 z.2.1 z.2.2.1) (fun zk5=>.x)))) .x)))
def zg4 (P:Program) (φ:Nat):Env TV:=⟨P,lk [(135,z4h φ)],lk [],lk []⟩
theorem zvo (φ:Nat) (a) :(zfy φ).F a=fnX TV (zg4 Tryz.prog φ) φ Tryz.f136 [19] [.val 0] (zb6 φ) a:=by kernel_rfl
theorem zwf (φ:Nat):fnO TV (zg4 Tryz.prog φ) φ Tryz.f136 [.val 0] (zb6 φ):=by
 unfold fnO
 show obl _ _ _ _ _ _ _
 unfold zb6
 repeat' (first | exact trivial |(refine⟨?_,?_⟩) |(intro _) | kernel_rfl)
theorem zvx (φ:Nat):zz TV Tryz.prog 136 (zfy φ):=
 z01 (N:=zg4 Tryz.prog φ) (zh ⟨z7w φ,trivial⟩ trivial trivial) (zb6 φ) Tryz.func136 (by kernel_rfl) (zvo φ) (zwf φ)
def zde (φ:Nat):H TV (RTup TT [.val 0]):=(.seq .x (.seq .x (.seq (.seq .x (.body (.loop ⟨[(106,[(1,.ptr 0 0),(3,.val 0)])],[.box 31 [.val 20]]⟩ (fun n z=>z6b φ n z.1 z.2.1) (fun zk4=>.x)))) (.seq (.seq .x (.body (.loop ⟨[(106,[(1,.ptr 0 0),(4,.val 0)])],[.box 31 [.val 20]]⟩ (fun n z=>z4l φ n z.1 z.2.1) (fun zk8=>.x)))) (.seq (.seq .x (.body (.loop ⟨[(106,[(1,.ptr 0 0),(5,.val 0)])],[.box 31 [.val 20]]⟩ (fun n z=>z3q φ n z.1 z.2.1) (fun zk12=>.x)))) .x)))))
def zh9 (P:Program) (φ:Nat):Env TV:=⟨P,lk [(133,zam φ),(134,z96 φ),(135,z4h φ),(136,zfy φ)],lk [],lk []⟩
theorem zzk (φ:Nat) (a) :(zh8 φ).F a=fnX TV (zh9 Tryz.prog φ) φ Tryz.f99 [20] [.val 0] (zde φ) a:=by kernel_rfl
theorem y0o (φ:Nat):fnO TV (zh9 Tryz.prog φ) φ Tryz.f99 [.val 0] (zde φ):=by
 unfold fnO
 show obl _ _ _ _ _ _ _
 unfold zde
 repeat' (first | exact trivial |(refine⟨?_,?_⟩) |(intro _) | kernel_rfl)
theorem zyw (φ:Nat):zz TV Tryz.prog 99 (zh8 φ):=
 z01 (N:=zh9 Tryz.prog φ) (zh ⟨zqp φ,zp2 φ,z7w φ,zvx φ,trivial⟩ trivial trivial) (zde φ) Tryz.func99 (by kernel_rfl) (zzk φ) (y0o φ)
end Px
end
section
set_option maxHeartbeats 4000000
set_option maxRecDepth 100000
namespace Px
open Go Go.RowKit Go.Proofs
def zfi (φ:Nat):H TV (RTup TT [.val 2]):=(.seq .x (.seq .x (.seq (.seq .x (.body (.loop ⟨[(96,[(1,.ptr 0 0),(3,.val 0),(4,.val 0)])],[.box 36 [.val 30]]⟩ (fun n z=>z7d φ n z.1 z.2.1 z.2.2.1) (fun zk5=>.x)))) (.seq (.seq .x (.body (.loop ⟨[(96,[(1,.ptr 0 0),(3,.val 0),(6,.val 0)])],[.box 36 [.val 30]]⟩ (fun n z=>z4s φ n z.1 z.2.1 z.2.2.1) (fun zk10=>.x)))) (.seq (.seq .x (.body (.loop ⟨[(96,[(1,.ptr 0 0),(3,.val 0),(7,.val 0)])],[.box 36 [.val 30]]⟩ (fun n z=>z4n φ n z.1 z.2.1 z.2.2.1) (fun zk15=>.x)))) .x)))))
def zkb (P:Program) (φ:Nat):Env TV:=⟨P,lk [(135,z4h φ)],lk [],lk []⟩
theorem y0u (φ:Nat) (a) :(zl1 φ).F a=fnX TV (zkb Tryz.prog φ) φ Tryz.f100 [30] [.val 2] (zfi φ) a:=by kernel_rfl
theorem y44 (φ:Nat):fnO TV (zkb Tryz.prog φ) φ Tryz.f100 [.val 2] (zfi φ):=by
 unfold fnO
 show obl _ _ _ _ _ _ _
 unfold zfi
 repeat' (first | exact trivial |(refine⟨?_,?_⟩) |(intro _) | kernel_rfl)
theorem y3c (φ:Nat):zz TV Tryz.prog 100 (zl1 φ):=
 z01 (N:=zkb Tryz.prog φ) (zh ⟨z7w φ,trivial⟩ trivial trivial) (zfi φ) Tryz.func100 (by kernel_rfl) (y0u φ) (y44 φ)
def zdh (φ:Nat):H TV (RTup TT [.val 2]):=(.seq .x (.seq .x (.seq (.seq .x (.body (.loop ⟨[(51,[(1,.ptr 0 0),(3,.val 0),(4,.val 0)])],[.box 36 [.val 30]]⟩ (fun n z=>z64 φ n z.1 z.2.1 z.2.2.1) (fun zk5=>.x)))) (.seq (.seq .x (.body (.loop ⟨[(51,[(1,.ptr 0 0),(3,.val 0),(6,.val 0)])],[.box 36 [.val 30]]⟩ (fun n z=>z4r φ n z.1 z.2.1 z.2.2.1) (fun zk9=>.x)))) .x))))
def zhe (P:Program) (φ:Nat):Env TV:=⟨P,lk [],lk [],lk []⟩
theorem zzu (φ:Nat) (a) :(ziy φ).F a=fnX TV (zhe Tryz.prog φ) φ Tryz.f101 [30] [.val 2] (zdh φ) a:=by kernel_rfl
theorem zzv (φ:Nat):fnO TV (zhe Tryz.prog φ) φ Tryz.f101 [.val 2] (zdh φ):=by
 unfold fnO
 show obl _ _ _ _ _ _ _
 unfold zdh
 repeat' (first | exact trivial |(refine⟨?_,?_⟩) |(intro _) | kernel_rfl)
theorem zyx (φ:Nat):zz TV Tryz.prog 101 (ziy φ):=
 z01 (N:=zhe Tryz.prog φ) (zh trivial trivial trivial) (zdh φ) Tryz.func101 (by kernel_rfl) (zzu φ) (zzv φ)
def zda (φ:Nat):H TV (RTup TT [.val 0]):=(.seq .x (.seq (.seq .x (.body (.loop ⟨[(62,[(1,.ptr 0 0),(3,.val 0)])],[.box 117 [.val 27]]⟩ (fun n z=>z65 φ n z.1 z.2.1) (fun zk4=>.x)))) (.seq (.seq .x (.body (.loop ⟨[(62,[(1,.ptr 0 0),(5,.val 0)])],[.box 117 [.val 27]]⟩ (fun n z=>z6c φ n z.1 z.2.1) (fun zk7=>.x)))) .x)))
def zi1 (P:Program) (φ:Nat):Env TV:=⟨P,lk [],lk [],lk []⟩
theorem zyp (φ:Nat) (a) :(zi7 φ).F a=fnX TV (zi1 Tryz.prog φ) φ Tryz.f102 [27] [.val 0] (zda φ) a:=by kernel_rfl
theorem zyf (φ:Nat):fnO TV (zi1 Tryz.prog φ) φ Tryz.f102 [.val 0] (zda φ):=by
 unfold fnO
 show obl _ _ _ _ _ _ _
 unfold zda
 repeat' (first | exact trivial |(refine⟨?_,?_⟩) |(intro _) | kernel_rfl)
theorem zxj (φ:Nat):zz TV Tryz.prog 102 (zi7 φ):=
 z01 (N:=zi1 Tryz.prog φ) (zh trivial trivial trivial) (zda φ) Tryz.func102 (by kernel_rfl) (zyp φ) (zyf φ)
def zdd (φ:Nat):H TV (RTup TT [.val 2]):=.x
def zic (P:Program) (φ:Nat):Env TV:=⟨P,lk [(97,zh2 φ)],lk [],lk []⟩
theorem zxz (φ:Nat) (a) :(zik φ).F a=fnX TV (zic Tryz.prog φ) φ Tryz.f103 [6] [.val 2] (zdd φ) a:=by kernel_rfl
theorem zxv (φ:Nat):fnO TV (zic Tryz.prog φ) φ Tryz.f103 [.val 2] (zdd φ):=by
 unfold fnO
 show obl _ _ _ _ _ _ _
 unfold zdd
 repeat' (first | exact trivial |(refine⟨?_,?_⟩) |(intro _) | kernel_rfl)
theorem zxw (φ:Nat):zz TV Tryz.prog 103 (zik φ):=
 z01 (N:=zic Tryz.prog φ) (zh ⟨zs8 φ,trivial⟩ trivial trivial) (zdd φ) Tryz.func103 (by kernel_rfl) (zxz φ) (zxv φ)
def z71 (φ:Nat):H TV (RTup TT [.val 0]):=(.seq .x (.seq .x (.seq .x (.seq .x (.seq .x (.seq .x (.seq .x (.seq (.seq .x (.body (.loop ⟨[(70,[(1,.ptr 0 0),(4,.val 0)])],[.box 36 [.val 30]]⟩ (fun n z=>z1t φ n z.1 z.2.1) (fun zk8=>.x)))) .x))))))))
def zaa (P:Program) (φ:Nat):Env TV:=⟨P,lk [(98,zdc φ),(99,zh8 φ),(100,zl1 φ),(101,ziy φ),(102,zi7 φ),(103,zik φ)],lk [],lk []⟩
theorem zpr (φ:Nat) (a) :(zai φ).F a=fnX TV (zaa Tryz.prog φ) φ Tryz.f77 [30] [.val 0] (z71 φ) a:=by kernel_rfl
theorem zqe (φ:Nat):fnO TV (zaa Tryz.prog φ) φ Tryz.f77 [.val 0] (z71 φ):=by
 unfold fnO
 show obl _ _ _ _ _ _ _
 unfold z71
 repeat' (first | exact trivial |(refine⟨?_,?_⟩) |(intro _) | kernel_rfl)
theorem zpi (φ:Nat):zz TV Tryz.prog 77 (zai φ):=
 z01 (N:=zaa Tryz.prog φ) (zh ⟨zon φ,zyw φ,y3c φ,zyx φ,zxj φ,zxw φ,trivial⟩ trivial trivial) (z71 φ) Tryz.func77 (by kernel_rfl) (zpr φ) (zqe φ)
def zf9 (φ:Nat):H TV (RTup TT [.val 31]):=(.seq .x (.seq (.seq .x (.body (.seq .x (.cond .x (.seq .x (.cond .x (.seq (.join ⟨[(30,[(3,.val 0),(8,.val 2)])],[]⟩ (fun z=>zcn φ z.1 z.2.1) (.seq .x .x)) (.cond .x (.seq .x (.cond .x (.seq .x (.cond .x (.seq .x (.cond .x (.seq .x (.cond .x (.seq .x (.cond .x (.seq .x (.cond .x (.seq (.join ⟨[(30,[(3,.val 0),(23,.val 2)])],[]⟩ (fun z=>zd1 φ z.1 z.2.1) (.seq .x .x)) .x))))))))))))))))))))) .x))
def zk1 (P:Program) (φ:Nat):Env TV:=⟨P,lk [],lk [],lk []⟩
theorem y1v (φ:Nat) (a) :(zl4 φ).F a=fnX TV (zk1 Tryz.prog φ) φ Tryz.f104 [0] [.val 31] (zf9 φ) a:=by kernel_rfl
theorem y1c (φ:Nat):fnO TV (zk1 Tryz.prog φ) φ Tryz.f104 [.val 31] (zf9 φ):=by
 unfold fnO
 show obl _ _ _ _ _ _ _
 unfold zf9
 repeat' (first | exact trivial |(refine⟨?_,?_⟩) |(intro _) | kernel_rfl)
theorem y4b (φ:Nat):zz TV Tryz.prog 104 (zl4 φ):=
 z01 (N:=zk1 Tryz.prog φ) (zh trivial trivial trivial) (zf9 φ) Tryz.func104 (by kernel_rfl) (y1v φ) (y1c φ)
def z9h (φ:Nat):H TV (RTup TT [.val 2]):=.x
def zef (P:Program) (φ:Nat):Env TV:=⟨P,lk [],lk [],lk []⟩
theorem zs7 (φ:Nat) (a) :(z16 φ).F a=fnX TV (zef Tryz.prog φ) φ Tryz.f105 [0,0,0] [.val 2] (z9h φ) a:=by kernel_rfl
theorem zuo (φ:Nat):fnO TV (zef Tryz.prog φ) φ Tryz.f105 [.val 2] (z9h φ):=by
 unfold fnO
 show obl _ _ _ _ _ _ _
 unfold z9h
 repeat' (first | exact trivial |(refine⟨?_,?_⟩) |(intro _) | kernel_rfl)
theorem z2m (φ:Nat):zz TV Tryz.prog 105 (z16 φ):=
 z01 (N:=zef Tryz.prog φ) (zh trivial trivial trivial) (z9h φ) Tryz.func105 (by kernel_rfl) (zs7 φ) (zuo φ)
def z7m (φ:Nat):H TV (RTup TT [.val 2]):=.x
def zab (P:Program) (φ:Nat):Env TV:=⟨P,lk [(105,z16 φ)],lk [],lk []⟩
theorem zpv (φ:Nat) (a) :(zal φ).F a=fnX TV (zab Tryz.prog φ) φ Tryz.f106 [34] [.val 2] (z7m φ) a:=by kernel_rfl
theorem zph (φ:Nat):fnO TV (zab Tryz.prog φ) φ Tryz.f106 [.val 2] (z7m φ):=by
 unfold fnO
 show obl _ _ _ _ _ _ _
 unfold z7m
 repeat' (first | exact trivial |(refine⟨?_,?_⟩) |(intro _) | kernel_rfl)
theorem zqt (φ:Nat):zz TV Tryz.prog 106 (zal φ):=
 z01 (N:=zab Tryz.prog φ) (zh ⟨z2m φ,trivial⟩ trivial trivial) (z7m φ) Tryz.func106 (by kernel_rfl) (zpv φ) (zph φ)
def zme (φ:Nat):H TV (RTup TT [.val 2]):=(.seq .x (.seq (.seq .x (.body (.loop ⟨[(17,[(0,.val 31),(1,.val 52),(5,.val 0)])],[]⟩ (fun n z=>zdq φ n z.1 z.2.1 z.2.2.1) (fun zk6=>.x)))) .x))
def zqc (P:Program) (φ:Nat):Env TV:=⟨P,lk [],lk [],lk []⟩
theorem yb7 (φ:Nat) (a) :(zpt φ).F a=fnX TV (zqc Tryz.prog φ) φ Tryz.f107 [31,52] [.val 2] (zme φ) a:=by kernel_rfl
theorem yaa (φ:Nat):fnO TV (zqc Tryz.prog φ) φ Tryz.f107 [.val 2] (zme φ):=by
 unfold fnO
 show obl _ _ _ _ _ _ _
 unfold zme
 repeat' (first | exact trivial |(refine⟨?_,?_⟩) |(intro _) | kernel_rfl)
theorem yao (φ:Nat):zz TV Tryz.prog 107 (zpt φ):=
 z01 (N:=zqc Tryz.prog φ) (zh trivial trivial trivial) (zme φ) Tryz.func107 (by kernel_rfl) (yb7 φ) (yaa φ)
def zcu (φ:Nat):H TV (RTup TT [.val 2]):=(.seq .x (.seq .x (.seq .x (.seq (.seq .x (.body (.seq (.join ⟨[(34,[(5,.val 0),(24,.val 0),(25,.val 2)])],[]⟩ (fun z=>zbd φ z.1 z.2.1 z.2.2.1) (.seq .x .x)) .x))) .x))))
def zio (P:Program) (φ:Nat):Env TV:=⟨P,lk [(105,z16 φ)],lk [],lk []⟩
theorem zxc (φ:Nat) (a) :(zhi φ).F a=fnX TV (zio Tryz.prog φ) φ Tryz.f137 [30,34] [.val 2] (zcu φ) a:=by kernel_rfl
theorem zyz (φ:Nat):fnO TV (zio Tryz.prog φ) φ Tryz.f137 [.val 2] (zcu φ):=by
 unfold fnO
 show obl _ _ _ _ _ _ _
 unfold zcu
 repeat' (first | exact trivial |(refine⟨?_,?_⟩) |(intro _) | kernel_rfl)
theorem zyy (φ:Nat):zz TV Tryz.prog 137 (zhi φ):=
 z01 (N:=zio Tryz.prog φ) (zh ⟨z2m φ,trivial⟩ trivial trivial) (zcu φ) Tryz.func137 (by kernel_rfl) (zxc φ) (zyz φ)
def zcq (φ:Nat):H TV (RTup TT [.val 2]):=(.seq .x (.seq (.seq .x (.body (.seq .x (.cond .x (.seq (.join ⟨[(51,[(2,.ptr 0 0),(3,.ptr 1 0),(7,.val 0),(17,.val 2)])],[.box 36 [.val 30],.box 59 [.val 34]]⟩ (fun z=>zbb φ z.1 z.2.1 z.2.2.1 z.2.2.2.1) (.seq .x .x)) .x))))) .x))
def zj5 (P:Program) (φ:Nat):Env TV:=⟨P,lk [(105,z16 φ)],lk [],lk []⟩
theorem zzi (φ:Nat) (a) :(zhd φ).F a=fnX TV (zj5 Tryz.prog φ) φ Tryz.f138 [30,34] [.val 2] (zcq φ) a:=by kernel_rfl
theorem zyn (φ:Nat):fnO TV (zj5 Tryz.prog φ) φ Tryz.f138 [.val 2] (zcq φ):=by
 unfold fnO
 show obl _ _ _ _ _ _ _
 unfold zcq
 repeat' (first | exact trivial |(refine⟨?_,?_⟩) |(intro _) | kernel_rfl)
theorem zzf (φ:Nat):zz TV Tryz.prog 138 (zhd φ):=
 z01 (N:=zj5 Tryz.prog φ) (zh ⟨z2m φ,trivial⟩ trivial trivial) (zcq φ) Tryz.func138 (by kernel_rfl) (zzi φ) (zyn φ)
def zb0 (φ:Nat):H TV (RTup TT [.val 2]):=.x
def zg5 (P:Program) (φ:Nat):Env TV:=⟨P,lk [(105,z16 φ)],lk [],lk []⟩
theorem zvr (φ:Nat) (a) :(zfz φ).F a=fnX TV (zg5 Tryz.prog φ) φ Tryz.f139 [30,34] [.val 2] (zb0 φ) a:=by kernel_rfl
theorem zw8 (φ:Nat):fnO TV (zg5 Tryz.prog φ) φ Tryz.f139 [.val 2] (zb0 φ):=by
 unfold fnO
 show obl _ _ _ _ _ _ _
 unfold zb0
 repeat' (first | exact trivial |(refine⟨?_,?_⟩) |(intro _) | kernel_rfl)
theorem zvv (φ:Nat):zz TV Tryz.prog 139 (zfz φ):=
 z01 (N:=zg5 Tryz.prog φ) (zh ⟨z2m φ,trivial⟩ trivial trivial) (zb0 φ) Tryz.func139 (by kernel_rfl) (zvr φ) (zw8 φ)
def zfs (φ:Nat):H TV (RTup TT [.val 2]):=(.seq .x (.seq (.seq .x (.body (.seq (.join ⟨[(24,[(1,.ptr 0 0),(4,.val 0),(5,.val 2)])],[.box 59 [.val 34]]⟩ (fun z=>zcf φ z.1 z.2.1 z.2.2.1) (.seq .x .x)) .x))) .x))
def zkx (P:Program) (φ:Nat):Env TV:=⟨P,lk [(105,z16 φ)],lk [],lk []⟩
theorem y40 (φ:Nat) (a) :(zl5 φ).F a=fnX TV (zkx Tryz.prog φ) φ Tryz.f140 [34] [.val 2] (zfs φ) a:=by kernel_rfl
theorem y1x (φ:Nat):fnO TV (zkx Tryz.prog φ) φ Tryz.f140 [.val 2] (zfs φ):=by
 unfold fnO
 show obl _ _ _ _ _ _ _
 unfold zfs
 repeat' (first | exact trivial |(refine⟨?_,?_⟩) |(intro _) | kernel_rfl)
theorem y4p (φ:Nat):zz TV Tryz.prog 140 (zl5 φ):=
 z01 (N:=zkx Tryz.prog φ) (zh ⟨z2m φ,trivial⟩ trivial trivial) (zfs φ) Tryz.func140 (by kernel_rfl) (y40 φ) (y1x φ)
def zcw (φ:Nat):H TV (RTup TT [.val 2]):=.x
def zh3 (P:Program) (φ:Nat):Env TV:=⟨P,lk [(105,z16 φ),(137,zhi φ),(138,zhd φ),(139,zfz φ),(140,zl5 φ)],lk [],lk []⟩
theorem zy0 (φ:Nat) (a) :(zhs φ).F a=fnX TV (zh3 Tryz.prog φ) φ Tryz.f108 [30,34,52] [.val 2] (zcw φ) a:=by kernel_rfl
theorem zxf (φ:Nat):fnO TV (zh3 Tryz.prog φ) φ Tryz.f108 [.val 2] (zcw φ):=by
 unfold fnO
 show obl _ _ _ _ _ _ _
 unfold zcw
 repeat' (first | exact trivial |(refine⟨?_,?_⟩) |(intro _) | kernel_rfl)
theorem zy6 (φ:Nat):zz TV Tryz.prog 108 (zhs φ):=
 z01 (N:=zh3 Tryz.prog φ) (zh ⟨z2m φ,zyy φ,zzf φ,zvv φ,y4p φ,trivial⟩ trivial trivial) (zcw φ) Tryz.func108 (by kernel_rfl) (zy0 φ) (zxf φ)
def zdg (φ:Nat):H TV (RTup TT [.val 2]):=(.seq .x (.seq .x (.seq (.seq .x (.body (.loop ⟨[(51,[(1,.ptr 0 0),(3,.val 0)])],[.box 59 [.val 34]]⟩ (fun n z=>z67 φ n z.1 z.2.1) (fun zk4=>.x)))) .x)))
def zhm (P:Program) (φ:Nat):Env TV:=⟨P,lk [(105,z16 φ)],lk [],lk []⟩
theorem zxd (φ:Nat) (a) :(zhh φ).F a=fnX TV (zhm Tryz.prog φ) φ Tryz.f109 [34] [.val 2] (zdg φ) a:=by kernel_rfl
theorem y04 (φ:Nat):fnO TV (zhm Tryz.prog φ) φ Tryz.f109 [.val 2] (zdg φ):=by
 unfold fnO
 show obl _ _ _ _ _ _ _
 unfold zdg
 repeat' (first | exact trivial |(refine⟨?_,?_⟩) |(intro _) | kernel_rfl)
theorem zz4 (φ:Nat):zz TV Tryz.prog 109 (zhh φ):=
 z01 (N:=zhm Tryz.prog φ) (zh ⟨z2m φ,trivial⟩ trivial trivial) (zdg φ) Tryz.func109 (by kernel_rfl) (zxd φ) (y04 φ)
def zcm (φ:Nat):H TV (RTup TT [.val 2]):=(.seq .x (.seq .x (.seq .x (.seq (.seq .x (.body (.loop ⟨[(77,[(2,.ptr 0 0),(3,.ptr 1 0),(5,.val 31),(6,.val 0)])],[.box 36 [.val 30],.box 59 [.val 34]]⟩ (fun n z=>z3j φ n z.1 z.2.1 z.2.2.1 z.2.2.2.1) (fun zk10=>.x)))) .x))))
def zi5 (P:Program) (φ:Nat):Env TV:=⟨P,lk [(104,zl4 φ),(105,z16 φ),(106,zal φ),(107,zpt φ),(108,zhs φ),(85,zd9 φ),(109,zhh φ)],lk [],lk []⟩
theorem zzt (φ:Nat) (a) :(zha φ).F a=fnX TV (zi5 Tryz.prog φ) φ Tryz.f78 [30,34] [.val 2] (zcm φ) a:=by kernel_rfl
theorem y0f (φ:Nat):fnO TV (zi5 Tryz.prog φ) φ Tryz.f78 [.val 2] (zcm φ):=by
 unfold fnO
 show obl _ _ _ _ _ _ _
 unfold zcm
 repeat' (first | exact trivial |(refine⟨?_,?_⟩) |(intro _) | kernel_rfl)
theorem zye (φ:Nat):zz TV Tryz.prog 78 (zha φ):=
 z01 (N:=zi5 Tryz.prog φ) (zh ⟨y4b φ,z2m φ,zqt φ,yao φ,zy6 φ,znu φ,zz4 φ,trivial⟩ trivial trivial) (zcm φ) Tryz.func78 (by kernel_rfl) (zzt φ) (y0f φ)
def z8o (φ:Nat):H TV (RTup TT [.val 5,.val 0]):=(.seq .x (.seq .x (.seq .x (.seq .x (.seq (.seq .x (.body (.loop ⟨[(34,[(1,.val 38),(2,.ptr 0 0),(7,.own 1),(8,.val 0)])],[.box 36 [.val 30],.row 3 0]⟩ (fun n z=>z35 φ n z.1 z.2.1 z.2.2.1 z.2.2.2.1) (fun zk8=>.x)))) .x)))))
def zet (P:Program) (φ:Nat):Env TV:=⟨P,lk [(77,zai φ),(78,zha φ)],lk [],lk []⟩
theorem ztc (φ:Nat) (a) :(zdy φ).F a=fnX TV (zet Tryz.prog φ) φ Tryz.f48 [30,38] [.val 5,.val 0] (z8o φ) a:=by kernel_rfl
theorem zsh (φ:Nat):fnO TV (zet Tryz.prog φ) φ Tryz.f48 [.val 5,.val 0] (z8o φ):=by
 unfold fnO
 show obl _ _ _ _ _ _ _
 unfold z8o
 repeat' (first | exact trivial |(refine⟨?_,?_⟩) |(intro _) | kernel_rfl)
theorem zsl (φ:Nat):zz TV Tryz.prog 48 (zdy φ):=
 z01 (N:=zet Tryz.prog φ) (zh ⟨zpi φ,zye φ,trivial⟩ trivial trivial) (z8o φ) Tryz.func48 (by kernel_rfl) (ztc φ) (zsh φ)
def z99 (φ:Nat):H TV (RTup TT [.val 5]):=(.seq .x (.seq .x (.seq (.seq .x (.body (.loop ⟨[(55,[(1,.val 38),(2,.val 5),(7,.own 0),(8,.val 0)])],[.row 3 0]⟩ (fun n z=>z2y φ n z.1 z.2.1 z.2.2.1 z.2.2.2.1) (fun zk8=>.x)))) (.seq .x (.seq (.seq .x (.body (.loop ⟨[(55,[(7,.own 0),(10,.val 0),(11,.val 0)])],[.row 3 0]⟩ (fun n z=>z1o φ n z.1 z.2.1 z.2.2.1) (fun zk12=>.x)))) .x)))))
def ze2 (P:Program) (φ:Nat):Env TV:=⟨P,lk [],lk [],lk []⟩
theorem zsy (φ:Nat) (a) :(zes φ).F a=fnX TV (ze2 Tryz.prog φ) φ Tryz.f49 [30,38,5] [.val 5] (z99 φ) a:=by kernel_rfl
theorem zu0 (φ:Nat):fnO TV (ze2 Tryz.prog φ) φ Tryz.f49 [.val 5] (z99 φ):=by
 unfold fnO
 show obl _ _ _ _ _ _ _
 unfold z99
 repeat' (first | exact trivial |(refine⟨?_,?_⟩) |(intro _) | kernel_rfl)
theorem zsv (φ:Nat):zz TV Tryz.prog 49 (zes φ):=
 z01 (N:=ze2 Tryz.prog φ) (zh trivial trivial trivial) (z99 φ) Tryz.func49 (by kernel_rfl) (zsy φ) (zu0 φ)
def zb5 (φ:Nat):H TV (RTup TT [.val 54]):=(.seq .x (.seq .x (.seq .x (.seq (.seq .x (.body (.seq .x (.cond .x (.seq (.join ⟨[(56,[(7,.ptr 0 0),(8,.ptr 1 0),(21,.val 0),(37,.val 2)])],[.box 59 [.val 34],.box 160 [.val 53]]⟩ (fun z=>z14 φ z.1 z.2.1 z.2.2.1 z.2.2.2.1) (.seq .x .x)) .x))))) .x))))
def zgp (P:Program) (φ:Nat):Env TV:=⟨P,lk [],lk [],lk []⟩
theorem zwe (φ:Nat) (a) :(zg0 φ).F a=fnX TV (zgp Tryz.prog φ) φ Tryz.f80 [30,35,0] [.val 54] (zb5 φ) a:=by kernel_rfl
theorem zv6 (φ:Nat):fnO TV (zgp Tryz.prog φ) φ Tryz.f80 [.val 54] (zb5 φ):=by
 unfold fnO
 show obl _ _ _ _ _ _ _
 unfold zb5
 repeat' (first | exact trivial |(refine⟨?_,?_⟩) |(intro _) | kernel_rfl)
theorem zuy (φ:Nat):zz TV Tryz.prog 80 (zg0 φ):=
 z01 (N:=zgp Tryz.prog φ) (zh trivial trivial trivial) (zb5 φ) Tryz.func80 (by kernel_rfl) (zwe φ) (zv6 φ)
def zaw (φ:Nat):H TV (RTup TT [.val 2]):=.x
def zg1 (P:Program) (φ:Nat):Env TV:=⟨P,lk [],lk [],lk []⟩
theorem zw9 (φ:Nat) (a) :(zar φ).F a=fnX TV (zg1 Tryz.prog φ) φ Tryz.f60 [1,1] [.val 2] (zaw φ) a:=by kernel_rfl
theorem zvg (φ:Nat):fnO TV (zg1 Tryz.prog φ) φ Tryz.f60 [.val 2] (zaw φ):=by
 unfold fnO
 show obl _ _ _ _ _ _ _
 unfold zaw
 repeat' (first | exact trivial |(refine⟨?_,?_⟩) |(intro _) | kernel_rfl)
theorem zmo (φ:Nat):zz TV Tryz.prog 60 (zar φ):=
 z01 (N:=zg1 Tryz.prog φ) (zh trivial trivial trivial) (zaw φ) Tryz.func60 (by kernel_rfl) (zw9 φ) (zvg φ)
def zbe (φ:Nat):H TV (RTup TT [.val 2]):=.x
def zge (P:Program) (φ:Nat):Env TV:=⟨P,lk [(60,zar φ)],lk [],lk []⟩
theorem zw7 (φ:Nat) (a) :(zgo φ).F a=fnX TV (zge Tryz.prog φ) φ Tryz.f111 [53,53] [.val 2] (zbe φ) a:=by kernel_rfl
theorem zw2 (φ:Nat):fnO TV (zge Tryz.prog φ) φ Tryz.f111 [.val 2] (zbe φ):=by
 unfold fnO
 show obl _ _ _ _ _ _ _
 unfold zbe
 repeat' (first | exact trivial |(refine⟨?_,?_⟩) |(intro _) | kernel_rfl)
theorem zw3 (φ:Nat):zz TV Tryz.prog 111 (zgo φ):=
 z01 (N:=zge Tryz.prog φ) (zh ⟨zmo φ,trivial⟩ trivial trivial) (zbe φ) Tryz.func111 (by kernel_rfl) (zw7 φ) (zw2 φ)
def zb7 (φ:Nat):H TV (RTup TT [.row 160 53]):=(.seq .x (.seq .x (.seq (.body (.loop ⟨[(35,[(0,.val 54),(3,.ptr 0 0),(5,.val 0)])],[.box 160 [.val 53]]⟩ (fun n z=>z5b φ n z.1 z.2.1 z.2.2.1) (fun zk6=>.x))) .x)))
def zgj (P:Program) (φ:Nat):Env TV:=⟨P,lk [(111,zgo φ)],lk [],lk []⟩
theorem zw0 (φ:Nat) (a) :(zfx φ).F a=fnX TV (zgj Tryz.prog φ) φ Tryz.f81 [54,53] [.row 160 53] (zb7 φ) a:=by kernel_rfl
theorem zvu (φ:Nat):fnO TV (zgj Tryz.prog φ) φ Tryz.f81 [.row 160 53] (zb7 φ):=by
 unfold fnO
 show obl _ _ _ _ _ _ _
 unfold zb7
 repeat' (first | exact trivial |(refine⟨?_,?_⟩) |(intro _) | kernel_rfl)
theorem zv9 (φ:Nat):zz TV Tryz.prog 81 (zfx φ):=
 z01 (N:=zgj Tryz.prog φ) (zh ⟨zw3 φ,trivial⟩ trivial trivial) (zb7 φ) Tryz.func81 (by kernel_rfl) (zw0 φ) (zvu φ)
def zax (φ:Nat):H TV (RTup TT [.val 54]):=(.seq .x (.seq .x (.seq (.seq .x (.body (.loop ⟨[(54,[(1,.val 38),(2,.val 5),(3,.val 0),(4,.ptr 0 0),(9,.own 1),(10,.val 0)])],[.box 36 [.val 30],.row 160 53]⟩ (fun n z=>z31 φ n z.1 z.2.1 z.2.2.1 z.2.2.2.1 z.2.2.2.2.1 z.2.2.2.2.2.1) (fun zk11=>(.seq .x (.seq (.body (.seq .x (.seq .x (.seq .x (.seq .x (.body (.loop ⟨[(54,[(1,.val 38),(2,.val 5),(3,.val 0),(4,.ptr 0 0),(9,.own 1),(10,.val 0),(12,.val 54),(13,.val 0)])],[.box 36 [.val 30],.row 160 53]⟩ (fun n z=>z2z φ (fun a0 a1 a2 a3 a4 a5=>zk11 (a0,a1,a2,a3,a4,a5,())) n z.1 z.2.1 z.2.2.1 z.2.2.2.1 z.2.2.2.2.1 z.2.2.2.2.2.1 z.2.2.2.2.2.2.1 z.2.2.2.2.2.2.2.1) (fun zk21=>.x)))))))) .x)))))) (.seq (.ins 1 82 (.seq .x (.body (.loop ⟨[(49,[(0,.own 0),(2,.val 0)]),(54,[(9,.own 0)])],[.row 160 53]⟩ (fun n z=>z0a φ n z.1 z.2.1) (fun zk25=>(.seq .x (.seq (.body (.seq .x (.seq .x (.body (.loop ⟨[(49,[(0,.own 0),(2,.val 0),(3,.val 0)]),(54,[(9,.own 0)])],[.row 160 53]⟩ (fun n z=>z5w φ (fun a0 a1=>zk25 (a0,a1,())) n z.1 z.2.1 z.2.2.1) (fun zk29=>.x)))))) .x)))))) .x) .x))))
def zgb (P:Program) (φ:Nat):Env TV:=⟨P,lk [(80,zg0 φ),(81,zfx φ)],lk [],lk []⟩
theorem zvf (φ:Nat) (a) :(zg3 φ).F a=fnX TV (zgb Tryz.prog φ) φ Tryz.f52 [30,38,5,0] [.val 54] (zax φ) a:=by kernel_rfl
theorem zvh (φ:Nat):fnO TV (zgb Tryz.prog φ) φ Tryz.f52 [.val 54] (zax φ):=by
 unfold fnO
 show obl _ _ _ _ _ _ _
 unfold zax
 repeat' (first | exact trivial |(refine⟨?_,?_⟩) |(intro _) | kernel_rfl)
theorem zv3 (φ:Nat):zz TV Tryz.prog 52 (zg3 φ):=
 z01 (N:=zgb Tryz.prog φ) (zh ⟨zuy φ,zv9 φ,trivial⟩ trivial trivial) (zax φ) Tryz.func52 (by kernel_rfl) (zvf φ) (zvh φ)
def zb1 (φ:Nat):H TV (RTup TT [.val 2]):=.x
def zgm (P:Program) (φ:Nat):Env TV:=⟨P,lk [(155,z6n φ)],lk [],lk []⟩
theorem zva (φ:Nat) (a) :(zaz φ).F a=fnX TV (zgm Tryz.prog φ) φ Tryz.f142 [11,0] [.val 2] (zb1 φ) a:=by kernel_rfl
theorem zve (φ:Nat):fnO TV (zgm Tryz.prog φ) φ Tryz.f142 [.val 2] (zb1 φ):=by
 unfold fnO
 show obl _ _ _ _ _ _ _
 unfold zb1
 repeat' (first | exact trivial |(refine⟨?_,?_⟩) |(intro _) | kernel_rfl)
theorem zmn (φ:Nat):zz TV Tryz.prog 142 (zaz φ):=
 z01 (N:=zgm Tryz.prog φ) (zh ⟨ze4 φ,trivial⟩ trivial trivial) (zb1 φ) Tryz.func142 (by kernel_rfl) (zva φ) (zve φ)
def zbc (φ:Nat):H TV (RTup TT [.val 0]):=.x
def zgh (P:Program) (φ:Nat):Env TV:=⟨P,lk [],lk [],lk []⟩
theorem zvw (φ:Nat) (a) :(zgi φ).F a=fnX TV (zgh Tryz.prog φ) φ Tryz.f156 [0,0] [.val 0] (zbc φ) a:=by kernel_rfl
theorem zw1 (φ:Nat):fnO TV (zgh Tryz.prog φ) φ Tryz.f156 [.val 0] (zbc φ):=by
 unfold fnO
 show obl _ _ _ _ _ _ _
 unfold zbc
 repeat' (first | exact trivial |(refine⟨?_,?_⟩) |(intro _) | kernel_rfl)
theorem zvk (φ:Nat):zz TV Tryz.prog 156 (zgi φ):=
 z01 (N:=zgh Tryz.prog φ) (zh trivial trivial trivial) (zbc φ) Tryz.func156 (by kernel_rfl) (zvw φ) (zw1 φ)
def zck (φ:Nat):H TV (RTup TT [.val 5,.val 0]):=(.seq .x (.seq .x (.seq .x (.seq .x (.seq .x (.seq (.seq .x (.body (.loop ⟨[(106,[(1,.val 0),(2,.ptr 0 0),(7,.own 1),(8,.val 0)])],[.box 25 [.val 11],.row 3 0]⟩ (fun n z=>z6a φ n z.1 z.2.1 z.2.2.1 z.2.2.2.1) (fun zk9=>.x)))) (.seq .x (.seq .x (.seq (.body (.loop ⟨[(106,[(2,.ptr 0 0),(7,.own 1),(9,.val 2)])],[.box 25 [.val 11],.row 3 0]⟩ (fun n z=>z1s φ n z.1 z.2.1 z.2.2.1) (fun zk13=>(.seq .x (.body (.seq .x (.seq .x (.body (.loop ⟨[(106,[(2,.ptr 0 0),(7,.own 1),(9,.val 2),(10,.val 0)])],[.box 25 [.val 11],.row 3 0]⟩ (fun n z=>z0m φ (fun a0 a1 a2=>zk13 (a0,a1,a2,())) n z.1 z.2.1 z.2.2.1 z.2.2.2.1) (fun zk18=>(.seq .x (.seq (.body (.seq .x (.seq .x (.seq .x (.seq (.join ⟨[(106,[(2,.ptr 0 0),(7,.own 1),(9,.val 2),(10,.val 0),(11,.ptr 2 0),(12,.val 0),(13,.val 0)])],[.box 25 [.val 11],.row 3 0,.box 112 [.val 9]]⟩ (fun z=>z6z φ (fun a0 a1 a2 a3=>zk18 (a0,a1,a2,a3,())) z.1 z.2.1 z.2.2.1 z.2.2.2.1 z.2.2.2.2.1 z.2.2.2.2.2.1 z.2.2.2.2.2.2.1) (.seq .x .x)) (.seq (.join ⟨[(106,[(2,.ptr 0 0),(7,.own 1),(9,.val 2),(10,.val 0),(11,.ptr 2 0),(12,.val 0),(13,.val 0)])],[.box 25 [.val 11],.row 3 0,.box 112 [.val 9]]⟩ (fun z=>z52 φ (fun a0 a1 a2 a3=>zk18 (a0,a1,a2,a3,())) z.1 z.2.1 z.2.2.1 z.2.2.2.1 z.2.2.2.2.1 z.2.2.2.2.2.1 z.2.2.2.2.2.2.1) (.seq .x .x)) .x)))))) .x)))))))))))) .x)))))))))
def ziz (P:Program) (φ:Nat):Env TV:=⟨P,lk [(98,zdc φ),(142,zaz φ),(156,zgi φ)],lk [],lk []⟩
theorem zy7 (φ:Nat) (a) :(zii φ).F a=fnX TV (ziz Tryz.prog φ) φ Tryz.f141 [11,0] [.val 5,.val 0] (zck φ) a:=by kernel_rfl
theorem y08 (φ:Nat):fnO TV (ziz Tryz.prog φ) φ Tryz.f141 [.val 5,.val 0] (zck φ):=by
 unfold fnO
 show obl _ _ _ _ _ _ _
 unfold zck
 repeat' (first | exact trivial |(refine⟨?_,?_⟩) |(intro _) | kernel_rfl)
theorem zzw (φ:Nat):zz TV Tryz.prog 141 (zii φ):=
 z01 (N:=ziz Tryz.prog φ) (zh ⟨zon φ,zmn φ,zvk φ,trivial⟩ trivial trivial) (zck φ) Tryz.func141 (by kernel_rfl) (zy7 φ) (y08 φ)
def z9j (φ:Nat):H TV (RTup TT [.val 0,.val 0]):=.x
def zdl (P:Program) (φ:Nat):Env TV:=⟨P,lk [(141,zii φ),(142,zaz φ)],lk [],lk []⟩
theorem zub (φ:Nat) (a) :(zdr φ).F a=fnX TV (zdl Tryz.prog φ) φ Tryz.f110 [11,0,0] [.val 0,.val 0] (z9j φ) a:=by kernel_rfl
theorem zuc (φ:Nat):fnO TV (zdl Tryz.prog φ) φ Tryz.f110 [.val 0,.val 0] (z9j φ):=by
 unfold fnO
 show obl _ _ _ _ _ _ _
 unfold z9j
 repeat' (first | exact trivial |(refine⟨?_,?_⟩) |(intro _) | kernel_rfl)
theorem zsm (φ:Nat):zz TV Tryz.prog 110 (zdr φ):=
 z01 (N:=zdl Tryz.prog φ) (zh ⟨zzw φ,zmn φ,trivial⟩ trivial trivial) (z9j φ) Tryz.func110 (by kernel_rfl) (zub φ) (zuc φ)
def zb8 (φ:Nat):H TV (RTup TT [.val 0]):=.x
def zga (P:Program) (φ:Nat):Env TV:=⟨P,lk [(110,zdr φ)],lk [],lk []⟩
theorem zv2 (φ:Nat) (a) :(zgq φ).F a=fnX TV (zga Tryz.prog φ) φ Tryz.f79 [30,53,53] [.val 0] (zb8 φ) a:=by kernel_rfl
theorem zvz (φ:Nat):fnO TV (zga Tryz.prog φ) φ Tryz.f79 [.val 0] (zb8 φ):=by
 unfold fnO
 show obl _ _ _ _ _ _ _
 unfold zb8
 repeat' (first | exact trivial |(refine⟨?_,?_⟩) |(intro _) | kernel_rfl)
theorem zv8 (φ:Nat):zz TV Tryz.prog 79 (zgq φ):=
 z01 (N:=zga Tryz.prog φ) (zh ⟨zsm φ,trivial⟩ trivial trivial) (zb8 φ) Tryz.func79 (by kernel_rfl) (zv2 φ) (zvz φ)
def zdi (φ:Nat):H TV (RTup TT [.val 48,.val 0]):=(.seq .x (.seq .x (.seq .x (.seq .x (.seq .x (.seq .x (.seq (.seq .x (.body (.loop ⟨[(112,[(1,.val 38),(2,.ptr 0 0),(4,.ptr 1 0),(6,.val 5),(8,.ptr 2 0),(9,.ptr 3 0),(10,.val 5),(11,.val 0)])],[.box 36 [.val 30],.box 68 [.val 0,.own 4,.own 5,.own 6],.box 68 [.val 0,.own 7,.own 8,.own 9],.box 56 [.val 1],.row 103 42,.row 73 44,.row 105 46,.row 103 42,.row 73 44,.row 105 46]⟩ (fun n z=>z2j φ n z.1 z.2.1 z.2.2.1 z.2.2.2.1 z.2.2.2.2.1 z.2.2.2.2.2.1 z.2.2.2.2.2.2.1 z.2.2.2.2.2.2.2.1 z.2.2.2.2.2.2.2.2.1 z.2.2.2.2.2.2.2.2.2.1 z.2.2.2.2.2.2.2.2.2.2.1 z.2.2.2.2.2.2.2.2.2.2.2.1 z.2.2.2.2.2.2.2.2.2.2.2.2.1 z.2.2.2.2.2.2.2.2.2.2.2.2.2.1) (fun zk19=>.x)))) (.seq (.seq .x (.body (.loop ⟨[(112,[(1,.val 38),(2,.ptr 0 0),(4,.ptr 1 0),(6,.val 5),(8,.ptr 2 0),(10,.val 5),(12,.val 0)])],[.box 36 [.val 30],.box 68 [.val 0,.own 3,.own 4,.own 5],.box 68 [.val 0,.own 6,.own 7,.own 8],.row 103 42,.row 73 44,.row 105 46,.row 103 42,.row 73 44,.row 105 46]⟩ (fun n z=>z2i φ n z.1 z.2.1 z.2.2.1 z.2.2.2.1 z.2.2.2.2.1 z.2.2.2.2.2.1 z.2.2.2.2.2.2.1 z.2.2.2.2.2.2.2.1 z.2.2.2.2.2.2.2.2.1 z.2.2.2.2.2.2.2.2.2.1 z.2.2.2.2.2.2.2.2.2.2.1 z.2.2.2.2.2.2.2.2.2.2.2.1 z.2.2.2.2.2.2.2.2.2.2.2.2.1) (fun zk33=>(.seq .x (.seq (.body (.ins 9 51 (.seq .x (.seq .x (.seq .x (.body (.loop ⟨[(181,[(1,.ptr 0 0),(2,.val 5),(3,.val 54),(4,.val 0),(5,.ptr 1 0),(10,.ptr 2 0),(11,.val 0)]),(112,[(1,.val 38),(2,.ptr 3 0),(4,.ptr 4 0),(6,.val 5),(8,.ptr 0 0),(10,.val 5),(12,.val 0),(85,.val 30),(86,.ptr 0 0),(87,.val 5),(88,.val 30),(89,.val 38),(90,.val 5),(91,.val 0),(92,.val 54),(93,.val 0)])],[.box 68 [.val 0,.own 5,.own 6,.own 7],.box 36 [.val 30],.box 56 [.val 1],.box 36 [.val 30],.box 68 [.val 0,.own 8,.own 9,.own 10],.row 103 42,.row 73 44,.row 105 46,.row 103 42,.row 73 44,.row 105 46]⟩ (fun n z=>z3o φ (fun a0 a1 a2 a3 a4 a5 a6 a7 a8 a9 a10 a11 a12=>zk33 (a0,a1,a2,a3,a4,a5,a6,a7,a8,a9,a10,a11,a12,())) n z.1 z.2.1 z.2.2.1 z.2.2.2.1 z.2.2.2.2.1 z.2.2.2.2.2.1 z.2.2.2.2.2.2.1 z.2.2.2.2.2.2.2.1 z.2.2.2.2.2.2.2.2.1 z.2.2.2.2.2.2.2.2.2.1 z.2.2.2.2.2.2.2.2.2.2.1 z.2.2.2.2.2.2.2.2.2.2.2.1 z.2.2.2.2.2.2.2.2.2.2.2.2.1 z.2.2.2.2.2.2.2.2.2.2.2.2.2.1 z.2.2.2.2.2.2.2.2.2.2.2.2.2.2.1 z.2.2.2.2.2.2.2.2.2.2.2.2.2.2.2.1 z.2.2.2.2.2.2.2.2.2.2.2.2.2.2.2.2.1 z.2.2.2.2.2.2.2.2.2.2.2.2.2.2.2.2.2.1 z.2.2.2.2.2.2.2.2.2.2.2.2.2.2.2.2.2.2.1 z.2.2.2.2.2.2.2.2.2.2.2.2.2.2.2.2.2.2.2.1 z.2.2.2.2.2.2.2.2.2.2.2.2.2.2.2.2.2.2.2.2.1 z.2.2.2.2.2.2.2.2.2.2.2.2.2.2.2.2.2.2.2.2.2.1 z.2.2.2.2.2.2.2.2.2.2.2.2.2.2.2.2.2.2.2.2.2.2.1 z.2.2.2.2.2.2.2.2.2.2.2.2.2.2.2.2.2.2.2.2.2.2.2.1 z.2.2.2.2.2.2.2.2.2.2.2.2.2.2.2.2.2.2.2.2.2.2.2.2.1 z.2.2.2.2.2.2.2.2.2.2.2.2.2.2.2.2.2.2.2.2.2.2.2.2.2.1 z.2.2.2.2.2.2.2.2.2.2.2.2.2.2.2.2.2.2.2.2.2.2.2.2.2.2.1) (fun zk62=>(.seq .x (.seq (.body (.seq .x (.seq .x (.seq .x (.seq (.join ⟨[(181,[(1,.ptr 0 0),(2,.val 5),(3,.val 54),(4,.val 0),(5,.ptr 1 0),(10,.ptr 2 0),(11,.val 0),(12,.val 0)]),(112,[(1,.val 38),(2,.ptr 3 0),(4,.ptr 4 0),(6,.val 5),(8,.ptr 0 0),(10,.val 5),(12,.val 0),(85,.val 30),(86,.ptr 0 0),(87,.val 5),(88,.val 30),(89,.val 38),(90,.val 5),(91,.val 0),(92,.val 54),(93,.val 0)])],[.box 68 [.val 0,.own 5,.own 6,.own 7],.box 36 [.val 30],.box 56 [.val 1],.box 36 [.val 30],.box 68 [.val 0,.own 8,.own 9,.own 10],.row 103 42,.row 73 44,.row 105 46,.row 103 42,.row 73 44,.row 105 46]⟩ (fun z=>z6x φ (fun a0 a1 a2 a3 a4 a5 a6 a7 a8 a9 a10 a11 a12 a13 a14 a15 a16 a17 a18 a19 a20 a21 a22 a23 a24 a25 a26=>zk62 (a0,a1,a2,a3,a4,a5,a6,a7,a8,a9,a10,a11,a12,a13,a14,a15,a16,a17,a18,a19,a20,a21,a22,a23,a24,a25,a26,())) z.1 z.2.1 z.2.2.1 z.2.2.2.1 z.2.2.2.2.1 z.2.2.2.2.2.1 z.2.2.2.2.2.2.1 z.2.2.2.2.2.2.2.1 z.2.2.2.2.2.2.2.2.1 z.2.2.2.2.2.2.2.2.2.1 z.2.2.2.2.2.2.2.2.2.2.1 z.2.2.2.2.2.2.2.2.2.2.2.1 z.2.2.2.2.2.2.2.2.2.2.2.2.1 z.2.2.2.2.2.2.2.2.2.2.2.2.2.1 z.2.2.2.2.2.2.2.2.2.2.2.2.2.2.1 z.2.2.2.2.2.2.2.2.2.2.2.2.2.2.2.1 z.2.2.2.2.2.2.2.2.2.2.2.2.2.2.2.2.1 z.2.2.2.2.2.2.2.2.2.2.2.2.2.2.2.2.2.1 z.2.2.2.2.2.2.2.2.2.2.2.2.2.2.2.2.2.2.1 z.2.2.2.2.2.2.2.2.2.2.2.2.2.2.2.2.2.2.2.1 z.2.2.2.2.2.2.2.2.2.2.2.2.2.2.2.2.2.2.2.2.1 z.2.2.2.2.2.2.2.2.2.2.2.2.2.2.2.2.2.2.2.2.2.1 z.2.2.2.2.2.2.2.2.2.2.2.2.2.2.2.2.2.2.2.2.2.2.1 z.2.2.2.2.2.2.2.2.2.2.2.2.2.2.2.2.2.2.2.2.2.2.2.1 z.2.2.2.2.2.2.2.2.2.2.2.2.2.2.2.2.2.2.2.2.2.2.2.2.1 z.2.2.2.2.2.2.2.2.2.2.2.2.2.2.2.2.2.2.2.2.2.2.2.2.2.1 z.2.2.2.2.2.2.2.2.2.2.2.2.2.2.2.2.2.2.2.2.2.2.2.2.2.2.1 z.2.2.2.2.2.2.2.2.2.2.2.2.2.2.2.2.2.2.2.2.2.2.2.2.2.2.2.1) (.seq .x .x)) .x))))) .x)))))))) .x)) .x)))))) .x))))))))
def zia (P:Program) (φ:Nat):Env TV:=⟨P,lk [(48,zdy φ),(49,zes φ),(52,zg3 φ),(79,zgq φ)],lk [],lk []⟩
theorem zyk (φ:Nat) (a) :(zj0 φ).F a=fnX TV (zia Tryz.prog φ) φ Tryz.f31 [30,38] [.val 48,.val 0] (zdi φ) a:=by kernel_rfl
theorem y0p (φ:Nat):fnO TV (zia Tryz.prog φ) φ Tryz.f31 [.val 48,.val 0] (zdi φ):=by
 unfold fnO
 show obl _ _ _ _ _ _ _
 unfold zdi
 repeat' (first | exact trivial |(refine⟨?_,?_⟩) |(intro _) | kernel_rfl)
theorem y0i (φ:Nat):zz TV Tryz.prog 31 (zj0 φ):=
 z01 (N:=zia Tryz.prog φ) (zh ⟨zsl φ,zsv φ,zv3 φ,zv8 φ,trivial⟩ trivial trivial) (zdi φ) Tryz.func31 (by kernel_rfl) (zyk φ) (y0p φ)
def zd0 (φ:Nat):H TV (RTup TT [.val 0]):=(.seq .x (.seq .x (.seq .x (.seq (.seq .x (.body (.loop ⟨[(56,[(0,.val 0),(1,.val 43),(5,.val 0)])],[]⟩ (fun n z=>z63 φ n z.1 z.2.1 z.2.2.1) (fun zk6=>.x)))) .x))))
def zht (P:Program) (φ:Nat):Env TV:=⟨P,lk [],lk [],lk []⟩
theorem y0b (φ:Nat) (a) :(zhu φ).F a=fnX TV (zht Tryz.prog φ) φ Tryz.f53 [0,43] [.val 0] (zd0 φ) a:=by kernel_rfl
theorem y0m (φ:Nat):fnO TV (zht Tryz.prog φ) φ Tryz.f53 [.val 0] (zd0 φ):=by
 unfold fnO
 show obl _ _ _ _ _ _ _
 unfold zd0
 repeat' (first | exact trivial |(refine⟨?_,?_⟩) |(intro _) | kernel_rfl)
theorem zz5 (φ:Nat):zz TV Tryz.prog 53 (zhu φ):=
 z01 (N:=zht Tryz.prog φ) (zh trivial trivial trivial) (zd0 φ) Tryz.func53 (by kernel_rfl) (y0b φ) (y0m φ)
def z8m (φ:Nat):H TV (RTup TT [.val 5,.val 5,.val 0]):=(.seq .x (.seq .x (.seq .x (.seq (.seq .x (.body (.loop ⟨[(80,[(0,.val 0),(1,.val 43),(7,.own 0),(8,.own 1),(9,.val 0)])],[.row 3 0,.row 3 0]⟩ (fun n z=>z41 φ n z.1 z.2.1 z.2.2.1 z.2.2.2.1 z.2.2.2.2.1) (fun zk8=>.x)))) (.seq .x (.seq (.seq .x (.body (.loop ⟨[(80,[(0,.val 0),(1,.val 43),(7,.own 0),(8,.own 1),(10,.val 0),(11,.val 0)])],[.row 3 0,.row 3 0]⟩ (fun n z=>z29 φ n z.1 z.2.1 z.2.2.1 z.2.2.2.1 z.2.2.2.2.1 z.2.2.2.2.2.1) (fun zk15=>(.seq .x (.seq (.body (.seq .x (.seq .x (.body (.loop ⟨[(80,[(0,.val 0),(1,.val 43),(7,.own 0),(8,.own 1),(10,.val 0),(11,.val 0),(12,.val 0)])],[.row 3 0,.row 3 0]⟩ (fun n z=>z1m φ (fun a0 a1 a2 a3 a4 a5=>zk15 (a0,a1,a2,a3,a4,a5,())) n z.1 z.2.1 z.2.2.1 z.2.2.2.1 z.2.2.2.2.1 z.2.2.2.2.2.1 z.2.2.2.2.2.2.1) (fun zk23=>.x)))))) .x)))))) .x))))))
def zeh (P:Program) (φ:Nat):Env TV:=⟨P,lk [],lk [],lk []⟩
theorem zss (φ:Nat) (a) :(zds φ).F a=fnX TV (zeh Tryz.prog φ) φ Tryz.f54 [0,43] [.val 5,.val 5,.val 0] (z8m φ) a:=by kernel_rfl
theorem zso (φ:Nat):fnO TV (zeh Tryz.prog φ) φ Tryz.f54 [.val 5,.val 5,.val 0] (z8m φ):=by
 unfold fnO
 show obl _ _ _ _ _ _ _
 unfold z8m
 repeat' (first | exact trivial |(refine⟨?_,?_⟩) |(intro _) | kernel_rfl)
theorem zs6 (φ:Nat):zz TV Tryz.prog 54 (zds φ):=
 z01 (N:=zeh Tryz.prog φ) (zh trivial trivial trivial) (z8m φ) Tryz.func54 (by kernel_rfl) (zss φ) (zso φ)
def zcv (φ:Nat):H TV (RTup TT [.val 5,.val 0]):=.x
def zhw (P:Program) (φ:Nat):Env TV:=⟨P,lk [(53,zhu φ),(54,zds φ)],lk [],lk []⟩
theorem zzr (φ:Nat) (a) :(zho φ).F a=fnX TV (zhw Tryz.prog φ) φ Tryz.f32 [0,43] [.val 5,.val 0] (zcv φ) a:=by kernel_rfl
theorem y0d (φ:Nat):fnO TV (zhw Tryz.prog φ) φ Tryz.f32 [.val 5,.val 0] (zcv φ):=by
 unfold fnO
 show obl _ _ _ _ _ _ _
 unfold zcv
 repeat' (first | exact trivial |(refine⟨?_,?_⟩) |(intro _) | kernel_rfl)
theorem zxb (φ:Nat):zz TV Tryz.prog 32 (zho φ):=
 z01 (N:=zhw Tryz.prog φ) (zh ⟨zz5 φ,zs6 φ,trivial⟩ trivial trivial) (zcv φ) Tryz.func32 (by kernel_rfl) (zzr φ) (y0d φ)
def z6i (φ:Nat):H TV (RTup TT [.val 2,.val 0]):=.x
def z95 (P:Program) (φ:Nat):Env TV:=⟨P,lk [(31,zj0 φ),(32,zho φ)],lk [],lk []⟩
theorem znv (φ:Nat) (a) :(z47 φ).F a=fnX TV (z95 Tryz.prog φ) φ Tryz.f13 [30,38] [.val 2,.val 0] (z6i φ) a:=by kernel_rfl
theorem zoi (φ:Nat):fnO TV (z95 Tryz.prog φ) φ Tryz.f13 [.val 2,.val 0] (z6i φ):=by
 unfold fnO
 show obl _ _ _ _ _ _ _
 unfold z6i
 repeat' (first | exact trivial |(refine⟨?_,?_⟩) |(intro _) | kernel_rfl)
theorem z97 (φ:Nat):zz TV Tryz.prog 13 (z47 φ):=
 z01 (N:=z95 Tryz.prog φ) (zh ⟨y0i φ,zxb φ,trivial⟩ trivial trivial) (z6i φ) Tryz.func13 (by kernel_rfl) (znv φ) (zoi φ)
def z8t (φ:Nat):H TV (RTup TT [.val 38]):=(.seq .x (.seq .x (.seq (.seq .x (.body (.loop ⟨[(32,[(0,.val 38),(1,.val 55),(5,.own 0),(6,.val 0)])],[.row 61 35]⟩ (fun n z=>z32 φ n z.1 z.2.1 z.2.2.1 z.2.2.2.1) (fun zk7=>.x)))) .x)))
def zem (P:Program) (φ:Nat):Env TV:=⟨P,lk [],lk [],lk []⟩
theorem zuk (φ:Nat) (a) :(z92 φ).F a=fnX TV (zem Tryz.prog φ) φ Tryz.f20 [38,55] [.val 38] (z8t φ) a:=by kernel_rfl
theorem zt1 (φ:Nat):fnO TV (zem Tryz.prog φ) φ Tryz.f20 [.val 38] (z8t φ):=by
 unfold fnO
 show obl _ _ _ _ _ _ _
 unfold z8t
 repeat' (first | exact trivial |(refine⟨?_,?_⟩) |(intro _) | kernel_rfl)
theorem zjx (φ:Nat):zz TV Tryz.prog 20 (z92 φ):=
 z01 (N:=zem Tryz.prog φ) (zh trivial trivial trivial) (z8t φ) Tryz.func20 (by kernel_rfl) (zuk φ) (zt1 φ)
def zfm (φ:Nat):H TV (RTup TT [.val 51,.val 0]):=(.seq .x (.seq .x (.seq .x (.seq .x (.seq (.seq .x (.body (.loop ⟨[(80,[(1,.val 38),(2,.ptr 0 0),(8,.own 1),(9,.val 0)])],[.box 36 [.val 30],.fix 4 2]⟩ (fun n z=>z5q φ n z.1 z.2.1 z.2.2.1 z.2.2.2.1) (fun zk8=>.x)))) (.seq (.seq .x (.body (.loop ⟨[(80,[(1,.val 38),(2,.ptr 0 0),(8,.own 1),(10,.val 0)])],[.box 36 [.val 30],.fix 4 2]⟩ (fun n z=>z4d φ n z.1 z.2.1 z.2.2.1 z.2.2.2.1) (fun zk13=>.x)))) (.seq .x (.seq (.seq .x (.body (.loop ⟨[(80,[(1,.val 38),(8,.own 0),(13,.own 1),(14,.val 0)])],[.fix 4 2,.row 56 1]⟩ (fun n z=>z3f φ n z.1 z.2.1 z.2.2.1 z.2.2.2.1) (fun zk20=>.x)))) .x))))))))
def zkn (P:Program) (φ:Nat):Env TV:=⟨P,lk [(13,z47 φ),(20,z92 φ)],lk [],lk []⟩
theorem y2r (φ:Nat) (a) :(zk0 φ).F a=fnX TV (zkn Tryz.prog φ) φ Tryz.f15 [30,38] [.val 51,.val 0] (zfm φ) a:=by kernel_rfl
theorem y4i (φ:Nat):fnO TV (zkn Tryz.prog φ) φ Tryz.f15 [.val 51,.val 0] (zfm φ):=by
 unfold fnO
 show obl _ _ _ _ _ _ _
 unfold zfm
 repeat' (first | exact trivial |(refine⟨?_,?_⟩) |(intro _) | kernel_rfl)
theorem y2q (φ:Nat):zz TV Tryz.prog 15 (zk0 φ):=
 z01 (N:=zkn Tryz.prog φ) (zh ⟨z97 φ,zjx φ,trivial⟩ trivial trivial) (zfm φ) Tryz.func15 (by kernel_rfl) (y2r φ) (y4i φ)
def z8v (φ:Nat):H TV (RTup TT [.val 2]):=.x
def zej (P:Program) (φ:Nat):Env TV:=⟨P,lk [(60,zar φ)],lk [],lk []⟩
theorem zue (φ:Nat) (a) :(zdz φ).F a=fnX TV (zej Tryz.prog φ) φ Tryz.f39 [38,0,0] [.val 2] (z8v φ) a:=by kernel_rfl
theorem zsj (φ:Nat):fnO TV (zej Tryz.prog φ) φ Tryz.f39 [.val 2] (z8v φ):=by
 unfold fnO
 show obl _ _ _ _ _ _ _
 unfold z8v
 repeat' (first | exact trivial |(refine⟨?_,?_⟩) |(intro _) | kernel_rfl)
theorem zt4 (φ:Nat):zz TV Tryz.prog 39 (zdz φ):=
 z01 (N:=zej Tryz.prog φ) (zh ⟨zmo φ,trivial⟩ trivial trivial) (z8v φ) Tryz.func39 (by kernel_rfl) (zue φ) (zsj φ)
def zch (φ:Nat):H TV (RTup TT [.val 5]):=(.seq .x (.seq .x (.seq (.seq .x (.body (.loop ⟨[(44,[(0,.val 38),(3,.own 0),(4,.val 0)])],[.row 3 0]⟩ (fun n z=>z2g φ n z.1 z.2.1 z.2.2.1) (fun zk5=>(.seq .x (.seq (.body (.seq .x (.seq (.body (.loop ⟨[(44,[(0,.val 38),(3,.own 0),(4,.val 0),(5,.val 0)])],[.row 3 0]⟩ (fun n z=>z3k φ (fun a0 a1 a2=>zk5 (a0,a1,a2,())) n z.1 z.2.1 z.2.2.1 z.2.2.2.1) (fun zk10=>.x))) (.seq (.frz [(3,none)] .x) .x)))) .x)))))) .x)))
def zil (P:Program) (φ:Nat):Env TV:=⟨P,lk [(39,zdz φ)],lk [],lk []⟩
theorem zzl (φ:Nat) (a) :(zj4 φ).F a=fnX TV (zil Tryz.prog φ) φ Tryz.f23 [38] [.val 5] (zch φ) a:=by kernel_rfl
theorem zyd (φ:Nat):fnO TV (zil Tryz.prog φ) φ Tryz.f23 [.val 5] (zch φ):=by
 unfold fnO
 show obl _ _ _ _ _ _ _
 unfold zch
 repeat' (first | exact trivial |(refine⟨?_,?_⟩) |(intro _) | kernel_rfl)
theorem zzh (φ:Nat):zz TV Tryz.prog 23 (zj4 φ):=
 z01 (N:=zil Tryz.prog φ) (zh ⟨zt4 φ,trivial⟩ trivial trivial) (zch φ) Tryz.func23 (by kernel_rfl) (zzl φ) (zyd φ)
def zfp (φ:Nat):H TV (RTup TT [.val 38,.val 0]):=(.seq .x (.seq .x (.seq .x (.seq .x (.seq .x (.seq (.seq .x (.body (.loop ⟨[(57,[(1,.val 38),(2,.ptr 0 0),(8,.val 5),(9,.own 1),(10,.val 0)])],[.box 36 [.val 30],.fix 4 2]⟩ (fun n z=>z4f φ n z.1 z.2.1 z.2.2.1 z.2.2.2.1 z.2.2.2.2.1) (fun zk10=>.x)))) .x))))))
def zlj (P:Program) (φ:Nat):Env TV:=⟨P,lk [(13,z47 φ),(23,zj4 φ),(20,z92 φ)],lk [],lk []⟩
theorem y1l (φ:Nat) (a) :(zkv φ).F a=fnX TV (zlj Tryz.prog φ) φ Tryz.f17 [30,38] [.val 38,.val 0] (zfp φ) a:=by kernel_rfl
theorem y2k (φ:Nat):fnO TV (zlj Tryz.prog φ) φ Tryz.f17 [.val 38,.val 0] (zfp φ):=by
 unfold fnO
 show obl _ _ _ _ _ _ _
 unfold zfp
 repeat' (first | exact trivial |(refine⟨?_,?_⟩) |(intro _) | kernel_rfl)
theorem y0v (φ:Nat):zz TV Tryz.prog 17 (zkv φ):=
 z01 (N:=zlj Tryz.prog φ) (zh ⟨z97 φ,zzh φ,zjx φ,trivial⟩ trivial trivial) (zfp φ) Tryz.func17 (by kernel_rfl) (y1l φ) (y2k φ)
def z0r (φ:Nat):H TV (RTup TT [.val 2]):=.x
def z21 (P:Program) (φ:Nat):Env TV:=⟨P,lk [(10,zkd φ),(11,zn5 φ),(12,z0t φ),(13,z47 φ),(14,z9a φ),(15,zk0 φ),(16,z9e φ),(17,zkv φ),(18,z87 φ),(19,zfv φ)],lk [],lk []⟩
theorem z9r (φ:Nat) (a) :(z0q φ).F a=fnX TV (z21 Tryz.prog φ) φ Tryz.f3 [30,38] [.val 2] (z0r φ) a:=by kernel_rfl
theorem z9s (φ:Nat):fnO TV (z21 Tryz.prog φ) φ Tryz.f3 [.val 2] (z0r φ):=by
 unfold fnO
 show obl _ _ _ _ _ _ _
 unfold z0r
 repeat' (first | exact trivial |(refine⟨?_,?_⟩) |(intro _) | kernel_rfl)
theorem z9u (φ:Nat):zz TV Tryz.prog 3 (z0q φ):=
 z01 (N:=z21 Tryz.prog φ) (zh ⟨y3p φ,y6u φ,z2l φ,z97 φ,zkg φ,y2q φ,zl8 φ,y0v φ,zj9 φ,zr9 φ,trivial⟩ trivial trivial) (z0r φ) Tryz.func3 (by kernel_rfl) (z9r φ) (z9s φ)
end Px
end
section
namespace Px
open Go
theorem z3z (φ:Nat) (a b c:Int):zt φ a b c=some (bet a b c,()):=rfl
def zmp (t:z1p):Bool:=
 bet t.load 0 1000000&&bet t.tare 0 1000000&&bet t.length 0 1000000&&bet t.brake 0 1000000&&bet t.gauge 0 7&&bet t.life 1 1073741824&&bet t.floor 0 100
def zg8 (n:Int) (w:zn7):Bool:=
 bet w.type_ 0 (n-1)&&bet w.owner 0 63&&bet w.home 0 511&&bet w.built 0 1073741824&&bet w.worth 0 1099511627776
def zo1 (n:Int) (s:Swap):Bool:=bet s.wanted 0 (n-1)&&bet s.given 0 (n-1)&&(s.wanted !=s.given)&&bet s.cost 0 1000000000
def y1k (w:Wash):Bool:=bet w.from_ 0 63&&bet w.to 0 63&&(w.from_ !=w.to)&&bet w.minutes 0 100000
def keyW (w:Wash):Int:=64*w.from_+w.to
def z4b (l:List Wash) (i:Nat):Bool:=y1k (gt l (i:Int))&&!(l.take i).any fun v=>keyW v==keyW (gt l (i:Int))
def z6j (l:List Wash):Bool:=(List.range l.length).all (z4b l)
def z5i (x:zbf):Int:=
 bif decide (32<x.types.length)||decide (4096<x.wagons.length)||decide (1024<x.swaps.length)||decide (4096<x.washes.length) then 2 else
 bif x.types.all zmp&&x.wagons.all (zg8 x.types.length)&&x.swaps.all (zo1 x.types.length)&&z6j x.washes then 0 else 1
theorem zas (p:Nat->Bool) (i:Nat) :(List.range (i+1)).all p =((List.range i).all p&&p i):=by
 rw [List.range_succ,List.all_append]; simp
theorem zqq (φ:Nat) (x:zbf) (hl:x.swaps.length<=1024) (ht:x.types.length<=32) :
  ∀ n s,x.swaps.length<n->z13 φ n x.swaps (x.swaps.length:Int) 0 x s=z00 φ φ x.washes (x.washes.length:Int) 0 (bif x.swaps.all (zo1 (x.types.length:Int)) then s else 1) (fun _=>default):=by
 have hp:W ((x.types.length:Int)-1) =(x.types.length:Int)-1:=W_id (by omega) (by omega)
 refine zs0 (fun n i s=>z13 φ n x.swaps (x.swaps.length:Int) i x s) (fun s=>z00 φ φ x.washes (x.washes.length:Int) 0 s (fun _=>default)) _ _ ?_ ?_
 ·intro n i s hi
  have hW:W ((i:Int)+1) =(i:Int)+1:=W_id (by omega) (by omega)
  rw [z13,if_pos (by simp; omega),z7 ⟨by omega,by omega⟩]
  simp only [z3z,Option.bind_some,zo1,zn,hW,hp]
  cases bet (gt x.swaps i).wanted 0 ((x.types.length:Int)-1) <;> cases bet (gt x.swaps i).given 0 ((x.types.length:Int)-1) <;> cases ((gt x.swaps i).wanted !=(gt x.swaps i).given) <;>
   cases bet (gt x.swaps i).cost 0 1000000000 <;> rfl
 ·intro n s
  rw [z13,if_neg (by simp)]
theorem znw (φ:Nat) (x:zbf) (hl:x.wagons.length<=4096) (ht:x.types.length<=32) :
  ∀ n s,x.wagons.length<n->z0n φ n x.wagons (x.wagons.length:Int) 0 x s=z13 φ φ x.swaps (x.swaps.length:Int) 0 x (bif x.wagons.all (zg8 (x.types.length:Int)) then s else 1):=by
 have hp:W ((x.types.length:Int)-1) =(x.types.length:Int)-1:=W_id (by omega) (by omega)
 refine zs0 (fun n i s=>z0n φ n x.wagons (x.wagons.length:Int) i x s) (fun s=>z13 φ φ x.swaps (x.swaps.length:Int) 0 x s) _ _ ?_ ?_
 ·intro n i s hi
  have hW:W ((i:Int)+1) =(i:Int)+1:=W_id (by omega) (by omega)
  rw [z0n,if_pos (by simp; omega),z7 ⟨by omega,by omega⟩]
  simp only [z3z,Option.bind_some,zg8,zn,hW,hp]
  cases bet (gt x.wagons i).type_ 0 ((x.types.length:Int)-1) <;> cases bet (gt x.wagons i).owner 0 63 <;> cases bet (gt x.wagons i).home 0 511 <;>
   cases bet (gt x.wagons i).built 0 1073741824 <;> cases bet (gt x.wagons i).worth 0 1099511627776 <;> rfl
 ·intro n s
  rw [z0n,if_neg (by simp)]
theorem zru (φ:Nat) (k:List z1p->Int->Int->zbf->Int->Option (Int×Unit)) (ts:List z1p) (len i:Int) (x:zbf) (t:z1p) (n:Nat) (s:Int) (hn:4<n) :
  z2r φ k n ts len i 4 0 x s t [t.load,t.tare,t.length,t.brake]=k ts len (W (i+1)) x (bif zmp t then s else 1):=by
 have h:=zs0 (fun n j s=>z2r φ k n ts len i 4 j x s t [t.load,t.tare,t.length,t.brake]) (fun s=>k ts len (W (i+1)) x (bif (bet t.gauge 0 7&&bet t.life 1 1073741824&&bet t.floor 0 100) then s else 1))
  [t.load,t.tare,t.length,t.brake] (fun a=>bet a 0 1000000) (fun n j s hi=>by
   rw [z2r,if_pos (by simp at hi ⊢; omega),z7 ⟨by omega,by omega⟩]
   simp at hi
   have hW:W ((j:Int)+1) =(j:Int)+1:=W_id (by omega) (by omega)
   simp only [z3z,Option.bind_some,hW]
   cases bet (gt [t.load,t.tare,t.length,t.brake] (j:Int)) 0 1000000 <;> rfl) (fun n s=>by
   rw [z2r,if_neg (by simp)]
   simp only [z3z,Option.bind_some,zn]
   cases bet t.gauge 0 7 <;> cases bet t.life 1 1073741824 <;> cases bet t.floor 0 100 <;> rfl) n s hn
 rw [h]
 simp only [zmp,List.all_cons,List.all_nil]
 cases bet t.load 0 1000000 <;> cases bet t.tare 0 1000000 <;> cases bet t.length 0 1000000 <;> cases bet t.brake 0 1000000 <;>
   cases bet t.gauge 0 7 <;> cases bet t.life 1 1073741824 <;> cases bet t.floor 0 100 <;> rfl
theorem zq8 (φ:Nat) (hφ:4<φ) (x:zbf) (hl:x.types.length<=32) :
  ∀ n s,x.types.length<n->z4k φ n x.types (x.types.length:Int) 0 x s=z0n φ φ x.wagons (x.wagons.length:Int) 0 x (bif x.types.all zmp then s else 1):=by
 refine zs0 (fun n i s=>z4k φ n x.types (x.types.length:Int) i x s) (fun s=>z0n φ φ x.wagons (x.wagons.length:Int) 0 x s) _ _ ?_ ?_
 ·intro n i s hi
  rw [z4k,if_pos (by simp; omega),z7 ⟨by omega,by omega⟩]
  have hW:W ((i:Int)+1) =(i:Int)+1:=W_id (by omega) (by omega)
  refine(zru φ _ x.types (x.types.length:Int) (i:Int) x (gt x.types i) φ s hφ).trans ?_
  rw [hW]
 ·intro n s
  rw [z4k,if_neg (by simp)]
theorem zov (φ:Nat) (x:zbf) (hl:x.washes.length<=4096) (n:Nat) (s:Int) (hn:x.washes.length<n) :
  z00 φ n x.washes (x.washes.length:Int) 0 s (fun _=>default)=some (bif z6j x.washes then s else 1,()):=by
 refine zi (fun n i (t:Int×(Nat->Bool))=>z00 φ n x.washes (x.washes.length:Int) i t.1 t.2) x.washes.length
  (fun i t=>t.1 =(bif (List.range i).all (z4b x.washes) then s else 1)/\((List.range i).all (z4b x.washes)=true->∀ j:Nat,t.2 j =(x.washes.take i).any fun v=>keyW v==(j:Int)))
  (fun o=>o=some (bif z6j x.washes then s else 1,())) ?_ ?_ n (s,fun _=>false) ⟨by simp,by simp⟩ hn
 ·intro n i t hi ⟨h1,h2⟩ hs
  have hW:W ((i:Int)+1) =(i:Int)+1:=W_id (by omega) (by omega)
  rw [z00,if_pos (by simp; omega),z7 ⟨by omega,by omega⟩]
  simp only [z3z,Option.bind_some,zn,hW]
  have hok:y1k (gt x.washes i) =(bet (gt x.washes i).from_ 0 63&&bet (gt x.washes i).to 0 63&&((gt x.washes i).from_ !=(gt x.washes i).to)&&bet (gt x.washes i).minutes 0 100000):=rfl
  have hsucc:=zas (z4b x.washes) i
  cases hw:y1k (gt x.washes i) with
  | false=>
   have hf :(List.range (i+1)).all (z4b x.washes)=false:=by rw [hsucc]; simp [z4b,hw]
   have h3:z00 φ n x.washes (x.washes.length:Int) ((i:Int)+1) 1 t.2=some (bif z6j x.washes then s else 1,()):=hs (1,t.2) ⟨by rw [hf]; rfl,by rw [hf]; intro h; cases h⟩
   rw [hw] at hok
   rw [<- h3]
   generalize bet (gt x.washes i).from_ 0 63=a at *; generalize bet (gt x.washes i).to 0 63=b at *; generalize ((gt x.washes i).from_ !=(gt x.washes i).to)=c at *; generalize bet (gt x.washes i).minutes 0 100000=d at *
   cases a <;> cases b <;> cases c <;> cases d <;> first |(exact absurd hok (by decide)) | rfl
  | true=>
   rw [hw] at hok
   have hb:=hok.symm
   simp only [Bool.and_eq_true] at hb
   obtain⟨⟨⟨b1,b2⟩,b3⟩,b4⟩:=hb
   have c1:=zug b1; have c2:=zug b2
   simp only [b1,b2,b3,b4,Bool.and_self,if_true,Option.bind_some,Bool.not_true,Bool.false_eq_true,if_false]
   rw [z7 ⟨by omega,by omega⟩,z7 ⟨by omega,by omega⟩]
   have hkey :((gt x.washes i).from_.toNat*64 +(gt x.washes i).to.toNat:Nat) =(keyW (gt x.washes i)).toNat:=by unfold keyW; omega
   have hk0 :((keyW (gt x.washes i)).toNat:Int)=keyW (gt x.washes i):=by unfold keyW; omega
   have key:∀ e,(e=bif (List.range (i+1)).all (z4b x.washes) then s else 1)->
     z00 φ n x.washes (x.washes.length:Int) ((i:Int)+1) e (upd t.2 (keyW (gt x.washes i)).toNat true)=some (bif z6j x.washes then s else 1,()):=by
    intro e he
    refine hs (e,_) ⟨he,fun hall j=>?_⟩
    rw [hsucc,Bool.and_eq_true] at hall
    rw [zj6 _ _ _ hi,<- h2 hall.1 j]
    show (if j =(keyW (gt x.washes i)).toNat then true else t.2 j)=_
    by_cases hj:j =(keyW (gt x.washes i)).toNat
    ·simp [hj,hk0]
    ·have :(keyW (gt x.washes i)==(j:Int))=false:=by
      simp; intro h; exact hj (by omega)
     simp [hj,this]
   have e64:∀(p:Prop) [Decidable p] (y:Option (Int×Unit)),p->ck p y=y:=fun p _ y hp=>z7 hp
   rw [hkey]
   simp only [e64 _ _ (show (0:Int)<=(gt x.washes i).from_/\(gt x.washes i).from_<64 by omega),e64 _ _ (show (0:Int)<=(gt x.washes i).to/\(gt x.washes i).to<64 by omega)]
   cases hall :(List.range i).all (z4b x.washes) with
   | true=>
    have hat:z4b x.washes i = !(t.2 (keyW (gt x.washes i)).toNat):=by
     rw [h2 hall]; simp only [z4b,hw,Bool.true_and,hk0]
    cases ht2:t.2 (keyW (gt x.washes i)).toNat with
    | true=>
     simp only [Bool.not_true,Bool.not_false,if_true]
     refine key 1 ?_
     rw [hsucc,hat,ht2]; simp
    | false=>
     simp only [Bool.not_true,Bool.not_false,Bool.false_eq_true,if_false]
     refine key t.1 ?_
     rw [hsucc,hat,ht2,h1,hall]; simp
   | false=>
    have hf :(List.range (i+1)).all (z4b x.washes)=false:=by rw [hsucc,hall]; rfl
    have ht1:t.1=1:=by rw [h1,hall]; rfl
    rw [ht1]
    split <;> exact key 1 (by rw [hf]; rfl)
 ·intro n t ⟨h1,_⟩
  rw [z00,if_neg (by simp),h1]; rfl
theorem zuz (φ:Nat) (hφ:5000<φ) (x:zbf):zih φ x=some (z5i x,()):=by
 have e :(((decide (32 <(x.types.length:Int))||decide (4096 <(x.wagons.length:Int)))||decide (1024 <(x.swaps.length:Int)))||decide (4096 <(x.washes.length:Int))) =
   (decide (32<x.types.length)||decide (4096<x.wagons.length)||decide (1024<x.swaps.length)||decide (4096<x.washes.length)):=by
  congr 1
  ·congr 1
   ·congr 1 <;>(apply decide_eq_decide.2; omega)
   ·apply decide_eq_decide.2; omega
  ·apply decide_eq_decide.2; omega
 unfold zih z5i
 rw [e]
 cases h :(decide (32<x.types.length)||decide (4096<x.wagons.length)||decide (1024<x.swaps.length)||decide (4096<x.washes.length)) with
 | true=>rfl
 | false=>
  simp only [Bool.or_eq_false_iff,decide_eq_false_iff_not,Nat.not_lt] at h
  obtain⟨⟨⟨h1,h2⟩,h3⟩,h4⟩:=h
  rw [if_neg (by simp),zq8 φ (by omega) x h1 _ _ (by omega),znw _ _ h2 h1 _ _ (by omega),zqq _ _ h3 h1 _ _ (by omega),zov _ _ h4 _ _ (by omega)]
  cases x.types.all zmp <;> cases x.wagons.all (zg8 x.types.length) <;> cases x.swaps.all (zo1 x.types.length) <;> cases z6j x.washes <;> rfl
theorem z6t {x:zbf} (h:z5i x=0):x.types.length<=32/\x.wagons.length<=4096/\x.swaps.length<=1024/\x.washes.length<=4096/\
  (∀ t∈x.types,zmp t=true)/\(∀ t∈x.wagons,zg8 x.types.length t=true)/\(∀ t∈x.swaps,zo1 x.types.length t=true)/\z6j x.washes=true:=by
 unfold z5i at h
 cases h1 :(decide (32<x.types.length)||decide (4096<x.wagons.length)||decide (1024<x.swaps.length)||decide (4096<x.washes.length)) with
 | true=>rw [h1] at h; cases h
 | false=>
  rw [h1] at h
  simp only [Bool.or_eq_false_iff,decide_eq_false_iff_not,Nat.not_lt] at h1
  obtain⟨⟨⟨a1,a2⟩,a3⟩,a4⟩:=h1
  cases h2 :(x.types.all zmp&&x.wagons.all (zg8 x.types.length)&&x.swaps.all (zo1 x.types.length)&&z6j x.washes) with
  | false=>rw [h2] at h; cases h
  | true=>
   simp only [Bool.and_eq_true,List.all_eq_true] at h2
   exact⟨a1,a2,a3,a4,h2.1.1.1,h2.1.1.2,h2.1.2,h2.2⟩
end Px
end
section
namespace Px
open Go
theorem zah {c:Int} (h:0<=c) (h':c<18446744073709551616) :(BitVec.ofInt 64 c).toNat=c.toNat:=by
 rw [BitVec.toNat_ofInt]; omega
theorem yof {n:Nat} (h:n<18446744073709551616):U (n:Int)=n:=U_id (by omega) (by omega)
theorem yl8 {a b:Nat} (h:a<18446744073709551616):a&&& b<18446744073709551616:=Nat.lt_of_le_of_lt Nat.and_le_left h
theorem ygl {k:Nat} (h:k<=63) :(2 ^ k:Nat)<18446744073709551616:=Nat.lt_of_lt_of_le (Nat.pow_lt_pow_right (by decide) (by omega:k<64)) (by decide)
theorem yqa {c k:Int} (h:0<=c) (hk:0<=k) (hk':k<=63):c.fdiv (2 ^ (min (k:Int).toNat (IntKind.bits .u64))) =((c.toNat / 2 ^ k.toNat:Nat):Int):=by
 have e:min (k:Int).toNat (IntKind.bits .u64)=k.toNat:=by simp [IntKind.bits]; omega
 rw [e]
 have e2 :((2:Int) ^ k.toNat) =((2 ^ k.toNat:Nat):Int):=by simp
 rw [e2,Int.fdiv_eq_ediv_of_nonneg _ (Int.natCast_nonneg _)]
 have:c =(c.toNat:Int):=by omega
 rw [this]; simp
end Px
end
section
namespace Px
open Go
set_option maxRecDepth 100000
theorem yaz :((List.range 256).all fun i=>decide (0<=z54 z03 i/\z54 z03 i<=8/\i<2 ^ (z54 z03 i).toNat/\(0<i->0<z54 z03 i/\2 ^ ((z54 z03 i).toNat-1)<=i)))=true:=by decide +kernel
theorem zsn {i:Int} (h:0<=i) (h':i<256):∃ n:Nat,z54 z03 i=n/\n<=8/\i.toNat<2 ^ n/\(0<i->0<n/\2 ^ (n-1)<=i.toNat):=by
 have:=List.all_eq_true.1 yaz i.toNat (by simp; omega)
 rw [decide_eq_true_eq,show ((i.toNat:Nat):Int)=i by omega] at this
 obtain⟨a,b,c,d⟩:=this
 exact⟨(z54 z03 i).toNat,by omega,by omega,c,fun hi=>⟨by have:=(d (by omega)).1; omega,(d (by omega)).2⟩⟩
def z9t (v:Nat) (n:Nat):Prop:=v<2 ^ n/\(0<v->0<n/\2 ^ (n-1)<=v)
theorem z9t.up {v:Nat} (k:Nat) {n:Nat} (h:z9t (v / 2 ^ k) n) (hv:2 ^ k<=v):z9t v (n+k):=by
 have hp:=Nat.two_pow_pos k
 have hpos:0<v / 2 ^ k:=Nat.div_pos hv hp
 obtain⟨h1,h2⟩:=h
 obtain⟨h3,h4⟩:=h2 hpos
 refine⟨?_,fun _=>⟨by omega,?_⟩⟩
 ·rw [Nat.pow_add]; exact(Nat.div_lt_iff_lt_mul hp).1 h1
 ·have:n+k-1 =(n-1)+k:=by omega
  rw [this,Nat.pow_add]; exact(Nat.le_div_iff_mul_le hp).1 h4
theorem yft (φ:Nat) (v w:Int) (h:0<=v) (h':v<256) (hw:0<=w) (hw':w<=64):∃ n:Nat,z1v φ v w=some (64 -(w+n),())/\n<=8/\z9t v.toNat n:=by
 obtain⟨n,e,hn,a,b⟩:=zsn h h'
 have e8:IntKind.wrap .u8 v=v:=by simp [IntKind.wrap,IntKind.bits,IntKind.signed]; omega
 refine⟨n,?_,hn,a,fun hv=>b (by omega)⟩
 unfold z1v
 rw [e8,z7 ⟨h,h'⟩,e,W_id (x:=(n:Int)) (by omega) (by omega),W_id (x:=w+n) (by omega) (by omega),W_id (by omega) (by omega)]
theorem sh8 (v:Int):v.fdiv (2 ^ (min (8:Int).toNat 64))=v / 256:=by rw [show ((2:Int) ^ (min (8:Int).toNat 64))=256 by decide]; exact Int.fdiv_eq_ediv_of_nonneg _ (by omega)
theorem sh16 (v:Int):v.fdiv (2 ^ (min (16:Int).toNat 64))=v / 65536:=by rw [show ((2:Int) ^ (min (16:Int).toNat 64))=65536 by decide]; exact Int.fdiv_eq_ediv_of_nonneg _ (by omega)
theorem sh32 (v:Int):v.fdiv (2 ^ (min (32:Int).toNat 64))=v / 4294967296:=by rw [show ((2:Int) ^ (min (32:Int).toNat 64))=4294967296 by decide]; exact Int.fdiv_eq_ediv_of_nonneg _ (by omega)
theorem yl7 (φ:Nat) (v w:Int) (h:0<=v) (h':v<65536) (hw:0<=w) (hw':w<=48):∃ n:Nat,z24 φ v w=some (64 -(w+n),())/\n<=16/\z9t v.toNat n:=by
 unfold z24
 by_cases c:256<=v
 ·rw [if_pos (by simpa using c),if_pos (by decide),sh8,W_id (by omega) (by omega)]
  obtain⟨n,e,hn,hl⟩:=yft φ (v / 256) (w+8) (by omega) (by omega) (by omega) (by omega)
  refine⟨n+8,by rw [e]; congr 2; omega,by omega,?_⟩
  refine z9t.up 8 ?_ (by omega)
  rwa [show v.toNat / 2 ^ 8 =(v / 256).toNat by omega]
 ·rw [if_neg (by simpa using c)]
  obtain⟨n,e,hn,hl⟩:=yft φ v w h (by omega) (by omega) (by omega)
  exact⟨n,e,by omega,hl⟩
theorem yke (φ:Nat) (v w:Int) (h:0<=v) (h':v<4294967296) (hw:0<=w) (hw':w<=32):∃ n:Nat,z26 φ v w=some (64 -(w+n),())/\n<=32/\z9t v.toNat n:=by
 unfold z26
 by_cases c:65536<=v
 ·rw [if_pos (by simpa using c),if_pos (by decide),sh16,W_id (by omega) (by omega)]
  obtain⟨n,e,hn,hl⟩:=yl7 φ (v / 65536) (w+16) (by omega) (by omega) (by omega) (by omega)
  refine⟨n+16,by rw [e]; congr 2; omega,by omega,?_⟩
  refine z9t.up 16 ?_ (by omega)
  rwa [show v.toNat / 2 ^ 16 =(v / 65536).toNat by omega]
 ·rw [if_neg (by simpa using c)]
  obtain⟨n,e,hn,hl⟩:=yl7 φ v w h (by omega) (by omega) (by omega)
  exact⟨n,e,by omega,hl⟩
theorem yr6 (φ:Nat) (v:Int) (h:0<=v) (h':v<18446744073709551616):∃ n:Nat,z3t φ v=some (64 -(n:Int),())/\n<=64/\z9t v.toNat n:=by
 unfold z3t
 by_cases c:4294967296<=v
 ·rw [if_pos (by simpa using c),if_pos (by decide),sh32]
  obtain⟨n,e,hn,hl⟩:=yke φ (v / 4294967296) 32 (by omega) (by omega) (by omega) (by omega)
  refine⟨n+32,by rw [e]; congr 2; omega,by omega,?_⟩
  refine z9t.up 32 ?_ (by omega)
  rwa [show v.toNat / 2 ^ 32 =(v / 4294967296).toNat by omega]
 ·rw [if_neg (by simpa using c)]
  obtain⟨n,e,hn,hl⟩:=yke φ v 0 h (by omega) (by omega) (by omega)
  exact⟨n,by rw [e]; simp,by omega,hl⟩
theorem zuj {v:Int} (h:0<=v) (h':v<18446744073709551616):U ((BitVec.ofInt 64 v&&& BitVec.ofInt 64 4294967295).toNat)=v % 4294967296:=by
 show U ((BitVec.ofInt 64 v&&& BitVec.ofInt 64 4294967295).toNat:Int)=_
 rw [BitVec.toNat_and,zah h h',zah (by omega) (by omega),yof (yl8 (by omega))]
 have :(4294967295:Int).toNat=2 ^ 32-1:=by decide
 rw [this,Nat.and_two_pow_sub_one_eq_mod]
 omega
theorem zt3 {a b m n:Int} (ha:0<=a) (hb:0<=b) (h:a<=m) (h':b<=n):0<=a*b/\a*b<=m*n:=
 ⟨Int.mul_nonneg ha hb,Int.mul_le_mul h h' hb (by omega)⟩
theorem y95 (φ:Nat) (x y:Int) (hx:0<=x) (hx':x<18446744073709551616) (hy:0<=y) (hy':y<18446744073709551616) :
  z8f φ x y=some (x*y / 18446744073709551616,x*y % 18446744073709551616,()):=by
 unfold z8f
 simp only [show (0:Int)<=32 by decide,if_true]
 rw [zuj hx hx',zuj hy hy']
 simp only [sh32]
 have ex:x=x / 4294967296*4294967296+x % 4294967296:=by omega
 have ey:y=y / 4294967296*4294967296+y % 4294967296:=by omega
 have a1:0<=x / 4294967296/\x / 4294967296<=4294967295:=by omega
 have a0:0<=x % 4294967296/\x % 4294967296<=4294967295:=by omega
 have b1:0<=y / 4294967296/\y / 4294967296<=4294967295:=by omega
 have b0:0<=y % 4294967296/\y % 4294967296<=4294967295:=by omega
 have hxy:x*y =(x / 4294967296) *(y / 4294967296)*18446744073709551616 +((x / 4294967296) *(y % 4294967296) +(x % 4294967296) *(y / 4294967296))*4294967296 +(x % 4294967296) *(y % 4294967296):=by
  conv=>lhs; rw [ex,ey]
  generalize x / 4294967296=a; generalize x % 4294967296=b; generalize y / 4294967296=c; generalize y % 4294967296=d
  rw [Int.add_mul,Int.mul_add,Int.mul_add,Int.add_mul]
  have e1:a*4294967296 *(c*4294967296)=a*c*18446744073709551616:=by
   rw [Int.mul_assoc,Int.mul_left_comm 4294967296 c,<- Int.mul_assoc]; rfl
  have e2:a*4294967296*d=a*d*4294967296:=by rw [Int.mul_right_comm]
  have e3:b *(c*4294967296)=b*c*4294967296:=by rw [Int.mul_assoc]
  rw [e1,e2,e3]; omega
 have p11:=zt3 a1.1 b1.1 a1.2 b1.2
 have p10:=zt3 a1.1 b0.1 a1.2 b0.2
 have p01:=zt3 a0.1 b1.1 a0.2 b1.2
 have p00:=zt3 a0.1 b0.1 a0.2 b0.2
 rw [ybo (x*y),hxy]
 generalize (x / 4294967296) *(y / 4294967296)=p at *; generalize (x / 4294967296) *(y % 4294967296)=q at *
 generalize (x % 4294967296) *(y / 4294967296)=r at *; generalize (x % 4294967296) *(y % 4294967296)=s at *
 clear hxy ex ey a1 a0 b1 b0
 rw [U_id (x:=p) (by omega) (by omega),U_id (x:=q) (by omega) (by omega),U_id (x:=r) (by omega) (by omega),U_id (x:=s) (by omega) (by omega)]
 rw [U_id (x:=q+s / 4294967296) (by omega) (by omega),zuj (by omega) (by omega),
  U_id (x:=(q+s / 4294967296) % 4294967296+r) (by omega) (by omega),U_id (x:=p +(q+s / 4294967296) / 4294967296) (by omega) (by omega),U_id (by omega) (by omega)]
 refine congrArg some (Prod.ext ?_ rfl)
 show _=_
 omega
theorem yqc {yn1 yn0 u d q r:Int} (h1:2147483648<=yn1) (h1':yn1<4294967296) (h0:0<=yn0) (h0':yn0<4294967296) (hd:0<=d) (hd':d<4294967296) (hu:0<=u)
  (hu':u<yn1*4294967296+yn0) (hqr:q*yn1+r=u) (hr:0<=r) (hr':r<4294967296) (hq :(u*4294967296+d) /(yn1*4294967296+yn0)<=q) :
  0<=q/\q<=4294967297/\0<=(u*4294967296+d) /(yn1*4294967296+yn0)/\(u*4294967296+d) /(yn1*4294967296+yn0)<4294967296/\
  (4294967296<=q\/4294967296*r+d<q*yn0->(u*4294967296+d) /(yn1*4294967296+yn0)<=q-1)/\
  (¬(4294967296<=q\/4294967296*r+d<q*yn0)->q =(u*4294967296+d) /(yn1*4294967296+yn0))/\
  (4294967296<=q\/4294967296*r+d<q*yn0->4294967296<=r+yn1->q-1 =(u*4294967296+d) /(yn1*4294967296+yn0)):=by
 have hY:0<yn1*4294967296+yn0:=by omega
 have hQ0:0<=(u*4294967296+d) /(yn1*4294967296+yn0):=Int.ediv_nonneg (by omega) (by omega)
 have hQ1 :(u*4294967296+d) /(yn1*4294967296+yn0)<4294967296:=Int.ediv_lt_of_lt_mul hY (by omega)
 have hq0:0<=q:=by omega
 have key:q *(yn1*4294967296+yn0) =(u-r)*4294967296+q*yn0:=by
  rw [Int.mul_add,<- Int.mul_assoc,<- hqr]; omega
 have hq2:q<=4294967297:=by
  rcases Int.lt_or_le 4294967297 q with h | h
  ·have:4294967298*yn1<=q*yn1:=Int.mul_le_mul_of_nonneg_right (by omega) (by omega)
   omega
  ·exact h
 have lt_of:∀ {z:Int},(u*4294967296+d) /(yn1*4294967296+yn0)<z↔u*4294967296+d<z *(yn1*4294967296+yn0):=fun {z}=>Int.ediv_lt_iff_lt_mul hY
 refine⟨hq0,hq2,hQ0,hQ1,fun h=>?_,fun h=>?_,fun h hr2=>?_⟩
 ·have :(u*4294967296+d) /(yn1*4294967296+yn0)<q:=by
   rcases h with h | h
   ·omega
   ·rw [lt_of,key]; omega
  omega
 ·have:¬(u*4294967296+d) /(yn1*4294967296+yn0)<q:=by rw [lt_of,key]; omega
  omega
 ·have hq1 :(u*4294967296+d) /(yn1*4294967296+yn0)<q:=by
   rcases h with h | h
   ·omega
   ·rw [lt_of,key]; omega
  have h2:¬(u*4294967296+d) /(yn1*4294967296+yn0)<q-1:=by
   rw [lt_of]
   have e :(q-1) *(yn1*4294967296+yn0) =(u -(r+yn1))*4294967296 +(q-1)*yn0:=by
    have :(q-1)*yn1 +(r+yn1)=u:=by rw [Int.sub_mul]; omega
    rw [Int.mul_add,<- Int.mul_assoc,<- this]; omega
   have b:=(zt3 (by omega:0<=q-1) h0 (by omega:q-1<=4294967296) (by omega:yn0<=4294967295)).2
   rw [e]; omega
  omega
theorem mulB {a b:Int} (h:0<=a) (h':a<4294967296) (g:0<=b) (g':b<4294967296):0<=a*b/\a*b<=18446744065119617025:=
 zt3 h g (by omega:a<=4294967295) (by omega:b<=4294967295)
theorem zwo {ρ:Type} (L:Nat->Int->Int->Option ρ) (k:Int->Option ρ) {yn1 yn0 u d:Int} (h1:2147483648<=yn1) (h1':yn1<4294967296) (h0:0<=yn0) (h0':yn0<4294967296) (hd:0<=d) (hd':d<4294967296) (hu:0<=u)
  (hu':u<yn1*4294967296+yn0)
  (step:∀ n q r,L (n+1) q r=if(decide (4294967296<=q)||decide (U (U (4294967296*r)+d)<U (q*yn0)))=true then(if decide (4294967296<=U (r+yn1))=true then k (U (q-1)) else L n (U (q-1)) (U (r+yn1))) else k q) :
  ∀(n:Nat) q r,q*yn1+r=u->0<=r->r<4294967296->(u*4294967296+d) /(yn1*4294967296+yn0)<=q->4294967296-r<=2147483648*n->L (n+1) q r=k ((u*4294967296+d) /(yn1*4294967296+yn0)):=by
 intro n
 induction n with
 | zero=>intro q r _ _ _ _ h; omega
 | succ n ih=>
  intro q r hqr hr hr' hq hn
  obtain⟨g0,g1,g2,g3,g4,g5,g6⟩:=yqc h1 h1' h0 h0' hd hd' hu hu' hqr hr hr' hq
  have hc :(decide (4294967296<=q)||decide (U (U (4294967296*r)+d)<U (q*yn0)))=true↔(4294967296<=q\/4294967296*r+d<q*yn0):=by
   rw [Bool.or_eq_true,decide_eq_true_eq,decide_eq_true_eq]
   by_cases hqB:4294967296<=q
   ·simp [hqB]
   ·have:=mulB g0 (by omega:q<4294967296) h0 h0'
    rw [U_id (x:=4294967296*r) (by omega) (by omega),U_id (by omega) (by omega),U_id (by omega) (by omega)]
  rw [step]
  by_cases c:4294967296<=q\/4294967296*r+d<q*yn0
  ·have a4:=g4 c
   rw [if_pos (hc.2 c),U_id (x:=r+yn1) (by omega) (by omega),U_id (x:=q-1) (by omega) (by omega)]
   by_cases e:4294967296<=r+yn1
   ·rw [if_pos (by simpa using e),g6 c e]
   ·rw [if_neg (by simpa using e)]
    exact ih _ _ (by rw [Int.sub_mul]; omega) (by omega) (by omega) a4 (by omega)
  ·rw [if_neg (fun h=>c (hc.1 h)),<- g5 c]
theorem ztl {yn1 yn0 u d:Int} (h1:2147483648<=yn1) (h1':yn1<4294967296) (h0:0<=yn0) (h0':yn0<4294967296) (hd:0<=d) (hd':d<4294967296) (hu:0<=u)
  (hu':u<yn1*4294967296+yn0):U (u.tdiv yn1)=u / yn1/\U (u-U (U (u.tdiv yn1)*yn1))=u % yn1/\u / yn1*yn1+u % yn1=u/\0<=u % yn1/\u % yn1<4294967296/\
  (u*4294967296+d) /(yn1*4294967296+yn0)<=u / yn1:=by
 have e1:u.tdiv yn1=u / yn1:=Int.tdiv_eq_ediv_of_nonneg hu
 have hdm:u / yn1*yn1+u % yn1=u:=by have:=Int.ediv_mul_add_emod u yn1; exact this
 have hm0:=Int.emod_nonneg u (by omega:yn1≠0)
 have hm1:=Int.emod_lt_of_pos u (by omega:0<yn1)
 have hq0:0<=u / yn1:=Int.ediv_nonneg hu (by omega)
 have hq1:u / yn1<=u:=Int.ediv_le_self _ hu
 have hqm:0<=u / yn1*yn1:=Int.mul_nonneg hq0 (by omega)
 rw [e1,U_id hq0 (by omega),U_id (x:=u / yn1*yn1) (by omega) (by omega),U_id (by omega) (by omega)]
 refine⟨rfl,by omega,hdm,hm0,by omega,?_⟩
 have hY:0<yn1*4294967296+yn0:=by omega
 have hQ0:0<=(u*4294967296+d) /(yn1*4294967296+yn0):=Int.ediv_nonneg (by omega) (by omega)
 have hQ:=Int.ediv_mul_le (u*4294967296+d) (b:=yn1*4294967296+yn0) (by omega)
 generalize (u*4294967296+d) /(yn1*4294967296+yn0)=z at *
 rw [Int.mul_add,<- Int.mul_assoc] at hQ
 have:=Int.mul_nonneg hQ0 h0
 exact(Int.le_ediv_iff_mul_le (by omega)).2 (by omega)
theorem ykk (a b c:Int):U (U (U a+b)-U c)=U (a+b-c):=by
 simp only [ybo]; omega
theorem yp4 {a b:Int} {s:Nat} (hs:s<=63) (ha:0<=a) (h:a*2 ^ s<18446744073709551616) (hb:0<=b) (hb':b<2 ^ s) :
  U ((BitVec.ofInt 64 (U (a*2 ^ s))||| BitVec.ofInt 64 b).toNat)=a*2 ^ s+b:=by
 have hp :(0:Int)<2 ^ s:=Int.pow_pos (by decide)
 have hn:=Int.mul_nonneg ha (Int.le_of_lt hp)
 have hp2 :(2:Int) ^ s =((2 ^ s:Nat):Int):=by simp
 have hlt :(2 ^ s:Nat)<18446744073709551616:=ygl hs
 rw [U_id hn (by omega)]
 show U ((BitVec.ofInt 64 (a*2 ^ s)||| BitVec.ofInt 64 b).toNat:Int)=_
 have hlt2:=(BitVec.ofInt 64 (a*2 ^ s)||| BitVec.ofInt 64 b).isLt
 rw [yof (by omega),BitVec.toNat_or,zah hn h,zah hb (by omega)]
 obtain⟨n,rfl⟩:=Int.eq_ofNat_of_zero_le ha
 obtain⟨m,rfl⟩:=Int.eq_ofNat_of_zero_le hb
 have e :((n:Int)*2 ^ s).toNat=2 ^ s*n:=by rw [hp2,<- Int.natCast_mul,Int.toNat_natCast,Nat.mul_comm]
 rw [e,Int.toNat_natCast,<- Nat.two_pow_add_eq_or_of_lt (by rw [hp2] at hb'; omega)]
 simp [Int.mul_comm]
theorem zqr (φ:Nat) (v:Int) (h:0<v) (h':v<18446744073709551616):∃ s:Nat,z3t φ v=some ((s:Int),())/\s<=63/\
  9223372036854775808<=v*2 ^ s/\v*2 ^ s<18446744073709551616/\v<=2 ^ (64-s):=by
 obtain⟨n,e,hn,h1,h2⟩:=yr6 φ v (by omega) h'
 obtain⟨h3,h4⟩:=h2 (by omega)
 refine⟨64-n,?_,by omega,?_,?_,?_⟩
 ·rw [e]; congr 2; omega
 ·have:2 ^ (n-1)*2 ^ (64-n)<=v.toNat*2 ^ (64-n):=Nat.mul_le_mul_right _ h4
  rw [<- Nat.pow_add,show n-1 +(64-n)=63 by omega] at this
  have e2 :((v.toNat*2 ^ (64-n):Nat):Int)=v*2 ^ (64-n):=by
   rw [Int.natCast_mul,Int.natCast_pow]; congr 1; omega
  omega
 ·have:v.toNat*2 ^ (64-n)<2 ^ n*2 ^ (64-n):=Nat.mul_lt_mul_of_pos_right h1 (Nat.two_pow_pos _)
  rw [<- Nat.pow_add,show n +(64-n)=64 by omega] at this
  have e2 :((v.toNat*2 ^ (64-n):Nat):Int)=v*2 ^ (64-n):=by
   rw [Int.natCast_mul,Int.natCast_pow]; congr 1; omega
  omega
 ·rw [show 64 -(64-n)=n by omega]
  have e2 :((2 ^ n:Nat):Int) =(2:Int) ^ n:=by simp
  omega
theorem yip (φ:Nat) (hφ:5<φ) (hi lo y:Int) (h0:0<=hi) (hy:hi<y) (hy':y<18446744073709551616) (hl:0<=lo) (hl':lo<18446744073709551616) :
  z8g φ hi lo y=some ((hi*18446744073709551616+lo) / y,(hi*18446744073709551616+lo) % y,()):=by
 unfold z8g
 rw [if_neg (by simp; omega),if_neg (by simp; omega)]
 by_cases hz:hi=0
 ·subst hz
  rw [if_pos (by simp),z7 (by omega),z7 (by omega),Int.tdiv_eq_ediv_of_nonneg hl,Int.tmod_eq_emod_of_nonneg hl,U_id (Int.ediv_nonneg hl (by omega)) (by have:=Int.ediv_le_self y hl; omega)]
  simp
 rw [if_neg (by simpa using hz)]
 obtain⟨s,es,hs,hY1,hY2,hyP⟩:=zqr φ y (by omega) hy'
 have em1:min (s:Int).toNat 64=s:=by omega
 have em2:min (64 -(s:Int)).toNat 64=64-s:=by omega
 have hp :(0:Int)<2 ^ s:=Int.pow_pos (by decide)
 have hP :(0:Int)<2 ^ (64-s):=Int.pow_pos (by decide)
 have hpP :(2:Int) ^ s*2 ^ (64-s)=18446744073709551616:=by rw [<- Int.pow_add,show s +(64-s)=64 by omega]; rfl
 have hhp:hi*2 ^ s<y*2 ^ s:=Int.mul_lt_mul_of_pos_right hy hp
 have hlP0:0<=lo / 2 ^ (64-s):=Int.ediv_nonneg hl (by omega)
 have hlP1:lo / 2 ^ (64-s)<2 ^ s:=Int.ediv_lt_of_lt_mul hP (by omega)
 have hh0:0<=hi*2 ^ s:=Int.mul_nonneg h0 (by omega)
 -- the low word
 have hlo10:U (lo*2 ^ s)=lo % 2 ^ (64-s)*2 ^ s:=by
  have e:lo=lo / 2 ^ (64-s)*2 ^ (64-s)+lo % 2 ^ (64-s):=(Int.ediv_mul_add_emod lo _).symm
  have e2:lo*2 ^ s=lo / 2 ^ (64-s)*18446744073709551616+lo % 2 ^ (64-s)*2 ^ s:=by
   conv=>lhs; rw [e]
   rw [Int.add_mul,Int.mul_assoc,Int.mul_comm (2 ^ (64-s)),hpP]
  have m0:=Int.emod_nonneg lo (by omega :(2:Int) ^ (64-s)≠0)
  have m1:=Int.emod_lt_of_pos lo hP
  have m2:lo % 2 ^ (64-s)*2 ^ s<2 ^ (64-s)*2 ^ s:=Int.mul_lt_mul_of_pos_right m1 hp
  have m3:=Int.mul_nonneg m0 (Int.le_of_lt hp)
  rw [Int.mul_comm (2 ^ (64-s))] at m2
  rw [e2,ybo]; omega
 have hN :(hi*2 ^ s+lo / 2 ^ (64-s))*18446744073709551616+lo % 2 ^ (64-s)*2 ^ s =(hi*18446744073709551616+lo)*2 ^ s:=by
  have e:lo=lo / 2 ^ (64-s)*2 ^ (64-s)+lo % 2 ^ (64-s):=(Int.ediv_mul_add_emod lo _).symm
  have e2:lo*2 ^ s=lo / 2 ^ (64-s)*18446744073709551616+lo % 2 ^ (64-s)*2 ^ s:=by
   conv=>lhs; rw [e]
   rw [Int.add_mul,Int.mul_assoc,Int.mul_comm (2 ^ (64-s)),hpP]
  have e3 :(hi*18446744073709551616+lo)*2 ^ s=hi*2 ^ s*18446744073709551616+lo*2 ^ s:=by rw [Int.add_mul,Int.mul_right_comm]
  rw [e3,e2]; omega
 have hun0:0<=lo % 2 ^ (64-s)*2 ^ s:=Int.mul_nonneg (Int.emod_nonneg lo (by omega)) (by omega)
 have hun1:lo % 2 ^ (64-s)*2 ^ s<18446744073709551616:=by
  rw [<- hlo10,ybo]; omega
 have hu':hi*2 ^ s+lo / 2 ^ (64-s)<y*2 ^ s:=by
  have :(hi+1)*2 ^ s<=y*2 ^ s:=Int.mul_le_mul_of_nonneg_right (by omega) (by omega)
  rw [Int.add_mul] at this; omega
 have hs1:U (s:Int)=s:=U_id (by omega) (by omega)
 have hs2:U (64 -(s:Int))=64 -(s:Int):=U_id (by omega) (by omega)
 have ef:lo.fdiv (2 ^ (64-s))=lo / 2 ^ (64-s):=Int.fdiv_eq_ediv_of_nonneg _ (by omega)
 have eor:=yp4 hs h0 (by omega:hi*2 ^ s<18446744073709551616) hlP0 hlP1
 obtain⟨Y,hYd⟩:∃ Y,Y=y*2 ^ s:=⟨_,rfl⟩
 have eY:U (y*2 ^ s)=Y:=by rw [hYd]; exact U_id (by omega) (by omega)
 obtain⟨u,hud⟩:∃ u,u=hi*2 ^ s+lo / 2 ^ (64-s):=⟨_,rfl⟩
 obtain⟨w,hwd⟩:∃ w,w=lo % 2 ^ (64-s)*2 ^ s:=⟨_,rfl⟩
 rw [<- hwd] at hlo10 hN hun0 hun1
 rw [<- hud] at hN hu' eor
 rw [<- hYd] at hu' hY1 hY2 hhp
 have hu0:0<=u:=by omega
 have fY:Y.fdiv 4294967296=Y / 4294967296:=Int.fdiv_eq_ediv_of_nonneg _ (by omega)
 have fw:w.fdiv 4294967296=w / 4294967296:=Int.fdiv_eq_ediv_of_nonneg _ (by omega)
 have mY:=zuj (v:=Y) (by omega) (by omega)
 have mw:=zuj (v:=w) (by omega) (by omega)
 have b1:2147483648<=Y / 4294967296/\Y / 4294967296<4294967296/\0<=Y % 4294967296/\Y % 4294967296<4294967296:=by omega
 have b2:0<=w / 4294967296/\w / 4294967296<4294967296/\0<=w % 4294967296/\w % 4294967296<4294967296:=by omega
 have eYs:Y / 4294967296*4294967296+Y % 4294967296=Y:=by omega
 obtain⟨m,rfl⟩:∃ m,φ=m+3:=⟨φ-3,by omega⟩
 rw [es]
 simp only [Option.bind_some,hs1,hs2,em1,em2,sh32,eY,hlo10,mY,mw,ef,eor,show (0:Int)<=32 by decide,if_true]
 rw [z7 (by omega),z7 (by omega),z7 (by omega),z7 (by omega),z7 (by omega)]
 obtain⟨i1,i2,i3,i4,i5,i6⟩:=ztl (u:=u) (d:=w / 4294967296) b1.1 b1.2.1 b1.2.2.1 b1.2.2.2 b2.1 b2.2.1 hu0 (by omega)
 rw [i1] at i2 ⊢
 rw [i2]
 refine(zwo (fun n q r=>z7s (m+3) n Y s (Y / 4294967296) (Y % 4294967296) u (w / 4294967296) (w % 4294967296) q r) (fun q=>z7x (m+3) Y s (Y / 4294967296) (Y % 4294967296) u (w / 4294967296) (w % 4294967296) q)
  b1.1 b1.2.1 b1.2.2.1 b1.2.2.2 b2.1 b2.2.1 hu0 (by omega) (fun n q r=>by rw [z7s]) (m+2) _ _ i3 i4 i5 i6 (by omega)).trans ?_
 rw [eYs]
 unfold z7x
 rw [z7 (by omega)]
 have hQ1:0<=(u*4294967296+w / 4294967296) / Y/\(u*4294967296+w / 4294967296) / Y<4294967296:=⟨Int.ediv_nonneg (by omega) (by omega),Int.ediv_lt_of_lt_mul (by omega) (by omega)⟩
 have hR1:=Int.ediv_mul_add_emod (u*4294967296+w / 4294967296) Y
 have hR1a:=Int.emod_nonneg (u*4294967296+w / 4294967296) (by omega:Y≠0)
 have hR1b:=Int.emod_lt_of_pos (u*4294967296+w / 4294967296) (by omega:0<Y)
 generalize (u*4294967296+w / 4294967296) / Y=q1 at *
 generalize (u*4294967296+w / 4294967296) % Y=r1 at *
 have eu21:U (U (U (u*4294967296)+w / 4294967296)-U (q1*Y))=r1:=by
  rw [ykk,show u*4294967296+w / 4294967296-q1*Y=r1 by omega]; exact U_id hR1a (by omega)
 rw [eu21]
 obtain⟨j1,j2,j3,j4,j5,j6⟩:=ztl (u:=r1) (d:=w % 4294967296) b1.1 b1.2.1 b1.2.2.1 b1.2.2.2 b2.2.2.1 b2.2.2.2 hR1a (by omega)
 rw [j1] at j2 ⊢
 rw [j2]
 refine(zwo (fun n q r=>z7t (m+3) n Y s (Y / 4294967296) (Y % 4294967296) (w % 4294967296) q1 r r1 q) (fun q=>z7r (m+3) Y s (w % 4294967296) q1 r1 q)
  b1.1 b1.2.1 b1.2.2.1 b1.2.2.2 b2.2.2.1 b2.2.2.2 hR1a (by omega) (fun n q r=>by rw [z7t]) (m+2) _ _ j3 j4 j5 j6 (by omega)).trans ?_
 rw [eYs]
 unfold z7r
 rw [em1,z7 (by omega)]
 have hQ0:0<=(r1*4294967296+w % 4294967296) / Y/\(r1*4294967296+w % 4294967296) / Y<4294967296:=⟨Int.ediv_nonneg (by omega) (by omega),Int.ediv_lt_of_lt_mul (by omega) (by omega)⟩
 have hR0:=Int.ediv_mul_add_emod (r1*4294967296+w % 4294967296) Y
 have hR0a:=Int.emod_nonneg (r1*4294967296+w % 4294967296) (by omega:Y≠0)
 have hR0b:=Int.emod_lt_of_pos (r1*4294967296+w % 4294967296) (by omega:0<Y)
 generalize (r1*4294967296+w % 4294967296) / Y=q0 at *
 generalize (r1*4294967296+w % 4294967296) % Y=r0 at *
 rw [ykk,show r1*4294967296+w % 4294967296-q0*Y=r0 by omega,U_id (x:=r0) hR0a (by omega),U_id (x:=q1*4294967296) (by omega) (by omega),U_id (by omega) (by omega),Int.fdiv_eq_ediv_of_nonneg _ (by omega)]
 have hall :(hi*18446744073709551616+lo -(q1*4294967296+q0)*y)*2 ^ s=r0:=by
  rw [Int.sub_mul,<- hN,Int.mul_assoc,<- hYd,Int.add_mul,Int.mul_right_comm]; omega
 have hz0:0<=hi*18446744073709551616+lo -(q1*4294967296+q0)*y:=by
  rcases Int.lt_or_le (hi*18446744073709551616+lo -(q1*4294967296+q0)*y) 0 with h | h
  ·have:=Int.mul_neg_of_neg_of_pos h hp; omega
  ·exact h
 have hz1:hi*18446744073709551616+lo -(q1*4294967296+q0)*y<y:=by
  refine Int.lt_of_mul_lt_mul_right (a:=2 ^ s) ?_ (by omega)
  rw [hall,<- hYd]; exact hR0b
 have hr0:r0 / 2 ^ s=hi*18446744073709551616+lo -(q1*4294967296+q0)*y:=by
  rw [<- hall]; exact Int.mul_ediv_cancel _ (by omega)
 have hdm :(hi*18446744073709551616+lo) / y=q1*4294967296+q0/\(hi*18446744073709551616+lo) % y=hi*18446744073709551616+lo -(q1*4294967296+q0)*y:=
  (Int.ediv_emod_unique (by omega)).2 ⟨by rw [Int.mul_comm y]; omega,hz0,hz1⟩
 rw [hr0,hdm.1,hdm.2]
end Px
end
section
namespace Px
open Go
set_option maxRecDepth 100000
def PP:Nat:=2305843009213690799
def QQ:Nat:=1152921504606845399
def pw (b n:Nat):Nat:=b ^ n % PP
theorem y6e (b n:Nat):pw b n<PP:=Nat.mod_lt _ (by decide)
theorem zzo (b:Nat):pw b 0=1:=by simp [pw,PP]
theorem ycm (b m n:Nat):pw b m*pw b n % PP=pw b (m+n):=by
 unfold pw; rw [Nat.pow_add,<- Nat.mul_mod]
theorem yl5 (b:Nat):pw b 1=b % PP:=by simp [pw]
theorem ypi {a:Nat} (h:a<PP) :((a:Int)).tmod 2305843009213690799 =(a:Int):=by
 unfold PP at h
 rw [Int.tmod_eq_emod_of_nonneg (by omega)]; omega
theorem yqx (b:Nat) :((b:Int)).tmod 2305843009213690799 =((b % PP:Nat):Int):=by
 rw [Int.tmod_eq_emod_of_nonneg (by omega)]; unfold PP; omega
theorem ye4 {ρ:Type} {a b:Nat} (ha:a<PP) (hb:b<PP) (φ:Nat) (hφ:5<φ) (K:Int->Option ρ) :((z8f φ (a:Int) (b:Int)).bind fun y=>(z8g φ y.1 y.2.1 2305843009213690799).bind fun z=>K z.2.1)=K ((a*b % PP:Nat):Int):=by
 have ha' :(a:Int)<2305843009213690799:=by unfold PP at ha; omega
 have hb' :(b:Int)<2305843009213690799:=by unfold PP at hb; omega
 have hp:=zt3 (by omega:0<=(a:Int)) (by omega:0<=(b:Int)) (by omega :(a:Int)<=2305843009213690798) (by omega :(b:Int)<=2305843009213690798)
 rw [y95 φ _ _ (by omega) (by omega) (by omega) (by omega),Option.bind_some]
 generalize hz :(a:Int) *(b:Int)=z at *
 show (z8g φ (z / 18446744073709551616) (z % 18446744073709551616) 2305843009213690799).bind _=_
 rw [yip φ hφ _ _ _ (by omega) (by omega) (by omega) (by omega) (by omega),Option.bind_some]
 congr 1
 have:z / 18446744073709551616*18446744073709551616+z % 18446744073709551616=z:=by omega
 show (z / 18446744073709551616*18446744073709551616+z % 18446744073709551616) % 2305843009213690799=_
 rw [this,<- hz,Int.natCast_emod,Int.natCast_mul]; rfl
theorem z9t.uniq {v m n:Nat} (hv:0<v) (h:z9t v m) (k:z9t v n):m=n:=by
 obtain⟨h1,h2⟩:=h
 obtain⟨k1,k2⟩:=k
 obtain⟨h3,h4⟩:=h2 hv
 obtain⟨k3,k4⟩:=k2 hv
 have a:m-1<n:=(Nat.pow_lt_pow_iff_right (by decide:1<2)).1 (Nat.lt_of_le_of_lt h4 k1)
 have b:n-1<m:=(Nat.pow_lt_pow_iff_right (by decide:1<2)).1 (Nat.lt_of_le_of_lt k4 h1)
 omega
section first
variable (φ:Nat) (b n a p:Int)
theorem ybi (v w:Int) (h:0<=v) (h':v<256) (hw:0<=w) (hw':w<=64):∃ m:Nat,zbn φ v w b n a p=z0s φ φ b n a (w+m) 0 p/\m<=8/\z9t v.toNat m:=by
 obtain⟨m,e,hm,x,y⟩:=zsn h h'
 have e8:IntKind.wrap .u8 v=v:=by simp [IntKind.wrap,IntKind.bits,IntKind.signed]; omega
 refine⟨m,?_,hm,x,fun hv=>y (by omega)⟩
 unfold zbn
 rw [e8,z7 ⟨h,h'⟩,e,W_id (x:=(m:Int)) (by omega) (by omega),W_id (x:=w+m) (by omega) (by omega)]
theorem yf0 (v w:Int) (h:0<=v) (h':v<65536) (hw:0<=w) (hw':w<=48):∃ m:Nat,zbh φ v w b n a p=z0s φ φ b n a (w+m) 0 p/\m<=16/\z9t v.toNat m:=by
 unfold zbh
 by_cases c:256<=v
 ·rw [if_pos (by simpa using c),if_pos (by decide),sh8,W_id (by omega) (by omega)]
  obtain⟨m,e,hn,hl⟩:=ybi φ b n a p (v / 256) (w+8) (by omega) (by omega) (by omega) (by omega)
  refine⟨m+8,by rw [e]; congr 1; omega,by omega,?_⟩
  refine z9t.up 8 ?_ (by omega)
  rwa [show v.toNat / 2 ^ 8 =(v / 256).toNat by omega]
 ·rw [if_neg (by simpa using c)]
  obtain⟨m,e,hn,hl⟩:=ybi φ b n a p v w h (by omega) (by omega) (by omega)
  exact⟨m,e,by omega,hl⟩
theorem yl6 (v w:Int) (h:0<=v) (h':v<4294967296) (hw:0<=w) (hw':w<=32):∃ m:Nat,zer φ v w b n a p=z0s φ φ b n a (w+m) 0 p/\m<=32/\z9t v.toNat m:=by
 unfold zer
 by_cases c:65536<=v
 ·rw [if_pos (by simpa using c),if_pos (by decide),sh16,W_id (by omega) (by omega)]
  obtain⟨m,e,hn,hl⟩:=yf0 φ b n a p (v / 65536) (w+16) (by omega) (by omega) (by omega) (by omega)
  refine⟨m+16,by rw [e]; congr 1; omega,by omega,?_⟩
  refine z9t.up 16 ?_ (by omega)
  rwa [show v.toNat / 2 ^ 16 =(v / 65536).toNat by omega]
 ·rw [if_neg (by simpa using c)]
  obtain⟨m,e,hn,hl⟩:=yf0 φ b n a p v w h (by omega) (by omega) (by omega)
  exact⟨m,e,by omega,hl⟩
end first
def zpj (φ:Nat) (k:Int->Int->Int->Int->Int->Int->Option (Int×Unit)) (L x57 x58 x59 x60 x61 x62 x63 x64:Int):Option (Int×Unit):=
 ck (0<=(W ((W (L-1))-x60))) (if(((U ((BitVec.ofInt 64 ((x63:Int).fdiv (2 ^ (min ((W ((W (L-1))-x60)):Int).toNat 64)))&&& BitVec.ofInt 64 1).toNat)):Int)==1)=true then(ck (x64≠0) (ck (x64≠0) ((z8f φ ((x59:Int).tmod x64) ((x57:Int).tmod x64)).bind fun y66=>((z8g φ y66.1 y66.2.1 x64).bind fun y67=>(k x57 x58 y67.2.1 x61 (W (x62+1)) x64))))) else(k x57 x58 x59 x61 (W (x62+1)) x64))
section second
variable (φ:Nat) (k:Int->Int->Int->Int->Int->Int->Option (Int×Unit)) (x57 x58 x59 x60 x61 x62 x63 x64:Int)
theorem ye2 (v w:Int) (h:0<=v) (h':v<256) (hw:0<=w) (hw':w<=64):∃ m:Nat,zbk φ k v w x57 x58 x59 x60 x61 x62 x63 x64=zpj φ k (w+m) x57 x58 x59 x60 x61 x62 x63 x64/\m<=8/\z9t v.toNat m:=by
 obtain⟨m,e,hm,x,y⟩:=zsn h h'
 have e8:IntKind.wrap .u8 v=v:=by simp [IntKind.wrap,IntKind.bits,IntKind.signed]; omega
 refine⟨m,?_,hm,x,fun hv=>y (by omega)⟩
 unfold zbk zpj
 rw [e8,z7 ⟨h,h'⟩,e,W_id (x:=(m:Int)) (by omega) (by omega),W_id (x:=w+m) (by omega) (by omega)]
theorem ye7 (v w:Int) (h:0<=v) (h':v<65536) (hw:0<=w) (hw':w<=48):∃ m:Nat,zbl φ k v w x57 x58 x59 x60 x61 x62 x63 x64=zpj φ k (w+m) x57 x58 x59 x60 x61 x62 x63 x64/\m<=16/\z9t v.toNat m:=by
 unfold zbl
 by_cases c:256<=v
 ·rw [if_pos (by simpa using c),if_pos (by decide),sh8,W_id (by omega) (by omega)]
  obtain⟨m,e,hn,hl⟩:=ye2 φ k x57 x58 x59 x60 x61 x62 x63 x64 (v / 256) (w+8) (by omega) (by omega) (by omega) (by omega)
  refine⟨m+8,by rw [e]; congr 1; omega,by omega,?_⟩
  refine z9t.up 8 ?_ (by omega)
  rwa [show v.toNat / 2 ^ 8 =(v / 256).toNat by omega]
 ·rw [if_neg (by simpa using c)]
  obtain⟨m,e,hn,hl⟩:=ye2 φ k x57 x58 x59 x60 x61 x62 x63 x64 v w h (by omega) (by omega) (by omega)
  exact⟨m,e,by omega,hl⟩
theorem yca (v w:Int) (h:0<=v) (h':v<4294967296) (hw:0<=w) (hw':w<=32):∃ m:Nat,z4a φ k v w x57 x58 x59 x60 x61 x62 x63 x64=zpj φ k (w+m) x57 x58 x59 x60 x61 x62 x63 x64/\m<=32/\z9t v.toNat m:=by
 unfold z4a
 by_cases c:65536<=v
 ·rw [if_pos (by simpa using c),if_pos (by decide),sh16,W_id (by omega) (by omega)]
  obtain⟨m,e,hn,hl⟩:=ye7 φ k x57 x58 x59 x60 x61 x62 x63 x64 (v / 65536) (w+16) (by omega) (by omega) (by omega) (by omega)
  refine⟨m+16,by rw [e]; congr 1; omega,by omega,?_⟩
  refine z9t.up 16 ?_ (by omega)
  rwa [show v.toNat / 2 ^ 16 =(v / 65536).toNat by omega]
 ·rw [if_neg (by simpa using c)]
  obtain⟨m,e,hn,hl⟩:=ye7 φ k x57 x58 x59 x60 x61 x62 x63 x64 v w h (by omega) (by omega) (by omega)
  exact⟨m,e,by omega,hl⟩
theorem yq0 (v:Int) (h:0<=v) (h':v<18446744073709551616):∃ m:Nat,(if(decide ((4294967296:Int)<=v))=true then(if 0<=(32:Int) then(z4a φ k (((v:Int).fdiv (2 ^ (min (32:Int).toNat 64)))) 32 x57 x58 x59 x60 x61 x62 x63 x64) else none) else(z4a φ k v 0 x57 x58 x59 x60 x61 x62 x63 x64)) =
  zpj φ k m x57 x58 x59 x60 x61 x62 x63 x64/\m<=64/\z9t v.toNat m:=by
 by_cases c:4294967296<=v
 ·rw [if_pos (by simpa using c),if_pos (by decide),sh32]
  obtain⟨m,e,hn,hl⟩:=yca φ k x57 x58 x59 x60 x61 x62 x63 x64 (v / 4294967296) 32 (by omega) (by omega) (by omega) (by omega)
  refine⟨m+32,by rw [e]; congr 1; omega,by omega,?_⟩
  refine z9t.up 32 ?_ (by omega)
  rwa [show v.toNat / 2 ^ 32 =(v / 4294967296).toNat by omega]
 ·rw [if_neg (by simpa using c)]
  obtain⟨m,e,hn,hl⟩:=yca φ k x57 x58 x59 x60 x61 x62 x63 x64 v 0 h (by omega) (by omega) (by omega)
  exact⟨m,by rw [e]; simp,by omega,hl⟩
end second
theorem y6i (φ:Nat) (hφ:100<φ) (b n:Nat) (hn0:0<n) (hn:n<18446744073709551616):zo5 φ (b:Int) (n:Int)=some (((pw b n:Nat):Int),()):=by
 have hstart:∃ L:Nat,zo5 φ (b:Int) (n:Int)=z0s φ φ b n 1 L 0 2305843009213690799/\L<=64/\z9t n L:=by
  unfold zo5
  by_cases c :(4294967296:Int)<=n
  ·rw [if_pos (by simpa using c),if_pos (by decide),sh32]
   obtain⟨m,e,hm,hl⟩:=yl6 φ b n 1 2305843009213690799 ((n:Int) / 4294967296) 32 (by omega) (by omega) (by omega) (by omega)
   refine⟨m+32,by rw [e]; congr 1; omega,by omega,?_⟩
   refine z9t.up 32 ?_ (by omega)
   rwa [show n / 2 ^ 32 =((n:Int) / 4294967296).toNat by omega]
  ·rw [if_neg (by simpa using c)]
   obtain⟨m,e,hm,hl⟩:=yl6 φ b n 1 2305843009213690799 (n:Int) 0 (by omega) (by omega) (by omega) (by omega)
   exact⟨m,by rw [e]; simp,by omega,by rwa [Int.toNat_natCast] at hl⟩
 obtain⟨L,e0,hL,hlen⟩:=hstart
 rw [e0]
 obtain⟨h1,h2⟩:=hlen
 refine zi (fun k i v=>z0s φ k (b:Int) (n:Int) v (L:Int) i 2305843009213690799) L (fun i v=>v =((pw b (n / 2 ^ (L-i)):Nat):Int)) (fun o=>o=some (((pw b n:Nat):Int),())) ?_ ?_ φ 1 ?_ (by omega)
 ·intro k i v hi hv hs
  rw [z0s,if_pos (by simp; omega),z7 (by decide),z7 (by decide)]
  subst hv
  rw [ypi (y6e _ _)]
  refine(ye4 (y6e _ _) (y6e _ _) φ (by omega) (fun z=>(if(decide ((4294967296:Int)<=(n:Int)))=true then(if 0<=(32:Int) then(z4a φ (z0s φ k) ((((n:Int):Int).fdiv (2 ^ (min (32:Int).toNat 64)))) 32 b n z i L i n 2305843009213690799) else none) else(z4a φ (z0s φ k) n 0 b n z i L i n 2305843009213690799)))).trans ?_
  rw [ycm]
  obtain⟨m,em,hm,hl⟩:=yq0 φ (z0s φ k) b n ((pw b (n / 2 ^ (L-i)+n / 2 ^ (L-i)):Nat):Int) i L i n 2305843009213690799 (n:Int) (by omega) (by omega)
  refine em.trans ?_
  rw [Int.toNat_natCast] at hl
  have:=z9t.uniq hn0 hl ⟨h1,h2⟩
  subst this
  unfold zpj
  have hw1:W ((m:Int)-1) =(m:Int)-1:=W_id (by omega) (by omega)
  have hw2:W ((m:Int)-1 -(i:Int)) =((m-1-i:Nat):Int):=by rw [W_id (by omega) (by omega)]; omega
  rw [hw1,hw2,z7 (by omega)]
  have hsh:=yqa (c:=(n:Int)) (k:=((m-1-i:Nat):Int)) (by omega) (by omega) (by omega)
  have hone:U ((BitVec.ofInt 64 ((n:Int).fdiv (2 ^ (min (((m-1-i:Nat):Int)).toNat 64)))&&& BitVec.ofInt 64 1).toNat) =((n / 2 ^ (m-1-i) % 2:Nat):Int):=by
   rw [show ((n:Int).fdiv (2 ^ (min (((m-1-i:Nat):Int)).toNat 64)))=_ from hsh,Int.toNat_natCast,Int.toNat_natCast]
   have hd:n / 2 ^ (m-1-i)<=n:=Nat.div_le_self _ _
   rw [BitVec.toNat_and,zah (Int.natCast_nonneg _) (by omega),zah (by omega) (by omega),yof (yl8 (by omega)),Int.toNat_natCast]
   show ((n / 2 ^ (m-1-i)&&& 1:Nat):Int)=_
   rw [Nat.and_one_is_mod]
  rw [hone]
  have hhalf:n / 2 ^ (m-i)=n / 2 ^ (m-1-i) / 2:=by
   rw [Nat.div_div_eq_div_mul,<- Nat.pow_succ]; congr 2; omega
  have hidx:m -(i+1)=m-1-i:=by omega
  have hW:W ((i:Int)+1) =(i:Int)+1:=W_id (by omega) (by omega)
  have hbit:=Nat.mod_two_eq_zero_or_one (n / 2 ^ (m-1-i))
  rcases hbit with hbit | hbit
  ·rw [hbit,if_neg (by simp),hW]
   refine hs _ ?_
   rw [hidx,hhalf]; congr 2; omega
  ·rw [hbit,if_pos (by simp),ypi (y6e _ _),yqx,z7 (by decide),z7 (by decide),hW]
   refine(ye4 (y6e _ _) (Nat.mod_lt b (by decide:0<PP)) φ (by omega) (fun z=>z0s φ k b n z m ((i:Int)+1) 2305843009213690799)).trans ?_
   refine hs _ ?_
   rw [<- yl5 b,ycm,hidx,hhalf]; congr 2; omega
 ·intro k v hv
  rw [z0s,if_neg (by simp),hv]
  rw [Nat.sub_self,Nat.pow_zero,Nat.div_one]
 ·rw [Nat.sub_zero,Nat.div_eq_of_lt h1,zzo]; rfl
def y9x (x:Int):Bool:=decide (2<=x)&&decide (x<2305843009213690799)&&(pw x.toNat QQ==1)
theorem zup (a:Nat) :(((a:Nat):Int)==1) =(a==1):=by
 rw [Bool.eq_iff_iff,beq_iff_eq,beq_iff_eq]; omega
theorem zz9 (φ:Nat) (hφ:100<φ) (x:Int):zm0 φ x=some (y9x x,()):=by
 unfold zm0 y9x zn
 cases h:decide (2<=x)&&decide (x<2305843009213690799) with
 | false=>rw [if_neg (by simp),Option.bind_some]; simp only [Bool.false_and]
 | true=>
  simp only [Bool.and_eq_true,decide_eq_true_eq] at h
  have:=y6i φ hφ x.toNat QQ (by decide) (by decide)
  rw [show ((x.toNat:Nat):Int)=x by omega,show ((QQ:Nat):Int)=1152921504606845399 by decide] at this
  rw [if_pos rfl,this,Option.bind_some,Bool.true_and,Bool.true_and]
  show some ((((pw x.toNat QQ:Nat):Int)==1),())=_
  rw [zup]
end Px
end
section
namespace Px
open Go
theorem gz_t {α:Type} {z:α} {p:Prop} [Decidable p] {x:Option α} (h:p):zn z p x=x:=if_pos h
theorem gz_f {α:Type} {z:α} {p:Prop} [Decidable p] {x:Option α} (h:¬ p):zn z p x=some z:=if_neg h
def z9l (p:z6v):Bool:=bet p.kind 1 5&&bet p.railway 0 15&&(bif p.kind==3 then bet p.other 0 15&&(p.other !=p.railway) else p.other==(-1))
def zcd (n:Int) (e:Edge):Bool:=bet e.a 0 (n-1)&&bet e.b 0 (n-1)&&(e.a !=e.b)&&bet e.railway 0 15&&bet e.minutes 1 100000&&bet e.km 0 10000
def z7z (x:zc):Int:=bif decide (512<x.places.length)||decide (2048<x.edges.length) then 2 else bif x.places.all z9l&&x.edges.all (zcd x.places.length) then 0 else 1
theorem zre (φ:Nat) (p:z6v):zcs φ p=some (z9l p,()):=by
 have hb :(((decide (p.kind<1)||decide (5<p.kind))||decide (p.railway<0))||decide (16<=p.railway)) = !(bet p.kind 1 5&&bet p.railway 0 15):=by
  rw [Bool.eq_iff_iff]; simp [bet]; omega
 unfold zcs z9l
 rw [hb]
 cases bet p.kind 1 5&&bet p.railway 0 15 with
 | false=>rfl
 | true=>
  rw [if_neg (by simp)]
  by_cases h:p.kind=3
  ·have :(decide (0<=p.other)&&decide (p.other<16))=bet p.other 0 15:=by rw [Bool.eq_iff_iff]; simp [bet]; omega
   rw [if_neg (by simp [h]),this]; simp [h]
  ·have h2 :(p.kind==3)=false:=by simpa using h
   rw [if_pos (by simp [h]),h2]; rfl
theorem yds (n:Int) (e:Edge) :((((((decide ((min2 (min2 (min2 (e.a) (e.b)) (e.railway)) (e.km))<0)||decide (n<=(max2 (e.a) (e.b))))||(e.a==e.b))||decide (16<=e.railway))||decide (e.minutes<1))||decide (100000<e.minutes))||decide (10000<e.km)) = !zcd n e:=by
 have hm:∀ x y z:Int,z<=max2 x y↔z<=x\/z<=y:=by intro x y z; unfold max2; split <;> omega
 have hok:zcd n e=true↔((((((0<=e.a/\e.a<=n-1)/\0<=e.b/\e.b<=n-1)/\¬ e.a=e.b)/\0<=e.railway/\e.railway<=15)/\1<=e.minutes/\e.minutes<=100000)/\0<=e.km/\e.km<=10000):=by
  simp only [zcd,Bool.and_eq_true,zg6,bne_iff_ne,ne_eq]
 rw [Bool.eq_iff_iff,Bool.not_eq_true',<- Bool.not_eq_true,hok]
 simp only [Bool.or_eq_true,decide_eq_true_eq,y5j,hm,beq_iff_eq]
 omega
theorem y7p (x:zc) :(decide (512 <(x.places.length:Int))||decide (2048 <(x.edges.length:Int))) =(decide (512<x.places.length)||decide (2048<x.edges.length)):=by
 congr 1 <;>(apply decide_eq_decide.2; omega)
theorem z3x (φ:Nat) (hφ:5000<φ) (x:zc):z9c φ x=some (z7z x,()):=by
 unfold z9c z7z
 rw [y7p]
 cases h:decide (512<x.places.length)||decide (2048<x.edges.length) with
 | true=>rfl
 | false=>
  simp only [Bool.or_eq_false_iff,decide_eq_false_iff_not,Nat.not_lt] at h
  rw [if_neg (by simp),z4x (fun n i=>z40 φ n (x.places.length:Int) x.places (x.places.length:Int) i x) (z2d φ φ (x.places.length:Int) x.edges (x.edges.length:Int) 0) (some (1,())) x.places (fun t=>!z9l t) ?_ ?_ φ (by omega)]
  ·rw [z4x (fun n i=>z2d φ n (x.places.length:Int) x.edges (x.edges.length:Int) i) (some (0,())) (some (1,())) x.edges (fun t=>!zcd x.places.length t) ?_ ?_ φ (by omega)]
   ·simp only [List.any_eq_not_all_not,Bool.not_not]
    cases x.places.all z9l <;> cases x.edges.all (zcd x.places.length) <;> rfl
   ·intro n i hi
    rw [z2d,if_pos (by simp; omega),z7 ⟨by omega,by omega⟩,yds,W_id (by omega) (by omega)]
    cases zcd x.places.length (gt x.edges i) <;> rfl
   ·intro n; rw [z2d,if_neg (by simp)]
  ·intro n i hi
   rw [z40,if_pos (by simp; omega),z7 ⟨by omega,by omega⟩,zre,Option.bind_some,W_id (by omega) (by omega)]
   cases z9l (gt x.places i) <;> rfl
  ·intro n; rw [z40,if_neg (by simp)]
theorem zld {x:zc} (h:z7z x=0):x.places.length<=512/\x.edges.length<=2048/\(∀ p∈x.places,z9l p=true)/\∀ e∈x.edges,zcd x.places.length e=true:=by
 unfold z7z at h
 cases h1:decide (512<x.places.length)||decide (2048<x.edges.length) with
 | true=>rw [h1] at h; cases h
 | false=>
  rw [h1] at h
  cases h2:x.places.all z9l&&x.edges.all (zcd x.places.length) with
  | false=>rw [h2] at h; cases h
  | true=>
   simp only [Bool.or_eq_false_iff,decide_eq_false_iff_not,Nat.not_lt] at h1
   simp only [Bool.and_eq_true,List.all_eq_true] at h2
   exact⟨h1.1,h1.2,h2⟩
def y3l:Int->List Int->Bool
 | _,[]=>true
 | p,h::t=>decide (p<h)&&decide (h<=745654)&&y3l h t
def zo6 (s:Span):Bool:=decide (0<=s.from_)&&decide (s.from_<=s.to)&&decide (s.to<=1440)
def zqh (c:z4w):Bool:=((List.range 7).all fun i=>zo6 (c.open_ i))&&y3l (-1) c.holidays
theorem ymb (φ:Nat) (c:z4w):∀(n i:Nat) (p:Int),-1<=p->(i:Int)<=p+1->p<=745654->i<=c.holidays.length->745656<=(n:Int)+p->z2u φ n p c.holidays (c.holidays.length:Int) i=some (bif y3l p (c.holidays.drop i) then 0 else 1,()):=by
 intro n
 induction n with
 | zero=>intro i p _ _ _ _ _; omega
 | succ n ih=>
  intro i p hp hip hp2 hi hn
  by_cases h:i=c.holidays.length
  ·rw [h,z2u,if_neg (by simp),List.drop_length]; rfl
  ·rw [z2u,if_pos (by simp; omega),z7 ⟨by omega,by omega⟩,y03 _ _ (by omega)]
   by_cases hb:gt c.holidays i<=p\/745654<gt c.holidays i
   ·have :(decide (p<gt c.holidays i)&&decide (gt c.holidays i<=745654))=false:=by simp; omega
    rw [if_pos (by simpa using hb)]
    simp [y3l,this]
   ·have h2 :(decide (p<gt c.holidays i)&&decide (gt c.holidays i<=745654))=true:=by simp; omega
    rw [if_neg (by simpa using hb),W_id (by omega) (by omega)]
    have:=ih (i+1) (gt c.holidays i) (by omega) (by omega) (by omega) (by omega) (by omega)
    rw [show ((i+1:Nat):Int) =(i:Int)+1 by omega] at this
    rw [this]
    simp [y3l,h2]
theorem zoq (s:Span) :((decide (s.from_<0)||decide (s.to<s.from_))||decide (1440<s.to)) = !zo6 s:=by
 rw [Bool.eq_iff_iff]; simp [zo6]
 try omega
theorem zq0 (φ:Nat) (hφ:800000<φ) (c:z4w):zay φ c=some (bif zqh c then 0 else 1,()):=by
 unfold zay
 refine zi (fun n i (_:Unit)=>z3g φ n c.open_ i c) 7 (fun i _=>((List.range i).all fun j=>zo6 (c.open_ j))=true) (fun o=>o=some (bif zqh c then 0 else 1,())) ?_ ?_ φ () (by simp) (by omega)
 ·intro n i _ hi h hs
  rw [z3g,if_pos (by simp; omega),z7 ⟨by omega,by omega⟩,Int.toNat_natCast,zoq,W_id (by omega) (by omega)]
  cases ho:zo6 (c.open_ i) with
  | true=>
   rw [if_neg (by simp)]
   exact hs () (by rw [zas,h,ho]; rfl)
  | false=>
   have:zqh c=false:=by
    unfold zqh
    have :((List.range 7).all fun j=>zo6 (c.open_ j))=false:=by
     rw [List.all_eq_false]; exact⟨i,by simp; omega,by simp [ho]⟩
    rw [this]; rfl
   rw [if_pos (by simp),this]; rfl
 ·intro n _ h
  rw [z3g,if_neg (by simp)]
  unfold zqh
  rw [h,Bool.true_and]
  have:=ymb φ c φ 0 (-1) (by omega) (by omega) (by omega) (by omega) (by omega)
  simpa using this
theorem zpc {α ρ:Type} [Inhabited α] (L:Nat->Bool->Int->Option ρ) (k:Bool->Option ρ) (l:List α) (p:α->Bool)
  (step:∀(n i:Nat) (s:Bool),i<l.length->L (n+1) s i=L n (s||p (gt l i)) ((i:Int)+1)) (done:∀ n s,L (n+1) s l.length=k s) (n:Nat) (s:Bool) (hn:l.length<n):L n s 0=k (s||l.any p):=by
 refine zi (fun n i t=>L n t i) l.length (fun i t=>t =(s||(l.take i).any p)) (fun o=>o=k (s||l.any p)) ?_ ?_ n s (by simp) hn
 ·intro n i t hi ht hs
  rw [step n i t hi]
  exact hs _ (by rw [zj6 _ _ _ hi,ht,Bool.or_assoc])
 ·intro n t ht
  rw [List.take_length] at ht
  rw [done,ht]
def z7v (n:Int) (r:z15):Bool:=(((!bet r.place 0 (n-1))||decide (r.low <(-1000)))||decide (r.high<r.low))||decide (1000<r.high)
def z78 (x:zc) (s:zaj):Bool:=(!bet s.place 0 ((x.places.length:Int)-1))||((gt x.places s.place).kind !=4)
def zmy (r:z1h):Bool:=!zqh r.calendar||!y9x r.key
def zn3 (x:Pool):Bool:=
 ((((((x.railways.length:Int)==0)||x.readers.any (z7v x.network.places.length))||x.shippers.any (z78 x.network))||x.fleet.wagons.any (fun w=>decide ((x.network.places.length:Int)<=w.home)))||
 x.network.places.any (fun p=>decide ((x.railways.length:Int)<=p.railway)||decide ((x.railways.length:Int)<=p.other)))||x.network.edges.any (fun e=>decide ((x.railways.length:Int)<=e.railway))||x.railways.any zmy
def zhg (x:Pool):Bool:=(decide (256 <(x.readers.length:Int))||decide (256 <(x.shippers.length:Int)))||decide (16 <(x.railways.length:Int))
def zl (x:Pool):Int:=if z7z x.network≠0 then z7z x.network else if z5i x.fleet≠0 then z5i x.fleet else bif zhg x then 2 else bif zn3 x then 1 else 0
theorem zf4 (φ:Nat) (hφ:800000<φ) (x:Pool):z6y φ x=some (zl x,()):=by
 unfold z6y zl
 rw [z3x _ (by omega),Option.bind_some]
 by_cases hn:z7z x.network=0
 case neg=>rw [if_pos (by simp [hn]),if_pos hn]
 rw [if_neg (by simp [hn]),if_neg (fun e:z7z x.network≠0=>e hn),zuz _ (by omega),Option.bind_some]
 by_cases hf:z5i x.fleet=0
 case neg=>rw [if_pos (by simp [hf]),if_pos hf]
 rw [if_neg (by simp [hf]),if_neg (fun e:z5i x.fleet≠0=>e hf)]
 cases hb:zhg x with
 | true=>
  have e :(((decide (256 <(x.readers.length:Int))||decide (256 <(x.shippers.length:Int)))||decide (16 <(x.railways.length:Int))))=zhg x:=rfl
  rw [e,hb]; rfl
 | false=>
  have hb':¬(((decide (256 <(x.readers.length:Int))||decide (256 <(x.shippers.length:Int)))||decide (16 <(x.railways.length:Int)))=true):=by
   rw [show (((decide (256 <(x.readers.length:Int))||decide (256 <(x.shippers.length:Int)))||decide (16 <(x.railways.length:Int))))=zhg x from rfl,hb]; simp
  rw [if_neg hb']
  simp only [Bool.or_eq_true,decide_eq_true_eq,not_or] at hb'
  obtain⟨n1,n2,_,_⟩:=zld hn
  obtain⟨f1,f2,_⟩:=z6t hf
  have hp:W ((x.network.places.length:Int)-1) =(x.network.places.length:Int)-1:=W_id (by omega) (by omega)
  have a1:=zpc (fun n s i=>z2c φ n x.network.places (x.railways.length:Int) s x.readers (x.readers.length:Int) i x) (fun s=>z1b φ φ x.network.places (x.railways.length:Int) s x.shippers (x.shippers.length:Int) 0 x) x.readers (z7v x.network.places.length) (fun n i s hi=>by
   rw [z2c,if_pos (by simp; omega),z7 ⟨by omega,by omega⟩,hp,W_id (by omega) (by omega)]
   unfold z7v
   cases s with
   | true=>rw [gz_f (by simp)]; rfl
   | false=>rw [gz_t rfl]; rfl) (fun n s=>by rw [z2c,if_neg (by simp)]) φ ((x.railways.length:Int)==0) (by omega)
  refine a1.trans ?_
  have a2:=fun s0=>zpc (fun n s i=>z1b φ n x.network.places (x.railways.length:Int) s x.shippers (x.shippers.length:Int) i x) (fun s=>z1c φ φ x.network.places (x.railways.length:Int) s x.fleet.wagons (x.fleet.wagons.length:Int) 0 x) x.shippers (z78 x.network) (fun n i s hi=>by
   rw [z1b,if_pos (by simp; omega),z7 ⟨by omega,by omega⟩,hp,W_id (by omega) (by omega)]
   unfold z78
   cases s with
   | true=>rw [gz_f (by simp),Option.bind_some,z7 (by simp)]; rfl
   | false=>
    rw [gz_t rfl,z3z,Option.bind_some]
    cases hbt:bet (gt x.shippers i).place 0 ((x.network.places.length:Int)-1) with
    | true=>rw [z7 (fun _=>by have:=zug hbt; omega)]; rfl
    | false=>rw [z7 (by simp)]; rfl) (fun n s=>by rw [z1b,if_neg (by simp)]) φ s0 (by omega)
  refine(a2 _).trans ?_
  have a3:=fun s0=>zpc (fun n s i=>z1c φ n x.network.places (x.railways.length:Int) s x.fleet.wagons (x.fleet.wagons.length:Int) i x) (fun s=>z1d φ φ (x.railways.length:Int) s x.network.places (x.network.places.length:Int) 0 x) x.fleet.wagons (fun w=>decide ((x.network.places.length:Int)<=w.home)) (fun n i s hi=>by
   rw [z1c,if_pos (by simp; omega),z7 ⟨by omega,by omega⟩,W_id (by omega) (by omega)]) (fun n s=>by rw [z1c,if_neg (by simp)]) φ s0 (by omega)
  refine(a3 _).trans ?_
  have a4:=fun s0=>zpc (fun n s i=>z1d φ n (x.railways.length:Int) s x.network.places (x.network.places.length:Int) i x) (fun s=>z1f φ φ (x.railways.length:Int) s x.network.edges (x.network.edges.length:Int) 0 x) x.network.places (fun p=>decide ((x.railways.length:Int)<=p.railway)||decide ((x.railways.length:Int)<=p.other)) (fun n i s hi=>by
   rw [z1d,if_pos (by simp; omega),z7 ⟨by omega,by omega⟩,W_id (by omega) (by omega),Bool.or_assoc]) (fun n s=>by rw [z1d,if_neg (by simp)]) φ s0 (by omega)
  refine(a4 _).trans ?_
  have a5:=fun s0=>zpc (fun n s i=>z1f φ n (x.railways.length:Int) s x.network.edges (x.network.edges.length:Int) i x) (fun s=>z1e φ φ s x.railways (x.railways.length:Int) 0) x.network.edges (fun e=>decide ((x.railways.length:Int)<=e.railway)) (fun n i s hi=>by
   rw [z1f,if_pos (by simp; omega),z7 ⟨by omega,by omega⟩,W_id (by omega) (by omega)]) (fun n s=>by rw [z1f,if_neg (by simp)]) φ s0 (by omega)
  refine(a5 _).trans ?_
  have a6:=fun s0=>zpc (fun n s i=>z1e φ n s x.railways (x.railways.length:Int) i) (fun s=>if s=true then some (1,()) else some (0,())) x.railways zmy (fun n i s hi=>by
   rw [z1e,if_pos (by simp; omega),z7 ⟨by omega,by omega⟩,W_id (by omega) (by omega)]
   unfold zmy
   cases s with
   | true=>rw [gz_f (by simp),Option.bind_some,gz_f (by simp)]; rfl
   | false=>
    rw [gz_t rfl,zq0 _ hφ,Option.bind_some]
    cases zqh (gt x.railways i).calendar with
    | false=>rw [gz_f (by simp)]; rfl
    | true=>rw [gz_t (by simp),zz9 _ (by omega)]; rfl) (fun n s=>by rw [z1e,if_neg (by simp)]) φ s0 (by omega)
  refine(a6 _).trans ?_
  show (if zn3 x=true then some ((1:Int),()) else some (0,()))=_
  cases zn3 x <;> rfl
theorem z68 {p:Pool} (h:zl p=0):z7z p.network=0/\z5i p.fleet=0/\p.readers.length<=256/\p.shippers.length<=256/\p.railways.length<=16/\zn3 p=false:=by
 unfold zl at h
 by_cases hn:z7z p.network=0
 case neg=>rw [if_pos hn] at h; exact absurd h hn
 rw [if_neg (fun e:z7z p.network≠0=>e hn)] at h
 by_cases hf:z5i p.fleet=0
 case neg=>rw [if_pos hf] at h; exact absurd h hf
 rw [if_neg (fun e:z5i p.fleet≠0=>e hf)] at h
 cases hb:zhg p with
 | true=>rw [hb] at h; cases h
 | false=>
  rw [hb] at h
  cases hd:zn3 p with
  | true=>rw [hd] at h; cases h
  | false=>
   simp only [zhg,Bool.or_eq_false_iff,decide_eq_false_iff_not] at hb
   exact⟨hn,hf,by omega,by omega,by omega,rfl⟩
theorem zm9 {p:Pool} (h:zl p=0) :(∀ r∈p.readers,0<=r.place/\r.place <(p.network.places.length:Int)/\-1000<=r.low/\r.low<=r.high/\r.high<=1000)/\
  (∀ w∈p.fleet.wagons,0<=w.home/\w.home <(p.network.places.length:Int))/\(∀ e∈p.network.edges,e.railway <(p.railways.length:Int))/\0<p.railways.length:=by
 obtain⟨hn,hf,h1,h2,h3,hb⟩:=z68 h
 simp only [zn3,Bool.or_eq_false_iff] at hb
 obtain⟨⟨⟨⟨⟨⟨b0,b1⟩,b2⟩,b3⟩,b4⟩,b5⟩,b6⟩:=hb
 obtain⟨_,_,_,_,_,hw,_,_⟩:=z6t hf
 refine⟨fun r hr=>?_,fun w hw'=>?_,fun e he=>?_,?_⟩
 ·have:=List.any_eq_false.1 b1 r hr
  simp only [z7v,Bool.not_eq_true,Bool.or_eq_false_iff,Bool.not_eq_false',decide_eq_false_iff_not] at this
  obtain⟨⟨⟨c1,c2⟩,c3⟩,c4⟩:=this
  have:=zug c1
  omega
 ·have:=List.any_eq_false.1 b3 w hw'
  have h3:=hw w hw'
  simp only [zg8,Bool.and_eq_true] at h3
  have:=zug h3.1.1.2
  simp at *
  omega
 ·have:=List.any_eq_false.1 b5 e he
  simp at this; omega
 ·simp at b0
  exact List.length_pos_iff.2 b0
end Px
end
section
namespace Px
open Go
theorem ykf {n b:Nat} (h:n<=100000) (hb:b<=1000):fits n b:=by
 unfold fits
 have:n*b<=100000*1000:=Nat.mul_le_mul h hb
 omega
abbrev Ln:=List ((Nat->Int)×Int)
abbrev keyP (a b:Int):Nat->Int:=upd (upd (fun _=>(default:Int)) 0 a) 1 b
abbrev lget (m:Ln) (a b:Int):Option Int:=@mget _ _ ⟨beqA 2⟩ m (keyP a b)
abbrev lset (m:Ln) (a b i:Int):Ln:=@mset _ _ ⟨beqA 2⟩ m (keyP a b) i
theorem ygx (f g:Nat->Int):beqA 2 f g =(f 0==g 0&&f 1==g 1):=by
 simp [beqA,List.range_succ]
theorem ymc (a b:Int):keyP a b 0=a:=rfl
theorem ylw (a b:Int):keyP a b 1=b:=rfl
theorem zod (m:Ln) (a b i c d:Int):lget (lset m a b i) c d=if c=a/\d=b then some i else lget m c d:=by
 induction m with
 | nil=>
  show (bif beqA 2 (keyP c d) (keyP a b) then some i else none)=_
  rw [ygx]
  simp only [ymc,ylw]
  by_cases h:c=a/\d=b
  ·rw [if_pos h]; simp [h]
  ·rw [if_neg h]
   have :(c==a&&d==b)=false:=by rw [<- Bool.not_eq_true]; simpa using h
   rw [this]; rfl
 | cons p m ih=>
  obtain⟨k,v⟩:=p
  show lget (bif beqA 2 (keyP a b) k then(keyP a b,i)::m else(k,v)::lset m a b i) c d=_
  have e1:lget ((k,v)::m) c d=bif beqA 2 (keyP c d) k then some v else lget m c d:=rfl
  cases h1:beqA 2 (keyP a b) k with
  | true=>
   rw [ygx] at h1
   simp only [ymc,ylw,Bool.and_eq_true,beq_iff_eq] at h1
   show (bif beqA 2 (keyP c d) (keyP a b) then some i else lget m c d)=_
   rw [e1,ygx,ygx]
   simp only [ymc,ylw]
   by_cases h:c=a/\d=b
   ·rw [if_pos h]; simp [h]
   ·rw [if_neg h]
    have h2 :(c==a&&d==b)=false:=by rw [<- Bool.not_eq_true]; simpa using h
    have h3 :(c==k 0&&d==k 1)=false:=by rw [<- h1.1,<- h1.2]; exact h2
    rw [h2,h3]; rfl
  | false=>
   show (bif beqA 2 (keyP c d) k then some v else lget (lset m a b i) c d)=_
   rw [ih,e1]
   cases h2:beqA 2 (keyP c d) k with
   | false=>rfl
   | true=>
    by_cases h:c=a/\d=b
    ·obtain⟨rfl,rfl⟩:=h
     rw [h1] at h2; cases h2
    ·show some v=_
     rw [if_neg h]; rfl
theorem yhy {b:Bool} (h:¬(!b)=true):b=true:=by cases b <;> simp_all
def ent1 (es:List Edge) (i a b:Int) (s:List (List Int)×Ln):List (List Int)×Ln:=
 (if(!(lget s.2 a b).isSome)=true then zp s.1 a (gt s.1 a++[b]) else s.1,
  if(!(lget s.2 a b).isSome||decide ((gt es i).minutes <(gt es ((lget s.2 a b).getD default)).minutes))=true then lset s.2 a b i else s.2)
def entE (es:List Edge) (i:Int) (s:List (List Int)×Ln):List (List Int)×Ln:=ent1 es i (gt es i).b (gt es i).a (ent1 es i (gt es i).a (gt es i).b s)
structure GI (es:List Edge) (P k:Nat) (s:List (List Int)×Ln):Prop where
 len:s.1.length=P
 near:∀ a b:Int,0<=a->a <(P:Int)->(b∈gt s.1 a↔(lget s.2 a b).isSome=true)
 line:∀ a b i:Int,lget s.2 a b=some i->0<=i/\i <(k:Int)/\(((gt es i).a=a/\(gt es i).b=b)\/((gt es i).a=b/\(gt es i).b=a))
 size:∀ a:Int,0<=a->a <(P:Int)->(gt s.1 a).length<=2*k
structure HI (es:List Edge) (P k:Nat) (s:List (List Int)×Ln):Prop extends GI es P k s where
 sym:∀ a b:Int,lget s.2 a b=lget s.2 b a
theorem yje (es:List Edge) (P:Nat):HI es P 0 (List.replicate P (default:List Int),[]) where
 len:=by simp
 near:=fun a b h0 h1=>by
  rw [z3e _ _ _ h0 (by omega)]
  show b∈([]:List Int)↔_
  simp [lget,mget]
 line:=fun a b i h=>by simp [lget,mget] at h
 size:=fun a h0 h1=>by rw [z3e _ _ _ h0 (by omega)]; simp; rfl
 sym:=fun a b=>rfl
theorem yne {es:List Edge} {P k:Nat} {s:List (List Int)×Ln} (h:GI es P k s) {a b:Int} (ha:0<=a) (ha':a <(P:Int)) (he :((gt es (k:Int)).a=a/\(gt es (k:Int)).b=b)\/((gt es (k:Int)).a=b/\(gt es (k:Int)).b=a)) :
  (ent1 es k a b s).1.length=P/\(∀ c d:Int,0<=c->c <(P:Int)->(d∈gt (ent1 es k a b s).1 c↔(lget (ent1 es k a b s).2 c d).isSome=true))/\
  (∀ c d i:Int,lget (ent1 es k a b s).2 c d=some i->0<=i/\i <((k+1:Nat):Int)/\(((gt es i).a=c/\(gt es i).b=d)\/((gt es i).a=d/\(gt es i).b=c)))/\
  (∀ c:Int,0<=c->c <(P:Int)->(gt (ent1 es k a b s).1 c).length<=(gt s.1 c).length+1)/\
  (∀ c d:Int,¬(c=a/\d=b)->lget (ent1 es k a b s).2 c d=lget s.2 c d)/\
  lget (ent1 es k a b s).2 a b =(if(!(lget s.2 a b).isSome||decide ((gt es (k:Int)).minutes <(gt es ((lget s.2 a b).getD default)).minutes))=true then some (k:Int) else lget s.2 a b):=by
 have hl2:∀ c d:Int,lget (ent1 es k a b s).2 c d=if(c=a/\d=b) then(if(!(lget s.2 a b).isSome||decide ((gt es (k:Int)).minutes <(gt es ((lget s.2 a b).getD default)).minutes))=true then some (k:Int) else lget s.2 a b) else lget s.2 c d:=by
  intro c d
  unfold ent1
  simp only []
  split
  ·rw [zod]
  ·split
   ·rename_i q; rw [q.1,q.2]
   ·rfl
 have hsm :(lget (ent1 es k a b s).2 a b).isSome=true:=by
  rw [hl2,if_pos ⟨rfl,rfl⟩]
  split
  ·rfl
  ·rename_i q
   simp only [Bool.or_eq_true,not_or] at q
   exact yhy q.1
 refine⟨?_,?_,?_,?_,fun c d hcd=>by rw [hl2,if_neg hcd],by rw [hl2,if_pos ⟨rfl,rfl⟩]⟩
 ·unfold ent1
  simp only []
  split
  ·rw [z0b]; exact h.len
  ·exact h.len
 ·intro c d hc hc'
  by_cases hcd:c=a/\d=b
  ·obtain⟨rfl,rfl⟩:=hcd
   rw [hsm]
   refine⟨fun _=>rfl,fun _=>?_⟩
   unfold ent1
   simp only []
   split
   ·rw [zu _ _ _ _ hc (by rw [h.len]; exact hc') hc,if_pos rfl]; simp
   ·rename_i q
    exact(h.near c d hc hc').2 (yhy q)
  ·rw [hl2,if_neg hcd,<- h.near c d hc hc']
   unfold ent1
   simp only []
   split
   ·rw [zu _ _ _ _ ha (by rw [h.len]; exact ha') hc]
    by_cases e:c=a
    ·subst e
     rw [if_pos rfl]
     simp only [List.mem_append,List.mem_singleton]
     exact⟨fun q=>q.resolve_right (fun e=>hcd ⟨rfl,e⟩),.inl⟩
    ·rw [if_neg e]
   ·exact Iff.rfl
 ·intro c d i hi
  rw [hl2] at hi
  split at hi
  ·rename_i q
   obtain⟨rfl,rfl⟩:=q
   split at hi
   ·have:=Option.some.inj hi
    subst this
    exact⟨by omega,by omega,he⟩
   ·obtain⟨h1,h2,h3⟩:=h.line _ _ _ hi
    exact⟨h1,by omega,h3⟩
  ·obtain⟨h1,h2,h3⟩:=h.line _ _ _ hi
   exact⟨h1,by omega,h3⟩
 ·intro c hc hc'
  unfold ent1
  simp only []
  split
  ·rw [zu _ _ _ _ ha (by rw [h.len]; exact ha') hc]
   split
   ·rename_i e; subst e; simp
   ·omega
  ·omega
theorem ymj {es:List Edge} {P k:Nat} {s:List (List Int)×Ln} (h:HI es P k s) (ha:0<=(gt es (k:Int)).a) (ha' :(gt es (k:Int)).a <(P:Int)) (hb:0<=(gt es (k:Int)).b) (hb' :(gt es (k:Int)).b <(P:Int)) (hne :(gt es (k:Int)).a≠(gt es (k:Int)).b) :
  HI es P (k+1) (entE es k s):=by
 obtain⟨a1,a2,a3,a4,a5,a6⟩:=yne h.toGI ha ha' (.inl ⟨rfl,rfl⟩)
 unfold entE
 generalize hs1:ent1 es k (gt es (k:Int)).a (gt es (k:Int)).b s=s1 at *
 generalize (gt es (k:Int)).a=a at *
 generalize (gt es (k:Int)).b=b at *
 -- the second end,by the same law: only the ziu on the numbers has moved
 have hl2:∀ c d:Int,lget (ent1 es k b a s1).2 c d=if(c=b/\d=a) then(if(!(lget s1.2 b a).isSome||decide ((gt es (k:Int)).minutes <(gt es ((lget s1.2 b a).getD default)).minutes))=true then some (k:Int) else lget s1.2 b a) else lget s1.2 c d:=by
  intro c d
  unfold ent1
  simp only []
  split
  ·rw [zod]
  ·split
   ·rename_i q; rw [q.1,q.2]
   ·rfl
 have hba:lget s1.2 b a=lget s.2 a b:=by rw [a5 b a (fun q=>hne q.2),h.sym]
 have hsm :(lget (ent1 es k b a s1).2 b a).isSome=true:=by
  rw [hl2,if_pos ⟨rfl,rfl⟩]
  split
  ·rfl
  ·rename_i q
   simp only [Bool.or_eq_true,not_or] at q
   exact yhy q.1
 have hlab:lget (ent1 es k b a s1).2 a b=lget s1.2 a b:=by rw [hl2,if_neg (fun q=>hne q.1)]
 have hlba:lget (ent1 es k b a s1).2 b a=lget s1.2 a b:=by
  rw [hl2,if_pos ⟨rfl,rfl⟩,hba,a6]
 have hab :((gt es (k:Int)).a=a/\(gt es (k:Int)).b=b)\/((gt es (k:Int)).a=b/\(gt es (k:Int)).b=a)->True:=fun _=>trivial
 refine⟨⟨?_,?_,?_,?_⟩,?_⟩
 ·unfold ent1
  simp only []
  split
  ·rw [z0b]; exact a1
  ·exact a1
 ·intro c d hc hc'
  by_cases hcd:c=b/\d=a
  ·obtain⟨rfl,rfl⟩:=hcd
   rw [hsm]
   refine⟨fun _=>rfl,fun _=>?_⟩
   unfold ent1
   simp only []
   split
   ·rw [zu _ _ _ _ hc (by rw [a1]; exact hc') hc,if_pos rfl]; simp
   ·rename_i q
    exact(a2 c d hc hc').2 (yhy q)
  ·rw [hl2,if_neg hcd,<- a2 c d hc hc']
   unfold ent1
   simp only []
   split
   ·rw [zu _ _ _ _ hb (by rw [a1]; exact hb') hc]
    by_cases e:c=b
    ·subst e
     rw [if_pos rfl]
     simp only [List.mem_append,List.mem_singleton]
     exact⟨fun q=>q.resolve_right (fun e=>hcd ⟨rfl,e⟩),.inl⟩
    ·rw [if_neg e]
   ·exact Iff.rfl
 ·intro c d i hi
  by_cases hcd:c=b/\d=a
  ·obtain⟨rfl,rfl⟩:=hcd
   rw [hlba] at hi
   obtain⟨h1,h2,h3⟩:=a3 _ _ _ hi
   exact⟨h1,h2,h3.elim .inr .inl⟩
  ·rw [hl2,if_neg hcd] at hi
   exact a3 _ _ _ hi
 ·intro c hc hc'
  have h1:=a4 c hc hc'
  have h0:=h.size c hc hc'
  have h2 :(gt (ent1 es k b a s1).1 c).length<=(gt s1.1 c).length+1:=by
   unfold ent1
   simp only []
   split
   ·rw [zu _ _ _ _ hb (by rw [a1]; exact hb') hc]
    split
    ·rename_i e; subst e; simp
    ·omega
   ·omega
  omega
 ·intro c d
  by_cases h1:c=b/\d=a
  ·obtain⟨rfl,rfl⟩:=h1
   rw [hlba,hlab]
  ·by_cases h2:c=a/\d=b
   ·obtain⟨rfl,rfl⟩:=h2
    rw [hlab,hlba]
   ·rw [hl2,if_neg h1,hl2,if_neg (fun q=>h2 ⟨q.2,q.1⟩),a5 c d h2,a5 d c (fun q=>h1 ⟨q.2,q.1⟩),h.sym]
def zey (es:List Edge) (P:Nat):Nat->List (List Int)×Ln
 | 0=>(List.replicate P default,[])
 | k+1=>entE es k (zey es P k)
structure zbp (x:zc):Prop where
 places:x.places.length<=512
 edges:x.edges.length<=2048
 edge:∀ i:Int,0<=i->i <(x.edges.length:Int)->zcd x.places.length (gt x.edges i)=true
theorem yfw {x:zc} (h:z7z x=0):zbp x:=by
 obtain⟨h1,h2,_,h4⟩:=zld h
 exact⟨h1,h2,fun i h0 hi=>h4 _ (z0y h0 hi)⟩
theorem zbp.ends {x:zc} (h:zbp x) {i:Int} (h0:0<=i) (hi:i <(x.edges.length:Int)):0<=(gt x.edges i).a/\(gt x.edges i).a <(x.places.length:Int)/\0<=(gt x.edges i).b/\(gt x.edges i).b <(x.places.length:Int)/\
  (gt x.edges i).a≠(gt x.edges i).b/\0<=(gt x.edges i).railway/\(gt x.edges i).railway<=15/\1<=(gt x.edges i).minutes/\(gt x.edges i).minutes<=100000/\0<=(gt x.edges i).km/\(gt x.edges i).km<=10000:=by
 have:=h.edge i h0 hi
 simp only [zcd,Bool.and_eq_true,zg6,bne_iff_ne,ne_eq] at this
 obtain⟨⟨⟨⟨⟨q1,q2⟩,q3⟩,q4⟩,q5⟩,q6⟩:=this
 exact⟨q1.1,by omega,q2.1,by omega,q3,q4.1,q4.2,q5.1,q5.2,q6.1,q6.2⟩
theorem zis {x:zc} (h:zbp x):∀ k,k<=x.edges.length->HI x.edges x.places.length k (zey x.edges x.places.length k)
 | 0,_=>yje _ _
 | k+1,hk=>by
  obtain⟨a1,a2,a3,a4,a5,_⟩:=h.ends (i:=(k:Int)) (by omega) (by omega)
  exact ymj (zis h k (by omega)) a1 a2 a3 a4 a5
structure Gr (P:Nat) (near:List (List Int)) (wt:Int->Int->Int):Prop where
 len:near.length=P
 small:P<=512
 size:∀ a:Int,0<=a->a <(P:Int)->(gt near a).length<=5000
 rng:∀ a b:Int,0<=a->a <(P:Int)->b∈gt near a->0<=b/\b <(P:Int)
 sym:∀ a b:Int,0<=a->a <(P:Int)->b∈gt near a->a∈gt near b/\wt b a=wt a b
 wt:∀ a b:Int,0<=a->a <(P:Int)->b∈gt near a->1<=wt a b/\wt a b<=100000
def zcy (x:zc):Ln:=(zey x.edges x.places.length x.edges.length).2
def wtN (x:zc) (a b:Int):Int:=(gt x.edges ((lget (zcy x) a b).getD default)).minutes
def zn2 (x:zc):List (List Int):=(zey x.edges x.places.length x.edges.length).1
def z4u (x:zc):List (List Int):=(zn2 x).map fun l=>zkl (fun a b=>decide (a<b)) l
theorem zr2 {α β:Type} [Inhabited α] [Inhabited β] (f:α->β) (l:List α) {i:Int} (h0:0<=i) (h:i <(l.length:Int)):gt (l.map f) i=f (gt l i):=by
 obtain⟨n,rfl⟩:∃ n:Nat,i =(n:Int):=⟨i.toNat,by omega⟩
 rw [z0x (by simp; omega),z0x (by omega)]
 simp
theorem zz6 {x:zc} (h:zbp x) {a b:Int} (ha:0<=a) (ha':a <(x.places.length:Int)) (hb:b∈gt (z4u x) a):∃ i,lget (zcy x) a b=some i/\0<=i/\i <(x.edges.length:Int)/\(((gt x.edges i).a=a/\(gt x.edges i).b=b)\/((gt x.edges i).a=b/\(gt x.edges i).b=a)):=by
 have H:=zis h x.edges.length (Nat.le_refl _)
 unfold z4u at hb
 rw [zr2 _ _ ha (by show a <((zn2 x).length:Int); rw [show (zn2 x).length=_ from H.len]; exact ha')] at hb
 have hb:=(z0v _ _).mem_iff.1 hb
 have:=(H.near a b ha ha').1 hb
 obtain⟨i,hi⟩:=Option.isSome_iff_exists.1 this
 obtain⟨h1,h2,h3⟩:=H.line _ _ _ hi
 exact⟨i,hi,h1,h2,h3⟩
theorem grN {x:zc} (h:zbp x):Gr x.places.length (z4u x) (wtN x):=by
 have H:=zis h x.edges.length (Nat.le_refl _)
 have hlen :(z4u x).length=x.places.length:=by unfold z4u; rw [List.length_map]; exact H.len
 have hl0 :(zn2 x).length=x.places.length:=H.len
 have hmem:∀ a b:Int,0<=a->a <(x.places.length:Int)->(b∈gt (z4u x) a↔(lget (zcy x) a b).isSome=true):=by
  intro a b ha ha'
  unfold z4u
  rw [zr2 _ _ ha (by rw [hl0]; exact ha')]
  exact((z0v _ _).mem_iff).trans (H.near a b ha ha')
 refine⟨hlen,h.places,?_,?_,?_,?_⟩
 ·intro a ha ha'
  unfold z4u
  rw [zr2 _ _ ha (by rw [hl0]; exact ha'),(z0v _ _).length_eq]
  have:=H.size a ha ha'
  have:=h.edges
  show (gt (zey x.edges x.places.length x.edges.length).1 a).length<=_
  omega
 ·intro a b ha ha' hb
  obtain⟨i,_,h1,h2,h3⟩:=zz6 h ha ha' hb
  obtain⟨e1,e2,e3,e4,_⟩:=h.ends h1 h2
  rcases h3 with⟨rfl,rfl⟩ |⟨rfl,rfl⟩
  ·exact⟨e3,e4⟩
  ·exact⟨e1,e2⟩
 ·intro a b ha ha' hb
  obtain⟨i,hi,h1,h2,h3⟩:=zz6 h ha ha' hb
  obtain⟨e1,e2,e3,e4,_⟩:=h.ends h1 h2
  have hbr:0<=b/\b <(x.places.length:Int):=by
   rcases h3 with⟨rfl,rfl⟩ |⟨rfl,rfl⟩
   ·exact⟨e3,e4⟩
   ·exact⟨e1,e2⟩
  have hs:lget (zcy x) b a=lget (zcy x) a b:=H.sym b a
  refine⟨(hmem b a hbr.1 hbr.2).2 (by rw [hs,hi]; rfl),?_⟩
  unfold wtN
  rw [hs]
 ·intro a b ha ha' hb
  obtain⟨i,hi,h1,h2,_⟩:=zz6 h ha ha' hb
  obtain⟨_,_,_,_,_,_,_,e1,e2,_⟩:=h.ends h1 h2
  unfold wtN
  rw [hi]
  exact⟨e1,e2⟩
structure DI (P:Nat) (near:List (List Int)) (wt:Int->Int->Int) (s:Int) (k:Nat) (t:List Int) (d:List Bool):Prop where
 lt:t.length=P
 ld:d.length=P
 src:gt t s=0
 bd:∀ i:Int,0<=i->i <(P:Int)->gt t i=-1\/(0<=gt t i/\gt t i<=100000*k)
 don:∀ i:Int,0<=i->i <(P:Int)->gt d i=true->0<=gt t i
 pre:∀ a:Int,0<=a->a <(P:Int)->a≠s->0<=gt t a->∃ q,0<=q/\q <(P:Int)/\gt d q=true/\q∈gt near a/\gt t a=gt t q+wt q a
 mon:∀ q i:Int,0<=q->q <(P:Int)->0<=i->i <(P:Int)->gt d q=true->gt d i=false->0<=gt t i->gt t q<=gt t i
 nbr:∀ q i:Int,0<=q->q <(P:Int)->gt d q=true->i∈gt near q->0<=gt t i/\gt t i<=gt t q+wt q i
 cnt:d.count true=k
structure RndI (P:Nat) (near:List (List Int)) (wt:Int->Int->Int) (s p:Int) (k:Nat) (t0:List Int) (d:List Bool) (seen:List Int) (t:List Int):Prop where
 lt:t.length=P
 own:gt t p=gt t0 p
 val:∀ i:Int,0<=i->i <(P:Int)->gt t i=gt t0 i\/(i∈seen/\gt t i=gt t0 p+wt p i/\(gt t0 i<0\/gt t0 p+wt p i<gt t0 i))
 got:∀ i∈seen,0<=i->0<=gt t i/\gt t i<=gt t p+wt p i
end Px
end
