/- A part of the proof of emptiesIdle_holds. Conditions: none. -/
import Derived.Test.YtcofccdjgfgeeaaGreatKibf
import Derived.Test.YtcofccdjgfgeeaaGreatProg
import Derived.Ground.SlsfProg
import Derived.Ground.NamesProg
import Derived.Shelf.SlIterI.Nil
import Derived.Ground.GgzProg
import Derived.KernelRfl
set_option linter.unusedVariables false
set_option linter.unusedSimpArgs false
section
namespace Go.Proofs
open Go.Shelf
def Tryz.sortEv_ren:Go.Shelf.Ren:=⟨fun|6=>38|15=>81|14=>80|28=>129|29=>130|20=>121|21=>122|22=>123|23=>124|24=>125|25=>126|26=>127|27=>128|46=>166|47=>167|48=>168|49=>169|50=>170|57=>194|n=>n,fun|22=>37|24=>64|25=>107|3=>3|39=>175|0=>0|53=>216|55=>130|4=>4|46=>210|45=>209|50=>120|5=>5|9=>9|66=>245|70=>191|76=>268|77=>269|n=>n,fun|n=>n⟩
theorem Tryz.sortEv:Go.Proofs.SlLaysF0.n6 Tryz.prog Tryz.sortEv_ren:={
 mixed:=by kernel_rfl
 f6:=⟨Tryz.f38.name,by decide,Tryz.func38.trans (congrArg some (by kernel_rfl))⟩
 f14:=⟨Tryz.f80.name,by decide,Tryz.func80.trans (congrArg some (by kernel_rfl))⟩
 f15:=Tryz.func81.trans (congrArg some (by kernel_rfl))
 f20:=⟨Tryz.f121.name,by decide,Tryz.func121.trans (congrArg some (by kernel_rfl))⟩
 f21:=⟨Tryz.f122.name,by decide,Tryz.func122.trans (congrArg some (by kernel_rfl))⟩
 f22:=⟨Tryz.f123.name,by decide,Tryz.func123.trans (congrArg some (by kernel_rfl))⟩
 f23:=⟨Tryz.f124.name,by decide,Tryz.func124.trans (congrArg some (by kernel_rfl))⟩
 f24:=⟨Tryz.f125.name,by decide,Tryz.func125.trans (congrArg some (by kernel_rfl))⟩
 f25:=⟨Tryz.f126.name,by decide,Tryz.func126.trans (congrArg some (by kernel_rfl))⟩
 f26:=⟨Tryz.f127.name,by decide,Tryz.func127.trans (congrArg some (by kernel_rfl))⟩
 f27:=⟨Tryz.f128.name,by decide,Tryz.func128.trans (congrArg some (by kernel_rfl))⟩
 f28:=Tryz.func129.trans (congrArg some (by kernel_rfl))
 f29:=Tryz.func130.trans (congrArg some (by kernel_rfl))
 f46:=⟨Tryz.f166.name,by decide,Tryz.func166.trans (congrArg some (by kernel_rfl))⟩
 f47:=Tryz.func167.trans (congrArg some (by kernel_rfl))
 f48:=Tryz.func168.trans (congrArg some (by kernel_rfl))
 f49:=⟨Tryz.f169.name,by decide,Tryz.func169.trans (congrArg some (by kernel_rfl))⟩
 f50:=⟨Tryz.f170.name,by decide,Tryz.func170.trans (congrArg some (by kernel_rfl))⟩
 f57:=⟨Tryz.f194.name,by decide,Tryz.func194.trans (congrArg some (by kernel_rfl))⟩
 t0:=Tryz.underlying0
 a0:=Tryz.isAgg0
 z0:=Tryz.sizeOf0
 v0:=Tryz.zeroValue0
 t3:=Tryz.underlying3
 a3:=Tryz.isAgg3
 z3:=Tryz.sizeOf3
 v3:=Tryz.zeroValue3
 t4:=Tryz.underlying4
 a4:=Tryz.isAgg4
 z4:=Tryz.sizeOf4
 v4:=Tryz.zeroValue4
 t5:=Tryz.underlying5
 a5:=Tryz.isAgg5
 z5:=Tryz.sizeOf5
 v5:=Tryz.zeroValue5
 t9:=Tryz.underlying9
 a9:=Tryz.isAgg9
 z9:=Tryz.sizeOf9
 v9:=Tryz.zeroValue9
 t22:=Tryz.underlying37
 a22:=Tryz.isAgg37
 z22:=Tryz.sizeOf37
 v22:=Tryz.zeroValue37
 t25:=Tryz.underlying107
 a25:=Tryz.isAgg107
 z25:=Tryz.sizeOf107
 v25:=Tryz.zeroValue107
 t39:=Tryz.underlying175
 a39:=Tryz.isAgg175
 z39:=Tryz.sizeOf175
 v39:=Tryz.zeroValue175
 t45:=Tryz.underlying209
 a45:=Tryz.isAgg209
 z45:=Tryz.sizeOf209
 v45:=Tryz.zeroValue209
 t46:=Tryz.underlying210
 a46:=Tryz.isAgg210
 z46:=Tryz.sizeOf210
 v46:=Tryz.zeroValue210
 t50:=Tryz.underlying120
 a50:=Tryz.isAgg120
 z50:=Tryz.sizeOf120
 v50:=Tryz.zeroValue120
 t53:=Tryz.underlying216
 a53:=Tryz.isAgg216
 z53:=Tryz.sizeOf216
 v53:=Tryz.zeroValue216
 t55:=Tryz.underlying130
 a55:=Tryz.isAgg130
 z55:=Tryz.sizeOf130
 v55:=Tryz.zeroValue130
 t66:=Tryz.underlying245
 a66:=Tryz.isAgg245
 z66:=Tryz.sizeOf245
 v66:=Tryz.zeroValue245
 t70:=Tryz.underlying191
 a70:=Tryz.isAgg191
 z70:=Tryz.sizeOf191
 v70:=Tryz.zeroValue191
 t76:=Tryz.underlying268
 a76:=Tryz.isAgg268
 z76:=Tryz.sizeOf268
 v76:=Tryz.zeroValue268
 t77:=Tryz.underlying269
 a77:=Tryz.isAgg269
 z77:=Tryz.sizeOf269
 v77:=Tryz.zeroValue269 }
def Tryz.lays189_ren:Go.Shelf.Ren:=⟨fun|189=>111|125=>81|257=>162|128=>129|129=>130|294=>180|295=>181|296=>182|297=>183|298=>184|299=>185|216=>186|300=>187|301=>188|328=>195|329=>167|330=>168|331=>196|332=>197|215=>82|343=>200|n=>n,fun|28=>40|3=>3|46=>175|0=>0|51=>216|53=>130|4=>4|183=>210|182=>209|131=>120|5=>5|9=>9|218=>245|222=>191|228=>268|229=>269|n=>n,fun|n=>n⟩
theorem Tryz.lays189:Go.Proofs.Lays.n189 Tryz.prog Tryz.lays189_ren:={
 mixed:=by kernel_rfl
 f125:=Tryz.func81.trans (congrArg some (by kernel_rfl))
 f128:=Tryz.func129.trans (congrArg some (by kernel_rfl))
 f129:=Tryz.func130.trans (congrArg some (by kernel_rfl))
 f189:=Tryz.func111.trans (congrArg some (by kernel_rfl))
 f215:=Tryz.func82.trans (congrArg some (by kernel_rfl))
 f216:=Tryz.func186.trans (congrArg some (by kernel_rfl))
 f257:=Tryz.func162.trans (congrArg some (by kernel_rfl))
 f294:=Tryz.func180.trans (congrArg some (by kernel_rfl))
 f295:=Tryz.func181.trans (congrArg some (by kernel_rfl))
 f296:=Tryz.func182.trans (congrArg some (by kernel_rfl))
 f297:=Tryz.func183.trans (congrArg some (by kernel_rfl))
 f298:=Tryz.func184.trans (congrArg some (by kernel_rfl))
 f299:=Tryz.func185.trans (congrArg some (by kernel_rfl))
 f300:=Tryz.func187.trans (congrArg some (by kernel_rfl))
 f301:=Tryz.func188.trans (congrArg some (by kernel_rfl))
 f328:=Tryz.func195.trans (congrArg some (by kernel_rfl))
 f329:=Tryz.func167.trans (congrArg some (by kernel_rfl))
 f330:=Tryz.func168.trans (congrArg some (by kernel_rfl))
 f331:=Tryz.func196.trans (congrArg some (by kernel_rfl))
 f332:=Tryz.func197.trans (congrArg some (by kernel_rfl))
 f343:=Tryz.func200.trans (congrArg some (by kernel_rfl))
 t0:=Tryz.underlying0
 a0:=Tryz.isAgg0
 z0:=Tryz.sizeOf0
 v0:=Tryz.zeroValue0
 t3:=Tryz.underlying3
 a3:=Tryz.isAgg3
 z3:=Tryz.sizeOf3
 v3:=Tryz.zeroValue3
 t4:=Tryz.underlying4
 a4:=Tryz.isAgg4
 z4:=Tryz.sizeOf4
 v4:=Tryz.zeroValue4
 t5:=Tryz.underlying5
 a5:=Tryz.isAgg5
 z5:=Tryz.sizeOf5
 v5:=Tryz.zeroValue5
 t9:=Tryz.underlying9
 a9:=Tryz.isAgg9
 z9:=Tryz.sizeOf9
 v9:=Tryz.zeroValue9
 t28:=Tryz.underlying40
 a28:=Tryz.isAgg40
 z28:=Tryz.sizeOf40
 v28:=Tryz.zeroValue40
 t46:=Tryz.underlying175
 a46:=Tryz.isAgg175
 z46:=Tryz.sizeOf175
 v46:=Tryz.zeroValue175
 t51:=Tryz.underlying216
 a51:=Tryz.isAgg216
 z51:=Tryz.sizeOf216
 v51:=Tryz.zeroValue216
 t53:=Tryz.underlying130
 a53:=Tryz.isAgg130
 z53:=Tryz.sizeOf130
 v53:=Tryz.zeroValue130
 t131:=Tryz.underlying120
 a131:=Tryz.isAgg120
 z131:=Tryz.sizeOf120
 v131:=Tryz.zeroValue120
 t182:=Tryz.underlying209
 a182:=Tryz.isAgg209
 z182:=Tryz.sizeOf209
 v182:=Tryz.zeroValue209
 t183:=Tryz.underlying210
 a183:=Tryz.isAgg210
 z183:=Tryz.sizeOf210
 v183:=Tryz.zeroValue210
 t218:=Tryz.underlying245
 a218:=Tryz.isAgg245
 z218:=Tryz.sizeOf245
 v218:=Tryz.zeroValue245
 t222:=Tryz.underlying191
 a222:=Tryz.isAgg191
 z222:=Tryz.sizeOf191
 v222:=Tryz.zeroValue191
 t228:=Tryz.underlying268
 a228:=Tryz.isAgg268
 z228:=Tryz.sizeOf268
 v228:=Tryz.zeroValue268
 t229:=Tryz.underlying269
 a229:=Tryz.isAgg269
 z229:=Tryz.sizeOf269
 v229:=Tryz.zeroValue269 }
def Tryz.sortedK_ren:Go.Shelf.Ren:=⟨fun|6=>63|8=>110|9=>111|11=>161|13=>81|12=>162|23=>129|24=>130|14=>180|15=>181|16=>182|17=>183|18=>184|19=>185|20=>186|21=>187|22=>188|25=>195|26=>167|27=>168|28=>196|29=>197|30=>82|31=>200|n=>n,fun|26=>3|28=>146|24=>40|0=>0|3=>3|37=>175|48=>216|50=>130|4=>4|40=>210|39=>209|45=>120|5=>5|9=>9|51=>245|55=>191|57=>268|58=>269|33=>176|n=>n,fun|n=>n⟩
theorem Tryz.sortedK:Go.Proofs.SlLaysZI.n6 Tryz.prog Tryz.sortedK_ren:={
 mixed:=by kernel_rfl
 f6:=⟨Tryz.f63.name,by decide,Tryz.func63.trans (congrArg some (by kernel_rfl))⟩
 f8:=⟨Tryz.f110.name,by decide,Tryz.func110.trans (congrArg some (by kernel_rfl))⟩
 f11:=⟨Tryz.f161.name,by decide,Tryz.func161.trans (congrArg some (by kernel_rfl))⟩
 t0:=Tryz.underlying0
 a0:=Tryz.isAgg0
 z0:=Tryz.sizeOf0
 v0:=Tryz.zeroValue0
 t24:=Tryz.underlying40
 a24:=Tryz.isAgg40
 z24:=Tryz.sizeOf40
 v24:=Tryz.zeroValue40
 t26:=Tryz.underlying3
 a26:=Tryz.isAgg3
 z26:=Tryz.sizeOf3
 v26:=Tryz.zeroValue3
 t28:=Tryz.underlying146
 a28:=Tryz.isAgg146
 z28:=Tryz.sizeOf146
 v28:=Tryz.zeroValue146
 i26:=by kernel_rfl }
def Tryz.keysK_ren:Go.Shelf.Ren:=⟨fun|10=>112|n=>n,fun|33=>176|23=>137|0=>0|4=>4|26=>3|3=>4|n=>n,fun|n=>n⟩
theorem Tryz.keysK:Go.Proofs.SlLaysZI.n10 Tryz.prog Tryz.keysK_ren:={
 mixed:=by kernel_rfl
 f10:=⟨Tryz.f112.name,by decide,Tryz.func112.trans (congrArg some (by kernel_rfl))⟩
 t0:=Tryz.underlying0
 a0:=Tryz.isAgg0
 z0:=Tryz.sizeOf0
 v0:=Tryz.zeroValue0
 t4:=Tryz.underlying4
 a4:=Tryz.isAgg4
 z4:=Tryz.sizeOf4
 v4:=Tryz.zeroValue4
 t23:=Tryz.underlying137
 a23:=Tryz.isAgg137
 z23:=Tryz.sizeOf137
 v23:=Tryz.zeroValue137
 t26:=Tryz.underlying3
 a26:=Tryz.isAgg3
 z26:=Tryz.sizeOf3
 v26:=Tryz.zeroValue3
 t33:=Tryz.underlying176
 a33:=Tryz.isAgg176
 z33:=Tryz.sizeOf176
 v33:=Tryz.zeroValue176 }
end Go.Proofs
end
section
namespace Px
open Go
theorem y4o{σ ρ:Type}(L:Nat->Int->σ->Option ρ)(len:Nat)(Inv:Nat->σ->Prop)(G:Option ρ->Prop)
  (step:∀n i s,i<len->Inv i s->(∀s',Inv (i+1) s'->G (L n ((i:Int)+1) s'))->G (L (n+1) i s))
  (done:∀n s,Inv len s->G (L (n+1) len s)):∀n i s,i<=len->Inv i s->len-i<n->G (L n i s):=by
 intro n
 induction n with
 |zero=>intro i s _ _ h;omega
 |succ n ih=>
  intro i s hi hI hn;by_cases h:i=len
  .subst h;exact done n s hI
  .refine step n i s (by omega) hI λs' hs'=>?_
   have:=ih (i+1) s' (by omega) hs' (by omega);simpa using this
theorem z31{σ ρ:Type}(L:Nat->Int->σ->Option ρ)(len:Nat)(Inv:Nat->σ->Prop)(G:Option ρ->Prop)
  (step:∀n i s,i<len->Inv i s->(∀s',Inv (i+1) s'->G (L n ((i:Int)+1) s'))->G (L (n+1) i s))
  (done:∀n s,Inv len s->G (L (n+1) len s)) (n:Nat) (s:σ) (h:Inv 0 s) (hn:len<n):G (L n 0 s):=by
 simpa using y4o L len Inv G step done n 0 s (w2p _) h (by omega)
theorem zmg(x:Int):W x=if x % 18446744073709551616 >= 9223372036854775808 then x % 18446744073709551616-18446744073709551616 else x % 18446744073709551616:=by simp[W,IntKind.wrap,IntKind.bits,IntKind.signed]
theorem y2e(x:Int):U x=x % 18446744073709551616:=by simp[U,IntKind.wrap,IntKind.bits,IntKind.signed]
theorem W_id{x:Int}(h : -9223372036854775808<=x)(h':x<=9223372036854775807):W x=x:=by rw[zmg];split<;>omega
theorem U_id{x:Int}(h:0<=x)(h':x<=18446744073709551615):U x=x:=by rw[y2e];omega
theorem zru{α:Type}[Inhabited α](ok:α->Bool)(l:List α)(i:Nat)(h:i<l.length):(l.take (i+1)).all ok =((l.take i).all ok&&ok (gt l (i:Int))):=by rw[w2y h,w4i];simp[gt,h]
theorem zig{α:Type}[Inhabited α](ok:α->Bool)(l:List α)(i:Nat)(h:i<l.length):(l.take (i+1)).any ok =((l.take i).any ok||ok (gt l (i:Int))):=by rw[w2y h,List.any_append];simp[gt,h]
theorem z27{α:Type}[Inhabited α](l:List α)(i:Nat)(h:i<l.length):l.take (i+1)=l.take i++[gt l (i:Int)]:=by rw[w2y h];simp[gt,h]
theorem zf5{α:Type}[Inhabited α]{l:List α}{i:Int}(h0:0<=i)(h:i<(l.length:Int)):gt l i∈l:=by
 have hlt:i.toNat<l.length:=by omega
 simp[gt,hlt]
theorem zv5{α:Type}[Inhabited α]{l:List α}{i:Nat}(h:i<l.length):gt l (i:Int)=l[i]:=by simp[gt,h]
theorem ycg{α:Type}[Inhabited α](l:List α)(i:Nat)(h:i<l.length):l.drop i=gt l (i:Int)::l.drop (i+1):=by rw[zv5 h,List.getElem_cons_drop]
theorem yfq{α:Type}[Inhabited α]{l:List α}{x:α}(h:x∈l):∃i:Nat,i<l.length/\gt l (i:Int)=x:=by obtain⟨i,hi,e⟩:=List.getElem_of_mem h;exact⟨i,hi,by rw[zv5 hi,e]⟩
theorem zjc{α:Type}[Inhabited α](l:List α)(i j:Int)(x:α)(hi:0<=i)(h:i<(l.length:Int))(hj:0<=j):gt (zt l i x) j=if j=i then x else gt l j:=by
 unfold gt zt;by_cases e:j=i
 .subst e;have:j.toNat<l.length:=by omega
  simp[List.getD,w1v,this]
 .have:i.toNat≠j.toNat:=by omega
  simp[List.getD,w1v,this,e]
theorem zep{α:Type}[Inhabited α](l m:List α)(j:Int)(h0:0<=j)(h:j<(l.length:Int)):gt (l++m) j=gt l j:=by
 have:j.toNat<l.length:=by omega
 simp[gt,List.getD,w1w,this]
theorem z9g{α:Type}[Inhabited α](l m:List α)(j:Int)(h :(l.length:Int)<=j):gt (l++m) j=gt m (j-l.length):=by
 have:¬j.toNat<l.length:=by omega
 have e :(j-l.length).toNat=j.toNat-l.length:=by omega
 simp[gt,List.getD,w1w,this,e]
theorem zng{α ρ:Type}[Inhabited α](L:Nat->Int->Int->Option ρ)(k:Int->Option ρ)(l:List α)(ok:α->Bool)
  (step:∀(n i:Nat)(s:Int),i<l.length->L (n+1) i s=L n ((i:Int)+1) (bif ok (gt l i) then s else 1)) (done:∀n s,L (n+1) l.length s=k s) :
  ∀n s,l.length<n->L n 0 s=k (bif l.all ok then s else 1):=by
 intro n s hn;refine y4o L l.length (λi t=>t=bif (l.take i).all ok then s else 1) (λo=>o=k (bif l.all ok then s else 1)) ?_ ?_ n 0 s (w2p _) (by simp) (by omega)
 .intro n i t hi ht hs;rw[step n i t hi];refine hs _ ?_;rw[zru ok l i hi,ht];cases (l.take i).all ok<;>cases ok (gt l (i:Int))<;>simp
 .intro n t ht;rw[done,ht,w29]
theorem y4n{α ρ:Type}[Inhabited α](L:Nat->Int->Option ρ)(k:Option ρ)(l:List α)(p:α->Bool)(g:α->Option ρ)
  (step:∀n i:Nat,i<l.length->L (n+1) i=bif p (gt l i) then g (gt l i) else L n ((i:Int)+1)) (done:∀n,L (n+1) l.length=k) :
  ∀n,l.length<n->L n 0=match l.find? p with|some x=>g x|none=>k:=by
 intro n hn;refine z31 (λn i(_:Unit)=>L n i) l.length (λi _=>∀x∈l.take i,p x=false) (λo=>o=match l.find? p with|some x=>g x|none=>k) ?_ ?_ n () (by simp) hn
 .intro n i _ hi hI hs;simp only[step n i hi];cases e:p (gt l (i:Int)) with
  |false=>
   refine hs () ?_;rw[z27 l i hi];intro x hx;rcases w0m.1 hx with h|h
   .exact hI x h
   .simp at h;rw[h];exact e
  |true=>
   have:l.find? p=some (gt l (i:Int)):=by
    have h1:l=l.take i++(gt l (i:Int)::l.drop (i+1)):=by rw[zv5 hi,List.getElem_cons_drop,w14]
    generalize gt l (i:Int)=y at *;rw[h1,List.find?_append,List.find?_eq_none.2 (λx hx=>by simp[hI x hx])];simp[List.find?_cons,e]
   rw[this];rfl
 .intro n _ hI;simp only[done];rw[w29] at hI;rw[List.find?_eq_none.2 (λx hx=>by simp[hI x hx])]
theorem y8f{α ρ:Type}(l:List α)(p:α->Bool)(r k:ρ):(match l.find? p with|some _=>r|none=>k)=bif l.any p then r else k:=by
 induction l with
 |nil=>rfl
 |cons x l ih=>
  rw[List.find?_cons,w3s];cases p x
  .simpa using ih
  .rfl
theorem zt3{α ρ:Type}[Inhabited α](L:Nat->Int->Option ρ)(k r:Option ρ)(l:List α)(p:α->Bool)
  (step:∀n i:Nat,i<l.length->L (n+1) i=bif p (gt l i) then r else L n ((i:Int)+1)) (done:∀n,L (n+1) l.length=k)
  (n:Nat) (hn:l.length<n):L n 0=bif l.any p then r else k:=by
 rw[y4n L k l p (λ_=>r) step done n hn,y8f]
theorem zgi{α σ ρ:Type}[Inhabited α](L:Nat->Int->σ->Option ρ)(k:σ->Option ρ)(l:List α)(f:σ->α->σ)(Inv:Nat->σ->Prop)
  (step:∀(n i:Nat)(s:σ),i<l.length->Inv i s->L (n+1) i s=L n ((i:Int)+1) (f s (gt l i))/\Inv (i+1) (f s (gt l i))) (done:∀n s,Inv l.length s->L (n+1) l.length s=k s)
  (n:Nat) (s:σ) (h0:Inv 0 s) (hn:l.length<n):L n 0 s=k (l.foldl f s)/\Inv l.length (l.foldl f s):=by
 refine z31 L l.length (λi t=>t =(l.take i).foldl f s/\Inv i t) (λo=>o=k (l.foldl f s)/\Inv l.length (l.foldl f s)) ?_ ?_ n s ⟨by simp,h0⟩ hn
 .intro n i t hi ⟨ht,hI⟩ hs;rw[(step n i t hi hI).1];refine hs _ ⟨?_,(step n i t hi hI).2⟩;rw[z27 l i hi,List.foldl_append,<- ht];rfl
 .intro n t ⟨ht,hI⟩;rw[w29] at ht;subst ht;exact⟨done n _ hI,hI⟩
def bet(a b c:Int):Bool:=decide (b<=a)&&decide (a<=c)
theorem y2l{a b c:Int}: bet a b c=true↔b<=a/\a<=c:=by simp[bet]
theorem ybq{a b c:Int}(h:bet a b c=true):b<=a/\a<=c:=y2l.1 h
theorem ydc{x y z:Int}: min2 x y<z↔x<z\/y<z:=by unfold min2;split<;>omega
end Px
end
section
namespace Px
open Go
theorem ze6{a b:Int}: cmpI a b<0↔a<b:=by unfold cmpI;(repeat' split)<;>omega
theorem zkg{a b:Int}: cmpI a b=0↔a=b:=by unfold cmpI;(repeat' split)<;>omega
theorem zrh{a b:Int}: or2 a b<0↔a<0\/(a=0/\b<0):=by unfold or2;split<;>omega
theorem z6x{a b:zf}: z9p a b<0↔a.type_<b.type_\/(a.type_=b.type_/\(a.class_<b.class_\/(a.class_=b.class_/\a.place<b.place))):=by unfold z9p;rw[zrh,zrh,ze6,ze6,ze6,zkg,zkg]
theorem y6u:Sort.SWO (Proofs.ltOf λa b : {y:zf //(λ_:zf=>true) y=true}=>z9p a.1 b.1) where
 irrefl:=λx=>by simp only[Proofs.ltOf,decide_eq_false_iff_not];rw[z6x];omega
 trans:=λx y z h1 h2=>by simp only[Proofs.ltOf,decide_eq_true_eq] at *;rw[z6x] at *;omega
 ntrans:=λx y z h1 h2=>by simp only[Proofs.ltOf,decide_eq_false_iff_not] at *;rw[z6x] at *;omega
theorem zgv(φ:Nat)(a b:Int):z2e φ a b=some (cmpI a b,()):=by
 unfold z2e cmpI;simp only[bne_self_eq_false,w0q,if_false,decide_eq_true_eq];split
 .rfl
 .split<;>rfl
theorem yge(φ:Nat)(h:3<=φ)(a b:Int):zil φ [a,b]=some (or2 a b,()):=by
 obtain⟨n,rfl⟩:∃n,φ=n+3:=⟨φ-3,by omega⟩;show _=some (if a≠0 then a else b,());unfold zil;rw[z62,if_pos (by simp),zg ⟨by omega,by simp⟩];show (if(a !=0)=true then _ else _)=_;by_cases h1:a=0
 .rw[if_neg (by simp[h1]),if_neg (by simp[h1]),z62,if_pos (by simp[zmg]),zg ⟨by simp[zmg],by simp[zmg]⟩];show (if(b !=0)=true then _ else _)=_;by_cases h2:b=0
  .rw[if_neg (by simp[h2]),z62,if_neg (by simp[zmg]),h2]
  .rw[if_pos (by simp[h2])];rfl
 .rw[if_pos (by simp[h1]),if_pos (by simp[h1])];rfl
theorem ybd(φ:Nat)(h:6<=φ)(a b c:Int):zil φ [a,b,c]=some (or2 a (or2 b c),()):=by
 obtain⟨n,rfl⟩:∃n,φ=n+6:=⟨φ-6,by omega⟩;show _=some (if a≠0 then a else if b≠0 then b else c,());unfold zil;rw[z62,if_pos (by simp),zg ⟨by omega,by simp⟩];show (if(a !=0)=true then _ else _)=_;by_cases h1:a=0
 .rw[if_neg (by simp[h1]),if_neg (by simp[h1]),z62,if_pos (by simp[zmg]),zg ⟨by simp[zmg],by simp[zmg]⟩];show (if(b !=0)=true then _ else _)=_;by_cases h2:b=0
  .rw[if_neg (by simp[h2]),if_neg (by simp[h2]),z62,if_pos (by simp[zmg]),zg ⟨by simp[zmg],by simp[zmg]⟩];show (if(c !=0)=true then _ else _)=_;by_cases h3:c=0
   .rw[if_neg (by simp[h3]),z62,if_neg (by simp[zmg]),h3]
   .rw[if_pos (by simp[h3])];rfl
  .rw[if_pos (by simp[h2]),if_pos (by simp[h2])];rfl
 .rw[if_pos (by simp[h1]),if_pos (by simp[h1])];rfl
theorem y2a(a b:zf):zcy 10 a b=some (z9p a b,()):=by unfold zcy z9p;simp only[zgv,w04];rw[ybd 10 (by omega)];rfl
theorem y1w{α:Type}{ok:α->Bool}{cf:α->α->Int}(ho:∀a b c,cf a b >= 0->cf b c >= 0->cf a c >= 0)(hi:∀a,cf a a >= 0)(ht:∀a b c,cf a b<0->cf b c<0->cf a c<0){l l':List α}(p:l.Perm l'):zn6 ok cf l=zn6 ok cf l':=by
 have hs:Sort.SWO (λa b:α=>decide (cf a b<0)):=⟨λa=>by have:=hi a;simp;omega,λa b c h1 h2=>by simp at *;exact ht a b c h1 h2,λa b c h1 h2=>by simp at *;exact ho a b c h1 h2⟩;have key:∀l l' r:List α,l.Perm l'->zn6 ok cf l=some r->zn6 ok cf l'=some r:=by
  intro l l' r p h;obtain⟨h1,h2,h3,rfl⟩:=zw1 h;have h3':l.Pairwise λa b=>cf a b<0\/cf b a<0:=h3.imp λh=>by simpa using h
  rw[y0c (λy hy=>h1 y (p.mem_iff.2 hy)) (by rw[<- p.length_eq];exact h2) ((p.pairwise_iff (λ{a b}h=>h.symm)).1 h3')];rw[zrn (l:=l) h3 ((z16 _ _).trans p.symm) (z16 _ _) (z52 hs _) (z52 hs _)]
 cases h:zn6 ok cf l with
 |some r=>exact(key l l' r p h).symm
 |none=>
  cases h':zn6 ok cf l' with
  |none=>rfl
  |some r=>rw[key l' l r p.symm h'] at h;cases h
theorem zw5{l l':List zf}(p:l.Perm l'):zln l=zln l':=by
 have hlt:∀a b:zf,z9p a b >= 0->¬(a.type_<b.type_\/(a.type_=b.type_/\(a.class_<b.class_\/(a.class_=b.class_/\a.place<b.place)))):=λa b h q=>by have:=z6x.2 q;omega
 have hge:∀a b:zf,¬(a.type_<b.type_\/(a.type_=b.type_/\(a.class_<b.class_\/(a.class_=b.class_/\a.place<b.place))))->z9p a b >= 0:=λa b h=>Int.not_lt.1 λq=>h (z6x.1 q)
 refine y1w (λa b c h1 h2=>?_) (λa=>hge a a (by omega)) (λa b c h1 h2=>?_) p
 .have:=hlt _ _ h1
  have:=hlt _ _ h2;exact hge _ _ (by omega)
 .rw[z6x] at *;omega
theorem zqv(φ:Nat):∀(n:Nat)(w:Int)(p p':List zf)(rem:List (zc×Int)),p.Perm p'->zq φ n w p rem=zq φ n w p' rem
 |0,w,p,p',rem,h=>rfl
 |n+1,w,p,p',[],h=>by simp only[zq,z0e,zw5 h]
 |n+1,w,p,p',e::r,h=>by simp only[zq,z0e,h.length_eq];rw[zqv φ n w _ _ r (h.append_right [_])]
theorem zrt(φ:Nat){rem rem':List (zc×Int)}(h:rem.Perm rem'):∀(n:Nat)(w:Int)(p:List zf),zq φ n w p rem=zq φ n w p rem':=by
 induction h with
 |nil=>intros;rfl
 |cons e h ih=>
  intro n w p;cases n with
  |zero=>rfl
  |succ n=>simp only[zq,z0e];rw[ih n w (p++_)]
 |swap a b r=>
  intro n w p
  match n with
  |0=>rfl
  |1=>
   simp only[zq,z0e,ck]
   repeat' split
   all_goals rfl
  |n+2=>simp only[zq,z0e,w0t,w2a,w2u,w0d,w0k,w1u];rw[zqv φ n w _ _ r (List.Perm.append_left p (List.Perm.swap _ _ _))]
 |trans h1 h2 ih1 ih2=>intro n w p;rw[ih1,ih2]
theorem zmd(φ:Nat){rem rem':List (Int×Bool)}(h:rem.Perm rem')(hd:Ndp kl_0 rem)(k20):∀(n:Nat)(a b c d e f g i)(m:List (Int×Bool)),Srt' kl_0 m->z00 φ k20 n a b c d e f g i m rem=z00 φ k20 n a b c d e f g i m rem':=by
 induction h with
 |nil=>intros;rfl
 |cons x h ih=>
  intro n a b c d e f g i m hm;cases n with
  |zero=>rfl
  |succ n=>simp only[z00,z1f];exact ih (w0o.1 hd).2 n _ _ _ _ _ _ _ _ _ (hm.set _ _)
 |swap x y r=>
  intro n a b c d e f g i m hm;have hne:kl_0 y.1≠kl_0 x.1:=(w0o.1 hd).1 x (by simp)
  match n with
  |0=>rfl
  |1=>rfl
  |n+2=>simp only[z00,z1f];rw[zuh hm hne]
 |trans h1 h2 ih1 ih2=>intro n a b c d e f g i m hm;rw[ih1 hd n _ _ _ _ _ _ _ _ m hm,ih2 (hd.perm h1) n _ _ _ _ _ _ _ _ m hm]
theorem zic(φ:Nat){rem rem':List (Int×Bool)}(h:rem.Perm rem')(hd:Ndp kl_0 rem)(k20):∀(n:Nat)(a b c d e f g i)(m:List (Int×Bool)),Srt' kl_0 m->z08 φ k20 n a b c d e f g i m rem=z08 φ k20 n a b c d e f g i m rem':=by
 induction h with
 |nil=>intros;rfl
 |cons x h ih=>
  intro n a b c d e f g i m hm;cases n with
  |zero=>rfl
  |succ n=>simp only[z08,z1i];exact ih (w0o.1 hd).2 n _ _ _ _ _ _ _ _ _ (hm.set _ _)
 |swap x y r=>
  intro n a b c d e f g i m hm;have hne:kl_0 y.1≠kl_0 x.1:=(w0o.1 hd).1 x (by simp)
  match n with
  |0=>rfl
  |1=>rfl
  |n+2=>simp only[z08,z1i];rw[zuh hm hne]
 |trans h1 h2 ih1 ih2=>intro n a b c d e f g i m hm;rw[ih1 hd n _ _ _ _ _ _ _ _ m hm,ih2 (hd.perm h1) n _ _ _ _ _ _ _ _ m hm]
end Px
end
section
namespace Px
open Go Go.RowKit
section
variable{κ ν:Type}{e:κ->List Int}{num:κ->Int}
theorem y6n(he:∀k,e k = [num k]){m:List (κ×ν)}(h:Srt' e m):(m.map λp=>num p.1).Pairwise λa b=>a<b:=by
 rw[w2s];refine List.Pairwise.imp (λ{a b}hab=>?_) h;rw[he,he] at hab;simp only[ltI] at hab;cases hd:decide (num a.1<num b.1) with
 |true=>exact of_decide_eq_true hd
 |false=>
  rw[hd] at hab;simp only[cond_false] at hab;cases hb :(num a.1==num b.1) with
  |true=>rw[hb] at hab;simp at hab
  |false=>rw[hb] at hab;simp at hab
theorem y4s{ss l:List Int}(hp:ss.Perm l)(hl:l.Pairwise λa b=>a<b):ss.mergeSort (λx y=>decide (x<=y))=l:=by refine List.Perm.eq_of_pairwise (le:=λa b:Int=>a<=b) (λa b _ _ h1 h2=>by omega) ?_ (hl.imp λh=>by omega) ((List.mergeSort_perm _ _).trans hp);have:=List.pairwise_mergeSort (le:=λx y:Int=>decide (x<=y)) (by intro a b c h1 h2;simp at *;omega) (by intro a b;simp;omega) ss;exact this.imp λh=>by simpa using h
theorem yc2{P:Program}{kt:TypeId}{eK:κ->Value}{eV:ν->Value}{w:World}{b:Nat}{m:List (κ×ν)}(hk:P.underlying kt=some (.int .i64))(he:∀k,e k = [num k])(hK:∀k,eK k = .int .i64 (num k))
  (hin:∀p∈m,-9223372036854775808<=num p.1/\num p.1<9223372036854775808) (hl:m.length<=17592186044416) (h:CM w b e eK eV m) :
  ∃D0:DataW Unit,w.ownsMap P kt (λ_=>some (.lit (.bool false),[])) b m.length D0/\Maps.size D0=m.length/\(intKeys D0).Perm (m.map λp=>num p.1):=by
 obtain⟨hs,es,clock,m',h1,h2,h3,h4⟩:=h;have hlen:es.toList.length=m.length:=by have:=congrArg List.length h4;simp only[w0x] at this;rw[this,h3.length_eq]
 have hkeys:es.toList.map (·.key)=m'.map λp=>Value.int .i64 (num p.1):=by have:=congrArg (List.map (·.1)) h4;simpa[Function.comp_def,hK] using this
 have hmem:∀x∈es.toList,∃n,x.key = .int .i64 n/\-9223372036854775808<=n/\n<9223372036854775808:=by intro x hx;have:x.key∈es.toList.map (·.key):=w0a.2 ⟨x,hx,rfl⟩;rw[hkeys] at this;obtain⟨p,hp,e1⟩:=w0a.1 this;exact⟨_,e1.symm,hin p (h3.mem_iff.1 hp)⟩
 have hrd:∀n:Int,-9223372036854775808<=n->n<9223372036854775808->keyOf P kt (.int .i64 n)=some (.int .i64 n):=by
  intro n ha hb;have hw :(Lit.int .i64 n).wf=true:=by simp only[Lit.wf,w03,decide_eq_true_eq];have e1:IntKind.i64.min=-9223372036854775808:=rfl;have e2:IntKind.i64.max=9223372036854775807:=rfl;rw[e1,e2];omega
  simp[keyOf,hk,mapKey,hw]
 have hrd2:∀x∈es.toList,∀n,x.key = .int .i64 n->WideElems.rd P kt (λ_=>some ((.lit (.bool false):DataW Unit),[])) x=some (.int .i64 n,.lit (.bool false)):=by intro x hx n hn;obtain⟨n',e1,ha,hb⟩:=hmem x hx;rw[hn] at e1;cases e1;simp[WideElems.rd,hn,hrd n ha hb]
 have hints:es.toList.map (λx=>Go.intOf (WideElems.rg P kt (λ_=>some ((.lit (.bool false):DataW Unit),[])) x).1)=m'.map λp=>num p.1:=by
  have e1:es.toList.map (λx=>Go.intOf (WideElems.rg P kt (λ_=>some ((.lit (.bool false):DataW Unit),[])) x).1) =(es.toList.map (·.key)).map λv=>match v with | .int _ n=>n|_=>0:=by
   rw[w2e];refine w4n λx hx=>?_
   obtain⟨n,e1,_⟩:=hmem x hx;simp only[WideElems.rg,hrd2 x hx n e1,w1e,Function.comp,e1,Go.intOf]
  rw[e1,hkeys,w2e];rfl
 refine⟨.map ((es.toList.map (WideElems.rg P kt λ_=>some (.lit (.bool false),[]))).foldr DataW.insert []),⟨es,clock,h1,⟨?_,⟨h2.lt,h2.nd,?_⟩,λx hx=>?_⟩,?_,rfl⟩,?_,?_⟩
 .have:es.size=m.length:=by simpa using hlen
  unfold maxLen;omega
 .rw[hkeys];have h5:=y6n (num:=num) he hs;have h6 :(m'.map λp=>num p.1).Nodup:=(h3.map (λp:κ×ν=>num p.1)).nodup_iff.2 (List.Pairwise.imp (λ{a b}h=>by omega) h5);have h7 :(m'.map λp=>Value.int .i64 (num p.1)) =(m'.map λp=>num p.1).map (Value.int .i64):=by rw[w2e];rfl
  rw[h7];exact w2s.2 (List.Pairwise.imp (λ{a b}h q=>h (by cases q;rfl)) h6)
 .obtain⟨n,e1,_⟩:=hmem x hx;exact⟨_,hrd2 x hx n e1⟩
 .have:es.size=m.length:=by simpa using hlen
  omega
 .rw[Maps.size_eq,(WideShapes.sorted_perm _).length_eq];simpa using hlen
 .show (List.map (λp:Lit×DataW Unit=>Go.intOf p.1) _).Perm _;refine((WideShapes.sorted_perm _).map _).trans ?_;rw[w2e];show (es.toList.map (λx=>Go.intOf (WideElems.rg P kt (λ_=>some ((.lit (.bool false):DataW Unit),[])) x).1)).Perm _;rw[hints];exact h3.map _
end
open Proofs in
theorem yhu{V:TE}{P:Program}{ρ σ τ:Shelf.Ren}(L:SlLaysZI.n6 P ρ)(K:SlLaysZI.n10 P σ)(S:Lays.n189 P τ){kc vc E:Nat}(num:V.T kc->Int)(hl:∀k,V.kl kc k = [num k])(hv:∀k,V.kv kc k = .int .i64 (num k))(hev:∀k,V.ev kc k = [iv .i64 (num k)])(hsz:V.sz kc=1)
  (h9:ρ.f 9=τ.f 189) (h26:ρ.t 26=E) (e9:∀args w,(callFunc (ρ.f 9) args).run P w = .ok (.enter (ρ.f 9) args) w) (eg:∀args w,(callFunc (σ.f 10) args).run P w = .ok (.enter (σ.f 10) args) w):SoOK V P (ρ.f 6) ⟨σ.f 10,kc,vc,E⟩:=by
 intro m hm;simp only[soK,w03,w0g] at hm;obtain⟨hin,hlen⟩:=hm;have hlen:=w0p hlen;have hin:∀p∈m,-9223372036854775808<=num p.1/\num p.1<9223372036854775808:=by intro p hp;have:=hin p hp;rw[hl] at this;simpa[inI] using this
 intro r w vs hr hsize hA;obtain⟨caps,hfn,hc1,hc2⟩:=hA 0 _ rfl;obtain⟨Bm,hcap,hrB,hcell⟩:=hc2 0 _ rfl;obtain⟨u,hu,hmap,_⟩:=hcell 0 _ rfl;have hcaps:caps = #[.pointer (some ⟨Bm,0,none⟩)]:=by
  refine Array.ext (by simpa using hc1) λi h1 h2=>?_
  have:i=0:=by simp at h2;omega
  subst this;rw[<- hcap];simp[w07,h1]
 subst hcaps;have hvs:vs = #[.func (.func (σ.f 10)) #[] #[.pointer (some ⟨Bm,0,none⟩)]]:=by
  refine Array.ext (by simpa using hsize) λi h1 h2=>?_
  have:i=0:=by simp at h2;omega
  subst this;rw[<- hfn];simp[w07,h1]
 subst hvs;have hBm:=hr Bm hrB;have hsorts:AnyZI.SortsIn P ρ Fence.wide 4:=by
  refine⟨λblk off cap ss W hH hb hs=>callsIn_wide.2 ?_,λp cap W=>callsIn_wide.2 ?_⟩
  .rw[h9];exact Any.slices_Sort_int S blk off cap ss W hH hb hs
  .rw[h9];exact Any.slices_Sort_int_none S p cap W
 have fin:∀(Sq:List Int->Prop),(∀ss,Sq ss->ss.Perm (m.map λp=>num p.1))->(m.map λp=>num p.1).Pairwise (λa b=>a<b)->SeqGives Fence.wide 2 P (σ.f 10) #[.pointer (some ⟨Bm,0,none⟩)] encZ Sq m.length w->
   Calls P (ρ.f 6) #[.func (.func (σ.f 10)) #[] #[.pointer (some ⟨Bm,0,none⟩)]] w (retR w w.heap.size r w λx news=>∃sv,x=eqv sv/\news = [row E (V.ev kc) (V.sz kc) (m.map (·.1)) sv]):=by
  intro Sq hSq hlt hseq;have cS:=AnyZI.sorted_in L Fence.wide 5 trivial trivial trivial trivial rfl (by omega) hsorts e9 (σ.f 10) #[.pointer (some ⟨Bm,0,none⟩)] trivial eg Sq m.length (by unfold maxLen;omega) (by omega) w hseq;refine(callsIn_wide.1 cS).mono ?_;rintro e w' ⟨v,ss,rfl,hS,hrow,hnil,hb⟩;have hms:=y4s (hSq ss hS) hlt;have hsl:ss.length=m.length:=by rw[(hSq ss hS).length_eq,w0x]
  rw[hms] at hrow;refine⟨v,eqv v,[row E (V.ev kc) (V.sz kc) (m.map (·.1)) v],r,λj b=>j=0/\v.ownBlock=some b,rfl,⟨λ_ h=>h,λb hb'=>hb.block b (hr b hb'),λ_ h=>.inl h⟩,⟨⟨hb,λh=>(h:False).elim⟩,hb.size,?_,?_,?_,λb hb'=>w2g (hr b hb') hb.size⟩,rfl,v,rfl,rfl⟩
  .intro i H hi;cases i with
   |succ i=>simp at hi
   |zero=>
    simp only[w1z,w00] at hi;subst hi;rcases hrow.2 with⟨h1,h2⟩|⟨g,cap,cur,h1,h2,h3,h4,h5,h6,h7⟩
    .exact .inl ⟨h1,by rw[List.map_eq_nil_iff];exact List.length_eq_zero_iff.1 (by omega)⟩
    .refine .inr ⟨g,cap,cur,?_,⟨rfl,by rw[h1];rfl⟩,?_,?_,h5,?_,?_⟩
     .rw[h1,w0x,hsl]
     .rw[<- h26];exact h3
     .rw[w0x];omega
     .rw[hsz];exact h6
     .rw[w0x,hsz,<- hsl,h7];have e1 :(m.map (·.1)).flatMap (V.ev kc) =((m.map λp=>num p.1).map encZ).map eqv:=by
       rw[w2e,w2e,w52];have:∀l:List (V.T kc×V.T vc),l.flatMap (λa=>V.ev kc a.1)=l.map ((eqv ∘ encZ) ∘ λp=>num p.1):=by
        intro l
        induction l with
        |nil=>rfl
        |cons a l ih=>rw[w0w,ih,hev];rfl
       exact this m
      rw[e1];exact zkp λv hv=>by obtain⟨n,_,rfl⟩:=w0a.1 hv;rfl
  .rintro i b ⟨rfl,hb'⟩;rcases hrow.2 with⟨h1,_⟩|⟨g,cap,cur,h1,h2,h3,_⟩
   .rw[h1] at hb';cases hb'
   .rw[h1] at hb';cases hb';exact⟨by simp,h2,(w19.1 h3).1,λq=>w47 _ (w2g (hr _ q) h2)⟩
  .rintro i j b ⟨rfl,_⟩ ⟨rfl,_⟩;rfl
 rcases hmap with⟨rfl,rfl⟩|⟨b,t,rfl,hmt,hrb,hCM,_⟩
 .refine fin (λss=>ss = []) (λss h=>by subst h;exact List.Perm.refl _) List.Pairwise.nil ?_;exact AnyZI.keys_gives_nil { K with } Fence.wide _ trivial rfl Bm w hBm hu
 .have hnum :(t.map λp=>num p.1)=m.map λp=>num p.1:=by rw[<- hmt,w2e];rfl
  have htl:t.length=m.length:=by rw[<- hmt,w0x]
  obtain⟨D0,h1,h2,h3⟩:=yc2 (num:=num) K.t26 hl hv (λp hp=>hin (p.1,p.2.1) (by rw[<- hmt];exact w0a.2 ⟨p,hp,rfl⟩)) (by omega) hCM;refine fin (λss=>ss.Perm (intKeys D0)) (λss h=>by rw[<- hnum];exact h.trans h3) (by rw[<- hnum];exact y6n hl hCM.1) ?_;have:=AnyZI.keys_gives { K with } Fence.wide 2 trivial rfl (by omega) Bm b _ D0 w hBm hu h1;rw[h2,htl] at this;exact this
end Px
end
section
set_option maxHeartbeats 4000000
set_option maxRecDepth 100000
namespace Px
open Go Go.RowKit Go.Proofs
def zcn(φ:Nat):H TV (RTup TT [.val 28]):=.x
def zgd(P:Program)(φ:Nat):Env TV:=⟨P,lk [],lk [],lk [],lk []⟩
theorem zva(φ:Nat)(a):(zco φ).F a=fnX TV (zgd Tryz.prog φ) φ Tryz.f27 [] [.val 28] (zcn φ) a:=by kernel_rfl
theorem zv9(φ:Nat):fnO TV (zgd Tryz.prog φ) φ Tryz.f27 [.val 28] (zcn φ):=by
 unfold fnO;show obl _ _ _ _ _ _ _ _;unfold zcn
 repeat' (first|exact trivial |(refine⟨?_,?_⟩) |(intro _)|kernel_rfl)
theorem zm2[Dr](φ:Nat):z1k TV Tryz.prog 27 (zco φ):=z2h (N:=zgd Tryz.prog φ) (z04 trivial trivial trivial trivial) (zcn φ) Tryz.func27 (by kernel_rfl) (zva φ) (zv9 φ)
def z7y(φ:Nat):H TV (RTup TT [.val 2]):=.x
def zc2(P:Program)(φ:Nat):Env TV:=⟨P,lk [],lk [],lk [],lk []⟩
theorem zpc(φ:Nat)(a):(zc3 φ).F a=fnX TV (zc2 Tryz.prog φ) φ Tryz.f116 [3] [.val 2] (z7y φ) a:=by kernel_rfl
theorem zpb(φ:Nat):fnO TV (zc2 Tryz.prog φ) φ Tryz.f116 [.val 2] (z7y φ):=by
 unfold fnO;show obl _ _ _ _ _ _ _ _;unfold z7y
 repeat' (first|exact trivial |(refine⟨?_,?_⟩) |(intro _)|kernel_rfl)
theorem zpa[Dr](φ:Nat):z1k TV Tryz.prog 116 (zc3 φ):=z2h (N:=zc2 Tryz.prog φ) (z04 trivial trivial trivial trivial) (z7y φ) Tryz.func116 (by kernel_rfl) (zpc φ) (zpb φ)
def zw2:Msp TV:=⟨3,0,[],λl _=>y6k l⟩
theorem y6l[Dr]:zme TV Tryz.prog 111 zw2:=λl _ l' sv h=>zw3 (ρ:=Tryz.lays189_ren) Tryz.lays189 h
def z7v(φ:Nat):H TV (RTup TT [.val 0]):=(.seq .x (.seq .x (.seq .x (.seq (.seq .x (.body (.loop ⟨[(84,[(1,.ptr 0 0),(3,.val 0),(20,.val 4),(21,.val 0),(22,.val 0)])],[.box 25 [.val 7]]⟩ (λn=>kk5 (z3d φ n)) (λzk7=>.x)))) (.seq (.seq .x (.body (.loop ⟨[(84,[(3,.val 0),(31,.val 6),(32,.val 0),(33,.val 0)])],[]⟩ (λn=>kk4 (z1t φ n)) (λzk13=>.x)))) .x)))))
def zbz(P:Program)(φ:Nat):Env TV:=⟨P,lk [(116,zc3 φ)],lk [],lk [],lk []⟩
theorem zp6(φ:Nat)(a):(z7w φ).F a=fnX TV (zbz Tryz.prog φ) φ Tryz.f73 [7] [.val 0] (z7v φ) a:=by kernel_rfl
theorem zp5(φ:Nat):fnO TV (zbz Tryz.prog φ) φ Tryz.f73 [.val 0] (z7v φ):=by
 unfold fnO;show obl _ _ _ _ _ _ _ _;unfold z7v
 repeat' (first|exact trivial |(refine⟨?_,?_⟩) |(intro _)|kernel_rfl)
theorem zgk[Dr](φ:Nat):z1k TV Tryz.prog 73 (z7w φ):=z2h (N:=zbz Tryz.prog φ) (z04 ⟨zpa φ,trivial⟩ trivial trivial trivial) (z7v φ) Tryz.func73 (by kernel_rfl) (zp6 φ) (zp5 φ)
def z7e(φ:Nat):H TV (RTup TT [.val 2]):=.x
def zb5(P:Program)(φ:Nat):Env TV:=⟨P,lk [],lk [],lk [],lk []⟩
theorem zog(φ:Nat)(a):(z3v φ).F a=fnX TV (zb5 Tryz.prog φ) φ Tryz.f75 [0,0,0] [.val 2] (z7e φ) a:=by kernel_rfl
theorem zof(φ:Nat):fnO TV (zb5 Tryz.prog φ) φ Tryz.f75 [.val 2] (z7e φ):=by
 unfold fnO;show obl _ _ _ _ _ _ _ _;unfold z7e
 repeat' (first|exact trivial |(refine⟨?_,?_⟩) |(intro _)|kernel_rfl)
theorem z7f[Dr](φ:Nat):z1k TV Tryz.prog 75 (z3v φ):=z2h (N:=zb5 Tryz.prog φ) (z04 trivial trivial trivial trivial) (z7e φ) Tryz.func75 (by kernel_rfl) (zog φ) (zof φ)
def zaf(φ:Nat):H TV (RTup TT [.val 0]):=(.seq .x (.seq .x (.seq .x (.seq .x (.seq (.seq .x (.body (.loop ⟨[(206,[(1,.ptr 0 0),(3,.ptr 1 0),(4,.func 117 [.ptr 1 0]),(41,.val 10),(42,.val 0),(43,.val 0)])],[.box 31 [.val 17],.box 45 [.val 0]]⟩ (λn=>kk5 (z3m φ n)) (λzk7=>(.seq .x (.seq .x (.seq (.body (.seq .x (.seq (.seq .x (.body (.loop ⟨[(206,[(1,.ptr 0 0),(3,.ptr 1 0),(4,.func 117 [.ptr 1 0]),(6,.ptr 2 0),(41,.val 10),(42,.val 0),(43,.val 0),(55,.own 3),(56,.val 0),(57,.val 0)])],[.box 31 [.val 17],.box 45 [.val 0],.box 155 [.val 9],.row 3 0]⟩ (λn z=>z20 φ (λa0 a1 a2 a3 a4=>zk7 (a0,a1,a2,a3,a4,())) n z.1 z.2.1 z.2.2.1 z.2.2.2.1 z.2.2.2.2.1 z.2.2.2.2.2.1 z.2.2.2.2.2.2.1 z.2.2.2.2.2.2.2.1 z.2.2.2.2.2.2.2.2.1) (λzk17=>.x)))) .x))) .x))))))) (.seq (.seq .x (.body (.loop ⟨[(206,[(1,.ptr 0 0),(3,.ptr 1 0),(4,.func 117 [.ptr 1 0]),(83,.val 12),(84,.val 0),(85,.val 0)])],[.box 31 [.val 17],.box 45 [.val 0]]⟩ (λn=>kk5 (z0g φ n)) (λzk27=>.x)))) (.seq (.seq .x (.body (.loop ⟨[(206,[(1,.ptr 0 0),(3,.ptr 1 0),(4,.func 117 [.ptr 1 0]),(120,.val 14),(121,.val 0),(122,.val 0)])],[.box 31 [.val 17],.box 45 [.val 0]]⟩ (λn=>kk5 (z0v φ n)) (λzk40=>.x)))) (.seq .x (.seq (.seq .x (.body (.loop ⟨[(206,[(3,.ptr 0 0),(4,.func 117 [.ptr 0 0]),(13,.ptr 1 0),(158,.val 16),(159,.val 0),(160,.val 0)])],[.box 45 [.val 0],.box 204 [.val 29]]⟩ (λn=>kk5 (zw φ n)) (λzk49=>.x)))) .x)))))))))
def zee(P:Program)(φ:Nat):Env TV:=⟨P,lk [(75,z3v φ)],lk [],lk [],lk []⟩
theorem zsi(φ:Nat)(a):(z7a φ).F a=fnX TV (zee Tryz.prog φ) φ Tryz.f74 [17] [.val 0] (zaf φ) a:=by kernel_rfl
theorem zsh(φ:Nat):fnO TV (zee Tryz.prog φ) φ Tryz.f74 [.val 0] (zaf φ):=by
 unfold fnO;show obl _ _ _ _ _ _ _ _;unfold zaf
 repeat' (first|exact trivial |(refine⟨?_,?_⟩) |(intro _)|kernel_rfl)
theorem zef[Dr](φ:Nat):z1k TV Tryz.prog 74 (z7a φ):=z2h (N:=zee Tryz.prog φ) (z04 ⟨z7f φ,trivial⟩ trivial trivial trivial) (zaf φ) Tryz.func74 (by kernel_rfl) (zsi φ) (zsh φ)
def z6c(φ:Nat):H TV (RTup TT [.val 0]):=(.seq .x (.seq (.seq .x (.body (.loop ⟨[(45,[(1,.ptr 0 0),(9,.val 23),(10,.val 0)])],[.box 129 [.val 25]]⟩ (λn=>kk3 (z2p φ n)) (λzk5=>.x)))) (.seq .x (.seq (.seq .x (.body (.loop ⟨[(45,[(5,.val 0),(30,.val 24),(31,.val 0),(32,.val 0)])],[]⟩ (λn=>kk4 (z29 φ n)) (λzk10=>.x)))) .x))))
def z9n(P:Program)(φ:Nat):Env TV:=⟨P,lk [],lk [],lk [],lk []⟩
theorem zmj(φ:Nat)(a):(z9o φ).F a=fnX TV (z9n Tryz.prog φ) φ Tryz.f76 [25] [.val 0] (z6c φ) a:=by kernel_rfl
theorem zmi(φ:Nat):fnO TV (z9n Tryz.prog φ) φ Tryz.f76 [.val 0] (z6c φ):=by
 unfold fnO;show obl _ _ _ _ _ _ _ _;unfold z6c
 repeat' (first|exact trivial |(refine⟨?_,?_⟩) |(intro _)|kernel_rfl)
theorem zmh[Dr](φ:Nat):z1k TV Tryz.prog 76 (z9o φ):=z2h (N:=z9n Tryz.prog φ) (z04 trivial trivial trivial trivial) (z6c φ) Tryz.func76 (by kernel_rfl) (zmj φ) (zmi φ)
def zcf(φ:Nat):H TV (RTup TT [.val 8,.val 8]):=.x
def zfq(P:Program)(φ:Nat):Env TV:=⟨P,lk [],lk [],lk [],lk []⟩
theorem zu5(φ:Nat)(a):(zfr φ).F a=fnX TV (zfq Tryz.prog φ) φ Tryz.f191 [8,8] [.val 8,.val 8] (zcf φ) a:=by kernel_rfl
theorem zu4(φ:Nat):fnO TV (zfq Tryz.prog φ) φ Tryz.f191 [.val 8,.val 8] (zcf φ):=by
 unfold fnO;show obl _ _ _ _ _ _ _ _;unfold zcf
 repeat' (first|exact trivial |(refine⟨?_,?_⟩) |(intro _)|kernel_rfl)
theorem zu3[Dr](φ:Nat):z1k TV Tryz.prog 191 (zfr φ):=z2h (N:=zfq Tryz.prog φ) (z04 trivial trivial trivial trivial) (zcf φ) Tryz.func191 (by kernel_rfl) (zu5 φ) (zu4 φ)
def z3f(φ:Nat):H TV (RTup TT [.val 0]):=(.seq .x (.seq (.ins 1 130 (.seq .x (.seq (.join ⟨[(25,[(0,.val 8),(2,.val 0)]),(6,[])],[]⟩ (kk2 (z1o φ)) (.seq .x .x)) (.seq (.join ⟨[(25,[(0,.val 8),(2,.val 0)]),(6,[])],[]⟩ (kk2 (z1p φ)) (.seq .x .x)) (.seq (.join ⟨[(25,[(0,.val 8),(2,.val 0)]),(6,[])],[]⟩ (kk2 (z1a φ)) (.seq .x .x)) .x)))) .x) .x))
def z4u(P:Program)(φ:Nat):Env TV:=⟨P,lk [],lk [],lk [],lk []⟩
theorem zfp(φ:Nat)(a):(z4v φ).F a=fnX TV (z4u Tryz.prog φ) φ Tryz.f199 [8] [.val 0] (z3f φ) a:=by kernel_rfl
theorem zfo(φ:Nat):fnO TV (z4u Tryz.prog φ) φ Tryz.f199 [.val 0] (z3f φ):=by
 unfold fnO;show obl _ _ _ _ _ _ _ _;unfold z3f
 repeat' (first|exact trivial |(refine⟨?_,?_⟩) |(intro _)|kernel_rfl)
theorem zfn[Dr](φ:Nat):z1k TV Tryz.prog 199 (z4v φ):=z2h (N:=z4u Tryz.prog φ) (z04 trivial trivial trivial trivial) (z3f φ) Tryz.func199 (by kernel_rfl) (zfp φ) (zfo φ)
def zce(φ:Nat):H TV (RTup TT [.val 8,.val 8]):=(.seq .x (.seq .x (.seq .x (.seq .x (.seq .x (.seq .x (.seq .x (.seq .x (.seq .x (.seq .x (.seq .x (.seq .x (.seq .x (.seq .x (.seq (.join ⟨[(135,[(2,.val 8),(8,.val 8),(9,.val 8),(10,.val 8),(11,.val 8),(13,.val 8),(14,.val 8),(15,.val 8)])],[]⟩ (kk8 (z60 φ)) (.body (.loop ⟨[(135,[(2,.val 8),(8,.val 8),(9,.val 8),(10,.val 8),(11,.val 8),(13,.val 8),(14,.val 8),(15,.val 8),(16,.val 8)])],[]⟩ (λn=>kk9 (z5z φ n)) (λzk40=>.x)))) (.seq .x (.seq .x (.seq .x (.seq (.join ⟨[(135,[(2,.val 8),(8,.val 8),(14,.val 8),(15,.val 8),(17,.val 8),(18,.val 8)])],[]⟩ (kk6 (z61 φ)) (.body (.loop ⟨[(135,[(2,.val 8),(8,.val 8),(9,.val 8),(10,.val 8),(14,.val 8),(15,.val 8),(16,.val 8),(17,.val 8),(18,.val 8)])],[]⟩ (λn=>kk9 (z5y φ n)) (λzk30=>.x)))) .x)))))))))))))))))))
def zfl(P:Program)(φ:Nat):Env TV:=⟨P,lk [(199,z4v φ)],lk [],lk [],lk []⟩
theorem zu2(φ:Nat)(a):(zfm φ).F a=fnX TV (zfl Tryz.prog φ) φ Tryz.f192 [8,8,8] [.val 8,.val 8] (zce φ) a:=by kernel_rfl
theorem zu1(φ:Nat):fnO TV (zfl Tryz.prog φ) φ Tryz.f192 [.val 8,.val 8] (zce φ):=by
 unfold fnO;show obl _ _ _ _ _ _ _ _;unfold zce
 repeat' (first|exact trivial |(refine⟨?_,?_⟩) |(intro _)|kernel_rfl)
theorem zu0[Dr](φ:Nat):z1k TV Tryz.prog 192 (zfm φ):=z2h (N:=zfl Tryz.prog φ) (z04 ⟨zfn φ,trivial⟩ trivial trivial trivial) (zce φ) Tryz.func192 (by kernel_rfl) (zu2 φ) (zu1 φ)
def zhc(φ:Nat):H TV (RTup TT [.val 8]):=(.seq .x (.seq .x (.seq .x (.seq (.seq (.ins 1 130 (.seq .x (.seq (.join ⟨[(25,[(0,.val 8),(2,.val 0)]),(33,[(0,.val 8),(1,.val 8),(5,.func 190 [.ptr 0 0]),(6,.val 8)])],[.box 130 [.val 8]]⟩ (kk6 (zca φ)) (.seq .x .x)) (.seq (.join ⟨[(25,[(0,.val 8),(2,.val 0)]),(33,[(0,.val 8),(1,.val 8),(5,.func 190 [.ptr 0 0]),(6,.val 8)])],[.box 130 [.val 8]]⟩ (kk6 (z9i φ)) (.seq .x .x)) (.seq (.join ⟨[(25,[(0,.val 8),(2,.val 0)]),(33,[(0,.val 8),(1,.val 8),(5,.func 190 [.ptr 0 0]),(6,.val 8)])],[.box 130 [.val 8]]⟩ (kk6 (z9j φ)) (.seq .x .x)) .x)))) .x) (.body (.loop ⟨[(33,[(0,.val 8),(1,.val 8),(5,.func 190 [.ptr 0 0]),(6,.val 8),(10,.val 0),(11,.val 0)])],[.box 130 [.val 8]]⟩ (λn=>kk6 (z0o φ n)) (λzk30=>(.seq .x (.seq .x (.seq (.body (.seq .x (.seq .x (.seq (.ins 2 130 (.seq .x (.seq (.join ⟨[(25,[(0,.val 8),(2,.val 0)]),(33,[(0,.val 8),(1,.val 8),(5,.func 190 [.ptr 0 0]),(6,.val 8),(7,.val 0),(10,.val 0),(11,.val 0),(18,.val 8)])],[.box 130 [.val 8]]⟩ (λz=>z3k φ (λa0 a1 a2 a3 a4 a5=>zk30 (a0,a1,a2,a3,a4,a5,())) z.1 z.2.1 z.2.2.1 z.2.2.2.1 z.2.2.2.2.1 z.2.2.2.2.2.1 z.2.2.2.2.2.2.1 z.2.2.2.2.2.2.2.1 z.2.2.2.2.2.2.2.2.1 z.2.2.2.2.2.2.2.2.2.1) (.seq .x .x)) (.seq (.join ⟨[(25,[(0,.val 8),(2,.val 0)]),(33,[(0,.val 8),(1,.val 8),(5,.func 190 [.ptr 0 0]),(6,.val 8),(7,.val 0),(10,.val 0),(11,.val 0),(18,.val 8)])],[.box 130 [.val 8]]⟩ (λz=>z9k φ (λa0 a1 a2 a3 a4 a5=>zk30 (a0,a1,a2,a3,a4,a5,())) z.1 z.2.1 z.2.2.1 z.2.2.2.1 z.2.2.2.2.1 z.2.2.2.2.2.1 z.2.2.2.2.2.2.1 z.2.2.2.2.2.2.2.1 z.2.2.2.2.2.2.2.2.1 z.2.2.2.2.2.2.2.2.2.1) (.seq .x .x)) (.seq (.join ⟨[(25,[(0,.val 8),(2,.val 0)]),(33,[(0,.val 8),(1,.val 8),(5,.func 190 [.ptr 0 0]),(6,.val 8),(7,.val 0),(10,.val 0),(11,.val 0),(18,.val 8)])],[.box 130 [.val 8]]⟩ (λz=>z9l φ (λa0 a1 a2 a3 a4 a5=>zk30 (a0,a1,a2,a3,a4,a5,())) z.1 z.2.1 z.2.2.1 z.2.2.2.1 z.2.2.2.2.1 z.2.2.2.2.2.1 z.2.2.2.2.2.2.1 z.2.2.2.2.2.2.2.1 z.2.2.2.2.2.2.2.2.1 z.2.2.2.2.2.2.2.2.2.1) (.seq .x .x)) .x)))) .x) .x)))) .x))))))) .x))))
def zli(P:Program)(φ:Nat):Env TV:=⟨P,lk [(191,zfr φ),(192,zfm φ)],lk [],lk [],lk []⟩
theorem y1u(φ:Nat)(a):(zlj φ).F a=fnX TV (zli Tryz.prog φ) φ Tryz.f118 [8,8] [.val 8] (zhc φ) a:=by kernel_rfl
theorem y1t(φ:Nat):fnO TV (zli Tryz.prog φ) φ Tryz.f118 [.val 8] (zhc φ):=by
 unfold fnO;show obl _ _ _ _ _ _ _ _;unfold zhc
 repeat' (first|exact trivial |(refine⟨?_,?_⟩) |(intro _)|kernel_rfl)
theorem y1s[Dr](φ:Nat):z1k TV Tryz.prog 118 (zlj φ):=z2h (N:=zli Tryz.prog φ) (z04 ⟨zu3 φ,zu0 φ,trivial⟩ trivial trivial trivial) (zhc φ) Tryz.func118 (by kernel_rfl) (y1u φ) (y1t φ)
def zcs(φ:Nat):H TV (RTup TT [.val 2]):=.x
def zgq(P:Program)(φ:Nat):Env TV:=⟨P,lk [(118,zlj φ)],lk [],lk [],lk []⟩
theorem zvz(φ:Nat)(a):(zgr φ).F a=fnX TV (zgq Tryz.prog φ) φ Tryz.f77 [8] [.val 2] (zcs φ) a:=by kernel_rfl
theorem zvy(φ:Nat):fnO TV (zgq Tryz.prog φ) φ Tryz.f77 [.val 2] (zcs φ):=by
 unfold fnO;show obl _ _ _ _ _ _ _ _;unfold zcs
 repeat' (first|exact trivial |(refine⟨?_,?_⟩) |(intro _)|kernel_rfl)
theorem zvx[Dr](φ:Nat):z1k TV Tryz.prog 77 (zgr φ):=z2h (N:=zgq Tryz.prog φ) (z04 ⟨y1s φ,trivial⟩ trivial trivial trivial) (zcs φ) Tryz.func77 (by kernel_rfl) (zvz φ) (zvy φ)
def z5h(φ:Nat):H TV (RTup TT [.val 0]):=(.seq .x (.seq .x (.seq .x (.seq .x (.seq .x (.seq .x (.seq (.seq .x (.body (.loop ⟨[(193,[(1,.ptr 0 0),(5,.val 4),(6,.val 0),(7,.val 2),(57,.val 19),(58,.val 0),(59,.val 0)])],[.box 36 [.val 28]]⟩ (λn=>kk7 (z1s φ n)) (λzk11=>.x)))) (.seq (.seq .x (.body (.loop ⟨[(193,[(1,.ptr 0 0),(5,.val 4),(6,.val 0),(7,.val 2),(92,.val 21),(93,.val 0),(94,.val 0)])],[.box 36 [.val 28]]⟩ (λn=>kk7 (z0y φ n)) (λzk20=>.x)))) (.seq (.seq .x (.body (.loop ⟨[(193,[(1,.ptr 0 0),(5,.val 4),(6,.val 0),(7,.val 2),(120,.val 12),(121,.val 0),(122,.val 0)])],[.box 36 [.val 28]]⟩ (λn=>kk7 (z0z φ n)) (λzk29=>.x)))) (.seq (.seq .x (.body (.loop ⟨[(193,[(1,.ptr 0 0),(6,.val 0),(7,.val 2),(135,.val 4),(136,.val 0),(137,.val 0)])],[.box 36 [.val 28]]⟩ (λn=>kk6 (z10 φ n)) (λzk36=>.x)))) (.seq (.seq .x (.body (.loop ⟨[(193,[(1,.ptr 0 0),(6,.val 0),(7,.val 2),(157,.val 6),(158,.val 0),(159,.val 0)])],[.box 36 [.val 28]]⟩ (λn=>kk6 (z11 φ n)) (λzk43=>.x)))) (.seq (.seq .x (.body (.loop ⟨[(193,[(7,.val 2),(172,.val 27),(173,.val 0),(174,.val 0)])],[]⟩ (λn=>kk4 (z12 φ n)) (λzk48=>.x)))) .x))))))))))))
def z8m(P:Program)(φ:Nat):Env TV:=⟨P,lk [(73,z7w φ),(74,z7a φ),(75,z3v φ),(76,z9o φ),(77,zgr φ)],lk [],lk [],lk []⟩
theorem zks(φ:Nat)(a):(z2r φ).F a=fnX TV (z8m Tryz.prog φ) φ Tryz.f34 [28] [.val 0] (z5h φ) a:=by kernel_rfl
theorem zkr(φ:Nat):fnO TV (z8m Tryz.prog φ) φ Tryz.f34 [.val 0] (z5h φ):=by
 unfold fnO;show obl _ _ _ _ _ _ _ _;unfold z5h
 repeat' (first|exact trivial |(refine⟨?_,?_⟩) |(intro _)|kernel_rfl)
theorem z5i[Dr](φ:Nat):z1k TV Tryz.prog 34 (z2r φ):=z2h (N:=z8m Tryz.prog φ) (z04 ⟨zgk φ,zef φ,z7f φ,zmh φ,zvx φ,trivial⟩ trivial trivial trivial) (z5h φ) Tryz.func34 (by kernel_rfl) (zks φ) (zkr φ)
def z5b(φ:Nat):H TV (RTup TT [.val 2]):=.x
def z8h(P:Program)(φ:Nat):Env TV:=⟨P,lk [],lk [],lk [],lk []⟩
theorem zkj(φ:Nat)(a):(z5c φ).F a=fnX TV (z8h Tryz.prog φ) φ Tryz.f94 [0,0,0] [.val 2] (z5b φ) a:=by kernel_rfl
theorem zki(φ:Nat):fnO TV (z8h Tryz.prog φ) φ Tryz.f94 [.val 2] (z5b φ):=by
 unfold fnO;show obl _ _ _ _ _ _ _ _;unfold z5b
 repeat' (first|exact trivial |(refine⟨?_,?_⟩) |(intro _)|kernel_rfl)
theorem zdp[Dr](φ:Nat):z1k TV Tryz.prog 94 (z5c φ):=z2h (N:=z8h Tryz.prog φ) (z04 trivial trivial trivial trivial) (z5b φ) Tryz.func94 (by kernel_rfl) (zkj φ) (zki φ)
def z6h(φ:Nat):H TV (RTup TT [.val 2]):=.x
def z9w(P:Program)(φ:Nat):Env TV:=⟨P,lk [(94,z5c φ)],lk [],lk [],lk []⟩
theorem zmt(φ:Nat)(a):(z6i φ).F a=fnX TV (z9w Tryz.prog φ) φ Tryz.f48 [28,1] [.val 2] (z6h φ) a:=by kernel_rfl
theorem zms(φ:Nat):fnO TV (z9w Tryz.prog φ) φ Tryz.f48 [.val 2] (z6h φ):=by
 unfold fnO;show obl _ _ _ _ _ _ _ _;unfold z6h
 repeat' (first|exact trivial |(refine⟨?_,?_⟩) |(intro _)|kernel_rfl)
theorem zf4[Dr](φ:Nat):z1k TV Tryz.prog 48 (z6i φ):=z2h (N:=z9w Tryz.prog φ) (z04 ⟨zdp φ,trivial⟩ trivial trivial trivial) (z6h φ) Tryz.func48 (by kernel_rfl) (zmt φ) (zms φ)
def z73(φ:Nat):H TV (RTup TT [.val 2]):=.x
def zax(P:Program)(φ:Nat):Env TV:=⟨P,lk [(94,z5c φ)],lk [],lk [],lk []⟩
theorem zo3(φ:Nat)(a):(z74 φ).F a=fnX TV (zax Tryz.prog φ) φ Tryz.f49 [28,30] [.val 2] (z73 φ) a:=by kernel_rfl
theorem zo2(φ:Nat):fnO TV (zax Tryz.prog φ) φ Tryz.f49 [.val 2] (z73 φ):=by
 unfold fnO;show obl _ _ _ _ _ _ _ _;unfold z73
 repeat' (first|exact trivial |(refine⟨?_,?_⟩) |(intro _)|kernel_rfl)
theorem zg2[Dr](φ:Nat):z1k TV Tryz.prog 49 (z74 φ):=z2h (N:=zax Tryz.prog φ) (z04 ⟨zdp φ,trivial⟩ trivial trivial trivial) (z73 φ) Tryz.func49 (by kernel_rfl) (zo3 φ) (zo2 φ)
def z7x(φ:Nat):H TV (RTup TT [.val 34,.val 0]):=(.seq .x (.seq .x (.seq (.seq .x (.body (.loop ⟨[(77,[(2,.ptr 0 0),(4,.ptr 1 0),(19,.val 24),(20,.val 0),(21,.val 0)])],[.box 25 [.val 7],.box 231 [.own 2,.raw (.map none)],.row 40 24]⟩ (λn=>kk5 (za1 φ n)) (λzk9=>.x)))) (.seq .x (.seq .x (.seq (.seq .x (.body (.loop ⟨[(77,[(4,.ptr 0 0),(8,.func 179 [.ptr 0 0,.ptr 1 0]),(44,.val 6),(45,.val 0),(46,.val 0)])],[.box 231 [.own 2,.own 3],.box 25 [.val 7],.nst 40 3 24 none,.map 32 0 0]⟩ (λn=>kk6 (z5l φ n)) (λzk16=>(.seq .x (.seq .x (.seq (.body (.seq .x (.seq (.ins 6 179 (.seq .x (.seq .x (.seq (.join ⟨[(56,[(2,.val 0),(3,.ptr 0 0),(4,.ptr 1 0),(8,.ptr 2 0),(9,.val 0),(10,.val 2)]),(77,[(4,.ptr 0 0),(8,.func 179 [.ptr 0 0,.ptr 1 0]),(9,.val 0),(10,.ptr 3 0),(44,.val 6),(45,.val 0),(46,.val 0)])],[.box 231 [.own 4,.own 5],.box 25 [.val 7],.box 252 [.val 32],.box 153 [.val 5],.nst 40 3 24 none,.map 32 0 0]⟩ (λz=>z8u φ (λa0 a1 a2 a3 a4 a5=>zk16 (a0,a1,a2,a3,a4,a5,())) z.1 z.2.1 z.2.2.1 z.2.2.2.1 z.2.2.2.2.1 z.2.2.2.2.2.1 z.2.2.2.2.2.2.1 z.2.2.2.2.2.2.2.1 z.2.2.2.2.2.2.2.2.1 z.2.2.2.2.2.2.2.2.2.1 z.2.2.2.2.2.2.2.2.2.2.1 z.2.2.2.2.2.2.2.2.2.2.2.1) (.seq .x (.cond (.foc (3,some 0) (0,none) .x) .x))) .x))) .x) (.ins 6 179 (.seq .x (.seq .x (.seq (.join ⟨[(56,[(2,.val 0),(3,.ptr 0 0),(4,.ptr 1 0),(8,.ptr 2 0),(9,.val 0),(10,.val 2)]),(77,[(4,.ptr 0 0),(8,.func 179 [.ptr 0 0,.ptr 1 0]),(44,.val 6),(45,.val 0),(46,.val 0)])],[.box 231 [.own 3,.own 4],.box 25 [.val 7],.box 252 [.val 32],.nst 40 3 24 none,.map 32 0 0]⟩ (λz=>z8v φ (λa0 a1 a2 a3 a4 a5=>zk16 (a0,a1,a2,a3,a4,a5,())) z.1 z.2.1 z.2.2.1 z.2.2.2.1 z.2.2.2.2.1 z.2.2.2.2.2.1 z.2.2.2.2.2.2.1 z.2.2.2.2.2.2.2.1 z.2.2.2.2.2.2.2.2.1 z.2.2.2.2.2.2.2.2.2.1) (.seq .x (.cond (.foc (3,some 0) (0,none) .x) .x))) .x))) .x)))) .x))))))) (.seq (.seq .x (.body (.loop ⟨[(77,[(4,.ptr 0 0),(67,.own 1),(68,.val 0),(69,.val 0)])],[.box 231 [.own 1,.own 2],.nst 40 3 24 none,.map 32 0 0]⟩ (λn=>kk4 (z8t φ n)) (λzk56=>(.seq .x (.seq .x (.seq (.body (.seq (.foc (67,none) (69,none) .x) .x)) .x))))))) .x)))))))
def zc0(P:Program)(φ:Nat):Env TV:=⟨P,lk [(73,z7w φ)],lk [(111,zw2)],lk [],lk []⟩
theorem zp9(φ:Nat)(a):(zc1 φ).F a=fnX TV (zc0 Tryz.prog φ) φ Tryz.f149 [7,24] [.val 34,.val 0] (z7x φ) a:=by kernel_rfl
theorem zp8(φ:Nat):fnO TV (zc0 Tryz.prog φ) φ Tryz.f149 [.val 34,.val 0] (z7x φ):=by
 unfold fnO;show obl _ _ _ _ _ _ _ _;unfold z7x
 repeat' (first|exact trivial |(refine⟨?_,?_⟩) |(intro _)|kernel_rfl)
theorem zp7[Dr](φ:Nat):z1k TV Tryz.prog 149 (zc1 φ):=z2h (N:=zc0 Tryz.prog φ) (z04 ⟨zgk φ,trivial⟩ ⟨(y6l),trivial⟩ trivial trivial) (z7x φ) Tryz.func149 (by kernel_rfl) (zp9 φ) (zp8 φ)
def z7z(φ:Nat):H TV (RTup TT [.val 24]):=(.seq .x (.seq .x (.seq .x (.seq (.seq .x (.body (.loop ⟨[(118,[(2,.val 0),(3,.ptr 0 0),(4,.ptr 1 0),(7,.own 2),(8,.own 3),(23,.val 0),(24,.val 0)])],[.box 25 [.val 7],.box 231 [.val 34],.row 3 0,.fix 4 2]⟩ (λn=>kk7 (z8w φ n)) (λzk11=>.x)))) (.seq .x (.body (.loop ⟨[(118,[(3,.ptr 0 0),(4,.ptr 1 0),(7,.own 2),(8,.own 3)])],[.box 25 [.val 7],.box 231 [.val 34],.row 3 0,.fix 4 2]⟩ (λn=>kk4 (z8x φ n)) (λzk16=>(.body (.seq .x (.seq (.seq .x (.body (.loop ⟨[(118,[(3,.ptr 0 0),(4,.ptr 1 0),(7,.own 2),(8,.own 3),(10,.val 0),(35,.val 0),(36,.val 0)])],[.box 25 [.val 7],.box 231 [.val 34],.row 3 0,.fix 4 2]⟩ (λn z=>z5m φ (λa0 a1 a2 a3=>zk16 (a0,a1,a2,a3,())) n z.1 z.2.1 z.2.2.1 z.2.2.2.1 z.2.2.2.2.1 z.2.2.2.2.2.1 z.2.2.2.2.2.2.1) (λzk24=>.x)))) (.seq .x (.seq .x (.seq .x (.body (.loop ⟨[(118,[(3,.ptr 0 0),(4,.ptr 1 0),(7,.own 2),(8,.own 3),(10,.val 0),(78,.val 24),(79,.val 0),(80,.val 0)])],[.box 25 [.val 7],.box 231 [.val 34],.row 3 0,.fix 4 2]⟩ (λn z=>z5n φ (λa0 a1 a2 a3=>zk16 (a0,a1,a2,a3,())) n z.1 z.2.1 z.2.2.1 z.2.2.2.1 z.2.2.2.2.1 z.2.2.2.2.2.1 z.2.2.2.2.2.2.1 z.2.2.2.2.2.2.2.1) (λzk33=>.x)))))))))))))))))
def zc4(P:Program)(φ:Nat):Env TV:=⟨P,lk [],lk [],lk [],lk []⟩
theorem zpf(φ:Nat)(a):(zc5 φ).F a=fnX TV (zc4 Tryz.prog φ) φ Tryz.f150 [7,34,0] [.val 24] (z7z φ) a:=by kernel_rfl
theorem zpe(φ:Nat):fnO TV (zc4 Tryz.prog φ) φ Tryz.f150 [.val 24] (z7z φ):=by
 unfold fnO;show obl _ _ _ _ _ _ _ _;unfold z7z
 repeat' (first|exact trivial |(refine⟨?_,?_⟩) |(intro _)|kernel_rfl)
theorem zpd[Dr](φ:Nat):z1k TV Tryz.prog 150 (zc5 φ):=z2h (N:=zc4 Tryz.prog φ) (z04 trivial trivial trivial trivial) (z7z φ) Tryz.func150 (by kernel_rfl) (zpf φ) (zpe φ)
def z5k(φ:Nat):H TV (RTup TT [.val 0,.val 0]):=.x
def z8r(P:Program)(φ:Nat):Env TV:=⟨P,lk [(149,zc1 φ),(150,zc5 φ)],lk [],lk [],lk []⟩
theorem zl4(φ:Nat)(a):(z8s φ).F a=fnX TV (z8r Tryz.prog φ) φ Tryz.f100 [7,0,0] [.val 0,.val 0] (z5k φ) a:=by kernel_rfl
theorem zl3(φ:Nat):fnO TV (z8r Tryz.prog φ) φ Tryz.f100 [.val 0,.val 0] (z5k φ):=by
 unfold fnO;show obl _ _ _ _ _ _ _ _;unfold z5k
 repeat' (first|exact trivial |(refine⟨?_,?_⟩) |(intro _)|kernel_rfl)
theorem zl2[Dr](φ:Nat):z1k TV Tryz.prog 100 (z8s φ):=z2h (N:=z8r Tryz.prog φ) (z04 ⟨zp7 φ,zpd φ,trivial⟩ trivial trivial trivial) (z5k φ) Tryz.func100 (by kernel_rfl) (zl4 φ) (zl3 φ)
def z7b(φ:Nat):H TV (RTup TT [.val 2]):=.x
def zb1(P:Program)(φ:Nat):Env TV:=⟨P,lk [],lk [],lk [],lk []⟩
theorem zod(φ:Nat)(a b):(zb2 φ).F a b=fnXc TV (zb1 Tryz.prog φ) φ Tryz.f152 [15] [.b (.val 0),.b (.val 0)] [.val 2] (z7b φ) a b:=by kernel_rfl
theorem zoc(φ:Nat):fnO TV (zb1 Tryz.prog φ) φ Tryz.f152 [.val 2] (z7b φ):=by
 unfold fnO;show obl _ _ _ _ _ _ _ _;unfold z7b
 repeat' (first|exact trivial |(refine⟨?_,?_⟩) |(intro _)|kernel_rfl)
theorem zob[Dr](φ:Nat):y0k TV Tryz.prog 152 (zb2 φ):=yao (N:=zb1 Tryz.prog φ) (z04 trivial trivial trivial trivial) (z7b φ) Tryz.func152 (by kernel_rfl) (zod φ) (zoc φ)
def zag(φ:Nat):H TV (RTup TT [.val 0,.val 0]):=(.seq .x (.seq .x (.seq .x (.seq (.ins 3 151 (.seq .x (.seq (.seq .x (.body (.loop ⟨[(19,[(0,.val 16),(1,.func 152 [.ptr 0 0,.ptr 1 0]),(7,.val 0),(8,.val 0)]),(35,[(3,.ptr 2 0)])],[.box 3 [.val 0],.box 3 [.val 0],.box 31 [.val 17]]⟩ (λn=>kk6 (zb3 φ n)) (λzk13=>.x)))) .x)) .x) .x))))
def zeg(P:Program)(φ:Nat):Env TV:=⟨P,lk [(74,z7a φ),(75,z3v φ)],lk [],lk [(152,zb2 φ)],lk []⟩
theorem zsl(φ:Nat)(a):(zeh φ).F a=fnX TV (zeg Tryz.prog φ) φ Tryz.f101 [17,0,0] [.val 0,.val 0] (zag φ) a:=by kernel_rfl
theorem zsk(φ:Nat):fnO TV (zeg Tryz.prog φ) φ Tryz.f101 [.val 0,.val 0] (zag φ):=by
 unfold fnO;show obl _ _ _ _ _ _ _ _;unfold zag
 repeat' (first|exact trivial |(refine⟨?_,?_⟩) |(intro _)|kernel_rfl)
theorem zsj[Dr](φ:Nat):z1k TV Tryz.prog 101 (zeh φ):=z2h (N:=zeg Tryz.prog φ) (z04 ⟨zef φ,z7f φ,trivial⟩ trivial ⟨zob φ,trivial⟩ trivial) (zag φ) Tryz.func101 (by kernel_rfl) (zsl φ) (zsk φ)
def zah(φ:Nat):H TV (RTup TT [.val 14,.val 0]):=(.seq .x (.seq .x (.seq .x (.seq .x (.seq (.seq .x (.body (.loop ⟨[(96,[(1,.val 0),(2,.ptr 0 0),(7,.ptr 1 0),(27,.val 0)])],[.box 31 [.val 17],.box 237 [.val 35]]⟩ (λn=>kk4 (zd2 φ n)) (λzk9=>.x)))) (.seq .x (.seq (.seq .x (.body (.loop ⟨[(96,[(1,.val 0),(2,.ptr 0 0),(7,.ptr 1 0),(9,.val 2)])],[.box 31 [.val 17],.box 237 [.val 35]]⟩ (λn=>kk4 (zb4 φ n)) (λzk14=>(.seq .x (.body (.seq .x (.seq .x (.body (.loop ⟨[(96,[(1,.val 0),(2,.ptr 0 0),(7,.ptr 1 0),(9,.val 2),(37,.val 14),(38,.val 0),(39,.val 0)])],[.box 31 [.val 17],.box 237 [.val 35]]⟩ (λn z=>z7c φ (λa0 a1 a2 a3=>zk14 (a0,a1,a2,a3,())) n z.1 z.2.1 z.2.2.1 z.2.2.2.1 z.2.2.2.2.1 z.2.2.2.2.2.1 z.2.2.2.2.2.2.1) (λzk22=>.x))))))))))) (.seq .x (.seq (.seq .x (.body (.loop ⟨[(96,[(1,.val 0),(7,.ptr 0 0),(13,.own 1),(77,.val 0),(78,.val 0)])],[.box 237 [.val 35],.row 157 13]⟩ (λn=>kk5 (z7d φ n)) (λzk28=>.x)))) .x)))))))))
def zei(P:Program)(φ:Nat):Env TV:=⟨P,lk [(74,z7a φ),(75,z3v φ)],lk [],lk [],lk []⟩
theorem zso(φ:Nat)(a):(zej φ).F a=fnX TV (zei Tryz.prog φ) φ Tryz.f102 [17,0] [.val 14,.val 0] (zah φ) a:=by kernel_rfl
theorem zsn(φ:Nat):fnO TV (zei Tryz.prog φ) φ Tryz.f102 [.val 14,.val 0] (zah φ):=by
 unfold fnO;show obl _ _ _ _ _ _ _ _;unfold zah
 repeat' (first|exact trivial |(refine⟨?_,?_⟩) |(intro _)|kernel_rfl)
theorem zsm[Dr](φ:Nat):z1k TV Tryz.prog 102 (zej φ):=z2h (N:=zei Tryz.prog φ) (z04 ⟨zef φ,z7f φ,trivial⟩ trivial trivial trivial) (zah φ) Tryz.func102 (by kernel_rfl) (zso φ) (zsn φ)
def z5f(φ:Nat):H TV (RTup TT [.val 2]):=.x
def z8i(P:Program)(φ:Nat):Env TV:=⟨P,lk [],lk [],lk [],lk []⟩
theorem zkm(φ:Nat)(a b):(z8j φ).F a b=fnXc TV (z8i Tryz.prog φ) φ Tryz.f104 [13] [.b (.val 1)] [.val 2] (z5f φ) a b:=by kernel_rfl
theorem zkl(φ:Nat):fnO TV (z8i Tryz.prog φ) φ Tryz.f104 [.val 2] (z5f φ):=by
 unfold fnO;show obl _ _ _ _ _ _ _ _;unfold z5f
 repeat' (first|exact trivial |(refine⟨?_,?_⟩) |(intro _)|kernel_rfl)
theorem zkk[Dr](φ:Nat):y0k TV Tryz.prog 104 (z8j φ):=yao (N:=z8i Tryz.prog φ) (z04 trivial trivial trivial trivial) (z5f φ) Tryz.func104 (by kernel_rfl) (zkm φ) (zkl φ)
def z75(φ:Nat):H TV (RTup TT [.val 0,.val 2]):=(.seq .x (.seq .x (.seq .x (.seq (.join ⟨[(97,[(3,.ptr 0 0),(4,.ptr 1 0),(5,.ptr 2 0),(8,.val 0)])],[.box 36 [.val 28],.box 64 [.val 1],.box 66 [.val 30]]⟩ (kk4 (z9v φ)) (.seq .x .x)) (.seq .x (.seq (.ins 2 103 (.seq .x (.seq (.seq .x (.body (.loop ⟨[(19,[(0,.val 14),(1,.func 104 [.ptr 0 0]),(7,.val 0),(8,.val 0)]),(97,[(4,.ptr 0 0),(5,.ptr 1 0),(8,.val 0),(12,.val 14)])],[.box 64 [.val 1],.box 66 [.val 30]]⟩ (λn=>kk7 (z8k φ n)) (λzk18=>.x)))) .x)) .x) .x))))))
def zay(P:Program)(φ:Nat):Env TV:=⟨P,lk [(100,z8s φ),(101,zeh φ),(102,zej φ)],lk [],lk [(104,z8j φ)],lk []⟩
theorem zo5(φ:Nat)(a):(z78 φ).F a=fnX TV (zay Tryz.prog φ) φ Tryz.f57 [28,1,30] [.val 0,.val 2] (z75 φ) a:=by kernel_rfl
theorem zo4(φ:Nat):fnO TV (zay Tryz.prog φ) φ Tryz.f57 [.val 0,.val 2] (z75 φ):=by
 unfold fnO;show obl _ _ _ _ _ _ _ _;unfold z75
 repeat' (first|exact trivial |(refine⟨?_,?_⟩) |(intro _)|kernel_rfl)
theorem zg4[Dr](φ:Nat):z1k TV Tryz.prog 57 (z78 φ):=z2h (N:=zay Tryz.prog φ) (z04 ⟨zl2 φ,zsj φ,zsm φ,trivial⟩ trivial ⟨zkk φ,trivial⟩ trivial) (z75 φ) Tryz.func57 (by kernel_rfl) (zo5 φ) (zo4 φ)
def z96(φ:Nat):H TV (RTup TT [.val 0,.val 2,.val 0]):=.x
def zcw(P:Program)(φ:Nat):Env TV:=⟨P,lk [(34,z2r φ),(48,z6i φ),(49,z74 φ),(57,z78 φ)],lk [],lk [],lk []⟩
theorem zqa(φ:Nat)(a):(zcx φ).F a=fnX TV (zcw Tryz.prog φ) φ Tryz.f20 [28,1,30] [.val 0,.val 2,.val 0] (z96 φ) a:=by kernel_rfl
theorem zq9(φ:Nat):fnO TV (zcw Tryz.prog φ) φ Tryz.f20 [.val 0,.val 2,.val 0] (z96 φ):=by
 unfold fnO;show obl _ _ _ _ _ _ _ _;unfold z96
 repeat' (first|exact trivial |(refine⟨?_,?_⟩) |(intro _)|kernel_rfl)
theorem zq8[Dr](φ:Nat):z1k TV Tryz.prog 20 (zcx φ):=z2h (N:=zcw Tryz.prog φ) (z04 ⟨z5i φ,zf4 φ,zg2 φ,zg4 φ,trivial⟩ trivial trivial trivial) (z96 φ) Tryz.func20 (by kernel_rfl) (zqa φ) (zq9 φ)
def zal(φ:Nat):H TV (RTup TT [.val 2]):=.x
def zes(P:Program)(φ:Nat):Env TV:=⟨P,lk [(27,zco φ),(20,zcx φ)],lk [],lk [],lk []⟩
theorem zt1(φ:Nat)(a):(zet φ).F a=fnX TV (zes Tryz.prog φ) φ Tryz.f25 [0,0,0,0] [.val 2] (zal φ) a:=by kernel_rfl
theorem zt0(φ:Nat):fnO TV (zes Tryz.prog φ) φ Tryz.f25 [.val 2] (zal φ):=by
 unfold fnO;show obl _ _ _ _ _ _ _ _;unfold zal
 repeat' (first|exact trivial |(refine⟨?_,?_⟩) |(intro _)|kernel_rfl)
theorem zsz[Dr](φ:Nat):z1k TV Tryz.prog 25 (zet φ):=z2h (N:=zes Tryz.prog φ) (z04 ⟨zm2 φ,zq8 φ,trivial⟩ trivial trivial trivial) (zal φ) Tryz.func25 (by kernel_rfl) (zt1 φ) (zt0 φ)
def z98(φ:Nat):H TV (RTup TT [.val 2]):=.x
def zda(P:Program)(φ:Nat):Env TV:=⟨P,lk [],lk [],lk [],lk []⟩
theorem zqi(φ:Nat)(a):(z99 φ).F a=fnX TV (zda Tryz.prog φ) φ Tryz.f69 [0,0,0] [.val 2] (z98 φ) a:=by kernel_rfl
theorem zqh(φ:Nat):fnO TV (zda Tryz.prog φ) φ Tryz.f69 [.val 2] (z98 φ):=by
 unfold fnO;show obl _ _ _ _ _ _ _ _;unfold z98
 repeat' (first|exact trivial |(refine⟨?_,?_⟩) |(intro _)|kernel_rfl)
theorem zhl[Dr](φ:Nat):z1k TV Tryz.prog 69 (z99 φ):=z2h (N:=zda Tryz.prog φ) (z04 trivial trivial trivial trivial) (z98 φ) Tryz.func69 (by kernel_rfl) (zqi φ) (zqh φ)
def zck(φ:Nat):H TV (RTup TT [.val 0]):=(.seq .x (.seq .x (.seq .x (.seq (.seq .x (.body (.loop ⟨[(79,[(1,.ptr 0 0),(3,.val 0),(19,.val 24),(20,.val 0),(21,.val 0)])],[.box 54 [.val 40]]⟩ (λn=>kk5 (zek φ n)) (λzk7=>.x)))) (.seq (.seq .x (.body (.loop ⟨[(79,[(1,.ptr 0 0),(3,.val 0),(33,.val 39),(34,.val 0),(35,.val 0)])],[.box 54 [.val 40]]⟩ (λn=>kk5 (zd3 φ n)) (λzk14=>.x)))) .x)))))
def zg6(P:Program)(φ:Nat):Env TV:=⟨P,lk [(69,z99 φ)],lk [],lk [],lk []⟩
theorem zuw(φ:Nat)(a):(zcl φ).F a=fnX TV (zg6 Tryz.prog φ) φ Tryz.f67 [40] [.val 0] (zck φ) a:=by kernel_rfl
theorem zuv(φ:Nat):fnO TV (zg6 Tryz.prog φ) φ Tryz.f67 [.val 0] (zck φ):=by
 unfold fnO;show obl _ _ _ _ _ _ _ _;unfold zck
 repeat' (first|exact trivial |(refine⟨?_,?_⟩) |(intro _)|kernel_rfl)
theorem zlx[Dr](φ:Nat):z1k TV Tryz.prog 67 (zcl φ):=z2h (N:=zg6 Tryz.prog φ) (z04 ⟨zhl φ,trivial⟩ trivial trivial trivial) (zck φ) Tryz.func67 (by kernel_rfl) (zuw φ) (zuv φ)
end Px
end
section
set_option maxHeartbeats 4000000
set_option maxRecDepth 100000
namespace Px
open Go Go.RowKit Go.Proofs
theorem ziz(φ:Nat)(k47 :((List Int)->(List Arc)->(List Int)->(List Int)->(List Int)->(List (List Int))->(List (List Int))->(List Int)->(List Int)->Option (Flow×Int×Unit)))(x224 :(List Int))(x225 :(List Arc))(x226 :(List Int))(x227 :(List Int))(x228 :(List zk))(x229 :(List Int))(x230 :(List Int))(x231 :(List Int))(x232 :(List (List Int)))(x233 :(List (List Int)))(x234 :(List Int))(x235 :(List Int)):z6v (z7j φ k47 x224 x225 x226 x227 x228 x229 x230 x231 x232 x233 x234 x235) (z9x φ k47 x224 x225 x226 x227 x228 x229 x230 x231 x232 x233 x234 x235):=by
 unfold z7j;unfold z9x
 repeat' (first|exact z6v.one|exact z6v.nil|refine z6v.cons ?_ ?_|refine z6v.ck ?_|exact z6v.same (n:=2) rfl|exact z6v.same (n:=3) rfl|exact z6v.same (n:=4) rfl|exact z6v.same (n:=6) rfl|refine z6v.bind λ_=>?_)
theorem zj0(φ:Nat)(k47 :((List Int)->(List Arc)->(List Int)->(List Int)->(List Int)->(List (List Int))->(List (List Int))->(List Int)->(List Int)->Option (Flow×Int×Unit)))(x279:Int)(x280 :(List Int))(x281 :(List Arc))(x282 :(List Int))(x283 :(List Int))(x284 :(List Int))(x285 :(List (List Int)))(x286 :(List (List Int)))(x287 :(List Int))(x288 :(List Int))(x289 :(List zk))(x290 :(List Int))(x291 :(List Int)):z6v (z7k φ k47 x279 x280 x281 x282 x283 x284 x285 x286 x287 x288 x289 x290 x291) (z9y φ k47 x279 x280 x281 x282 x283 x284 x285 x286 x287 x288 x289 x290 x291):=by
 refine⟨λr h=>?_⟩;unfold z7k at h;unfold z9y
 repeat (with_reducible (replace h:=ckS h);obtain⟨_,h⟩:=h)
 change Good r _
 repeat' (with_reducible first|assumption|exact Good.nil|refine Good.one ?_|refine Good.cons ?_ ?_|refine Good.ck ?_ ?_)
theorem zj1(φ:Nat)(x293:Int)(x294:z0s)(x295 :(List Int))(x296 :(List Int)):z6v (z7l φ x293 x294 x295 x296) (z9z φ x293 x294 x295 x296):=by
 refine⟨λr h=>?_⟩;unfold z7l at h;unfold z9z
 repeat (first|unfold z8|unfold z09|unfold zd|unfold z13|unfold z5j|unfold z14|unfold z05|unfold z2s|unfold z8n|unfold zu|unfold z2t|unfold z1d|unfold z7m|unfold z0h)
 repeat (with_reducible (replace h:=ckS h);obtain⟨_,h⟩:=h)
 change Good r _
 repeat' (with_reducible first|assumption|exact Good.nil|refine Good.one ?_|refine Good.cons ?_ ?_|refine Good.ck ?_ ?_)
def zcm(φ:Nat):H TV (RTup TT [.val 41,.val 0]):=(.seq .x (.seq .x (.seq (.ins 1 113 (.seq .x (.seq .x (.seq (.join ⟨[(73,[(1,.ptr 0 0),(4,.ptr 1 0)]),(27,[(2,.ptr 2 0)])],[.box 54 [.val 40],.box 200 [.val 24,.val 39,.own 3,.own 4,.own 5,.own 6,.own 7],.box 88 [.own 8,.own 9],.row 3 0,.row 3 0,.row 3 0,.nst 40 3 24 none,.nst 40 3 24 none,.row 3 0,.row 3 0]⟩ (kk10 (zd7 φ)) (.alt ⟨[(73,[(1,.ptr 0 0),(3,.val 0)]),(27,[(2,.ptr 1 0)])],[.box 54 [.val 40],.box 88 [.own 2,.own 3],.row 3 0,.row 3 0]⟩ (kk4 (z7l φ)) (kk4 (z9z φ)))) (.seq (.seq .x (.body (.loop ⟨[(73,[(4,.ptr 0 0),(28,.val 39),(29,.val 0),(30,.val 0)]),(27,[(2,.ptr 1 0)])],[.box 200 [.val 24,.val 39,.own 2,.own 3,.own 4,.own 5,.own 6],.box 88 [.own 7,.own 8],.row 3 0,.row 3 0,.row 3 0,.nst 40 3 24 none,.nst 40 3 24 none,.row 3 0,.row 3 0]⟩ (λn=>kk12 (zd4 φ n)) (λzk26=>(.seq .x (.seq .x (.seq (.body (.seq .x (.seq (.foc (4,some 5) (6,some 0) .x) (.foc (4,some 6) (6,some 1) .x)))) .x))))))) .x)))) .x) (.seq (.seq (.join ⟨[(27,[(2,.ptr 0 0),(5,.ptr 1 0),(16,.val 2)])],[.box 88 [.own 2,.own 3],.box 200 [.val 24,.val 39,.own 4,.own 5,.own 6,.own 7,.own 8],.row 3 0,.row 3 0,.row 3 0,.row 3 0,.row 3 0,.nst 40 3 24 none,.nst 40 3 24 none]⟩ (kk10 (zd8 φ)) (.ins 1 114 (.seq .x (.seq (.body (.loop ⟨[(19,[(0,.ptr 0 0)]),(27,[(2,.ptr 1 0),(5,.ptr 0 0)])],[.box 200 [.val 24,.val 39,.own 2,.own 3,.own 4,.own 5,.own 6],.box 88 [.own 7,.own 8],.row 3 0,.row 3 0,.row 3 0,.nst 40 3 24 none,.nst 40 3 24 none,.row 3 0,.row 3 0]⟩ (λn=>kk9 (zd5 φ n)) (λzk47=>(.seq (.seq (.join ⟨[(19,[(0,.ptr 0 0),(6,.val 2)]),(27,[(2,.ptr 1 0),(5,.ptr 0 0)])],[.box 200 [.val 24,.val 39,.own 2,.own 3,.own 4,.own 5,.own 6],.box 88 [.own 7,.own 8],.row 3 0,.row 3 0,.row 3 0,.nst 40 3 24 none,.nst 40 3 24 none,.row 3 0,.row 3 0]⟩ (λz=>zd9 φ (λa0 a1 a2 a3 a4 a5 a6 a7 a8=>zk47 (a0,a1,a2,a3,a4,a5,a6,a7,a8,())) z.1 z.2.1 z.2.2.1 z.2.2.2.1 z.2.2.2.2.1 z.2.2.2.2.2.1 z.2.2.2.2.2.2.1 z.2.2.2.2.2.2.2.1 z.2.2.2.2.2.2.2.2.1 z.2.2.2.2.2.2.2.2.2.1) (.ins 1 163 (.seq .x (.seq (.ins 1 189 (.seq .x (.body (.seq .x (.seq (.join ⟨[(121,[(0,.ptr 0 0),(2,.ptr 1 0),(3,.ptr 2 0),(4,.ptr 3 0),(5,.val 0)]),(193,[(0,.ptr 0 0)]),(19,[(0,.ptr 0 0)]),(27,[(2,.ptr 4 0),(5,.ptr 0 0)])],[.box 200 [.val 24,.val 39,.own 5,.own 6,.own 7,.own 8,.own 9],.box 40 [.own 10],.box 40 [.own 11],.box 260 [.own 12],.box 88 [.own 13,.own 14],.row 3 0,.row 3 0,.row 3 0,.nst 40 3 24 none,.nst 40 3 24 none,.row 3 0,.row 3 0,.row 264 43,.row 3 0,.row 3 0]⟩ (λz=>zx φ (λa0 a1 a2 a3 a4 a5 a6 a7 a8=>zk47 (a0,a1,a2,a3,a4,a5,a6,a7,a8,())) z.1 z.2.1 z.2.2.1 z.2.2.2.1 z.2.2.2.2.1 z.2.2.2.2.2.1 z.2.2.2.2.2.2.1 z.2.2.2.2.2.2.2.1 z.2.2.2.2.2.2.2.2.1 z.2.2.2.2.2.2.2.2.2.1 z.2.2.2.2.2.2.2.2.2.2.1 z.2.2.2.2.2.2.2.2.2.2.2.1 z.2.2.2.2.2.2.2.2.2.2.2.2.1) (.alt ⟨[(121,[(0,.ptr 0 0),(2,.ptr 1 0),(3,.ptr 2 0),(4,.ptr 3 0),(5,.val 0)]),(193,[(0,.ptr 0 0)]),(19,[(0,.ptr 0 0)]),(27,[(2,.ptr 4 0),(5,.ptr 0 0)])],[.box 200 [.val 24,.val 39,.own 5,.own 6,.own 7,.own 8,.own 9],.box 40 [.own 10],.box 40 [.own 11],.box 260 [.own 12],.box 88 [.own 13,.own 14],.row 3 0,.row 3 0,.row 3 0,.nst 40 3 24 none,.nst 40 3 24 none,.row 3 0,.row 3 0,.row 264 43,.row 3 0,.row 3 0]⟩ (λz=>z7k φ (λa0 a1 a2 a3 a4 a5 a6 a7 a8=>zk47 (a0,a1,a2,a3,a4,a5,a6,a7,a8,())) z.1 z.2.1 z.2.2.1 z.2.2.2.1 z.2.2.2.2.1 z.2.2.2.2.2.1 z.2.2.2.2.2.2.1 z.2.2.2.2.2.2.2.1 z.2.2.2.2.2.2.2.2.1 z.2.2.2.2.2.2.2.2.2.1 z.2.2.2.2.2.2.2.2.2.2.1 z.2.2.2.2.2.2.2.2.2.2.2.1 z.2.2.2.2.2.2.2.2.2.2.2.2.1) (λz=>z9y φ (λa0 a1 a2 a3 a4 a5 a6 a7 a8=>zk47 (a0,a1,a2,a3,a4,a5,a6,a7,a8,())) z.1 z.2.1 z.2.2.1 z.2.2.2.1 z.2.2.2.2.1 z.2.2.2.2.2.1 z.2.2.2.2.2.2.1 z.2.2.2.2.2.2.2.1 z.2.2.2.2.2.2.2.2.1 z.2.2.2.2.2.2.2.2.2.1 z.2.2.2.2.2.2.2.2.2.2.1 z.2.2.2.2.2.2.2.2.2.2.2.1 z.2.2.2.2.2.2.2.2.2.2.2.2.1))) (.seq (.seq .x (.body (.loop ⟨[(121,[(0,.ptr 0 0),(2,.ptr 1 0),(3,.ptr 2 0),(4,.ptr 3 0),(5,.val 0),(23,.val 0),(24,.val 0)]),(193,[(0,.ptr 0 0)]),(19,[(0,.ptr 0 0)]),(27,[(2,.ptr 4 0),(5,.ptr 0 0)])],[.box 200 [.val 24,.val 39,.own 5,.own 6,.own 7,.own 8,.own 9],.box 40 [.own 10],.box 40 [.own 11],.box 260 [.own 12],.box 88 [.own 13,.own 14],.row 3 0,.row 3 0,.row 3 0,.nst 40 3 24 none,.nst 40 3 24 none,.row 3 0,.row 3 0,.row 264 43,.row 3 0,.row 3 0]⟩ (λn z=>z7g φ (λa0 a1 a2 a3 a4 a5 a6 a7 a8=>zk47 (a0,a1,a2,a3,a4,a5,a6,a7,a8,())) n z.1 z.2.1 z.2.2.1 z.2.2.2.1 z.2.2.2.2.1 z.2.2.2.2.2.1 z.2.2.2.2.2.2.1 z.2.2.2.2.2.2.2.1 z.2.2.2.2.2.2.2.2.1 z.2.2.2.2.2.2.2.2.2.1 z.2.2.2.2.2.2.2.2.2.2.1 z.2.2.2.2.2.2.2.2.2.2.2.1 z.2.2.2.2.2.2.2.2.2.2.2.2.1 z.2.2.2.2.2.2.2.2.2.2.2.2.2.1 z.2.2.2.2.2.2.2.2.2.2.2.2.2.2.1) (λzk100=>.x)))) (.seq .x (.seq .x (.seq (.body (.loop ⟨[(121,[(0,.ptr 0 0),(2,.ptr 1 0),(3,.ptr 2 0),(4,.ptr 3 0),(5,.val 0),(7,.own 4)]),(193,[(0,.ptr 0 0)]),(19,[(0,.ptr 0 0)]),(27,[(2,.ptr 5 0),(5,.ptr 0 0)])],[.box 200 [.val 24,.val 39,.own 6,.own 7,.own 8,.own 9,.own 10],.box 40 [.own 11],.box 40 [.own 12],.box 260 [.own 13],.fix 4 2,.box 88 [.own 14,.own 15],.row 3 0,.row 3 0,.row 3 0,.nst 40 3 24 none,.nst 40 3 24 none,.row 3 0,.row 3 0,.row 264 43,.row 3 0,.row 3 0]⟩ (λn z=>zb6 φ (λa0 a1 a2 a3 a4 a5 a6 a7 a8=>zk47 (a0,a1,a2,a3,a4,a5,a6,a7,a8,())) n z.1 z.2.1 z.2.2.1 z.2.2.2.1 z.2.2.2.2.1 z.2.2.2.2.2.1 z.2.2.2.2.2.2.1 z.2.2.2.2.2.2.2.1 z.2.2.2.2.2.2.2.2.1 z.2.2.2.2.2.2.2.2.2.1 z.2.2.2.2.2.2.2.2.2.2.1 z.2.2.2.2.2.2.2.2.2.2.2.1 z.2.2.2.2.2.2.2.2.2.2.2.2.1 z.2.2.2.2.2.2.2.2.2.2.2.2.2.1) (λzk115=>(.body (.seq .x (.seq (.seq .x (.body (.loop ⟨[(121,[(0,.ptr 0 0),(2,.ptr 1 0),(3,.ptr 2 0),(4,.ptr 3 0),(5,.val 0),(7,.own 4),(8,.ptr 5 0),(47,.val 0),(48,.val 0)]),(193,[(0,.ptr 0 0)]),(19,[(0,.ptr 0 0)]),(27,[(2,.ptr 6 0),(5,.ptr 0 0)])],[.box 200 [.val 24,.val 39,.own 7,.own 8,.own 9,.own 10,.own 11],.box 40 [.own 12],.box 40 [.own 13],.box 260 [.own 14],.fix 4 2,.box 3 [.val 0],.box 88 [.own 15,.own 16],.row 3 0,.row 3 0,.row 3 0,.nst 40 3 24 none,.nst 40 3 24 none,.row 3 0,.row 3 0,.row 264 43,.row 3 0,.row 3 0]⟩ (λn z=>z7h φ (λa0 a1 a2 a3 a4 a5 a6 a7 a8=>zk47 (a0,a1,a2,a3,a4,a5,a6,a7,a8,())) (λa0 a1 a2 a3 a4 a5 a6 a7 a8 a9 a10 a11 a12 a13=>zk115 (a0,a1,a2,a3,a4,a5,a6,a7,a8,a9,a10,a11,a12,a13,())) n z.1 z.2.1 z.2.2.1 z.2.2.2.1 z.2.2.2.2.1 z.2.2.2.2.2.1 z.2.2.2.2.2.2.1 z.2.2.2.2.2.2.2.1 z.2.2.2.2.2.2.2.2.1 z.2.2.2.2.2.2.2.2.2.1 z.2.2.2.2.2.2.2.2.2.2.1 z.2.2.2.2.2.2.2.2.2.2.2.1 z.2.2.2.2.2.2.2.2.2.2.2.2.1 z.2.2.2.2.2.2.2.2.2.2.2.2.2.1 z.2.2.2.2.2.2.2.2.2.2.2.2.2.2.1 z.2.2.2.2.2.2.2.2.2.2.2.2.2.2.2.1 z.2.2.2.2.2.2.2.2.2.2.2.2.2.2.2.2.1) (λzk133=>.x)))) (.seq .x (.seq .x (.seq .x (.body (.rf 189 0 201 (.seq (.seq (.foc (1,some 1005) (2,some 0) .x) (.body (.loop ⟨[(137,[(0,.own 0),(1,.ptr 1 0),(2,.ptr 2 0),(17,.own 3),(18,.val 0),(19,.val 0)]),(122,[(0,.ptr 4 0),(2,.ptr 5 0),(3,.ptr 6 0),(4,.ptr 7 0),(5,.val 0),(7,.own 8),(8,.ptr 9 0),(121,.own 0)]),(193,[(0,.ptr 4 0)]),(19,[(0,.ptr 4 0)]),(27,[(2,.ptr 10 0),(5,.ptr 4 0)])],[.emp,.box 196 [.ptr 4 0],.box 3 [.val 0],.row 3 0,.box 200 [.val 24,.val 39,.own 11,.own 12,.own 13,.own 14,.own 15],.box 40 [.own 16],.box 40 [.own 17],.box 260 [.own 18],.fix 4 2,.box 3 [.val 0],.box 88 [.own 19,.own 20],.row 3 0,.row 3 0,.row 3 0,.nst 40 3 24 (some 3),.nst 40 3 24 none,.row 3 0,.row 3 0,.row 264 43,.row 3 0,.row 3 0]⟩ (λn z=>z4x φ (λa0 a1 a2 a3 a4 a5 a6 a7 a8 a9 a10 a11 a12 a13=>zk115 (a0,a1,a2,a3,a4,a5,a6,a7,a8,a9,a10,a11,a12,a13,())) n z.1 z.2.1 z.2.2.1 z.2.2.2.1 z.2.2.2.2.1 z.2.2.2.2.2.1 z.2.2.2.2.2.2.1 z.2.2.2.2.2.2.2.1 z.2.2.2.2.2.2.2.2.1 z.2.2.2.2.2.2.2.2.2.1 z.2.2.2.2.2.2.2.2.2.2.1 z.2.2.2.2.2.2.2.2.2.2.2.1 z.2.2.2.2.2.2.2.2.2.2.2.2.1 z.2.2.2.2.2.2.2.2.2.2.2.2.2.1 z.2.2.2.2.2.2.2.2.2.2.2.2.2.2.1 z.2.2.2.2.2.2.2.2.2.2.2.2.2.2.2.1 z.2.2.2.2.2.2.2.2.2.2.2.2.2.2.2.2.1 z.2.2.2.2.2.2.2.2.2.2.2.2.2.2.2.2.2.1 z.2.2.2.2.2.2.2.2.2.2.2.2.2.2.2.2.2.2.1 z.2.2.2.2.2.2.2.2.2.2.2.2.2.2.2.2.2.2.2.1) (λzk257=>(.seq .x (.seq .x (.seq (.body (.seq .x (.seq .x (.seq .x (.seq (.yl 28 189 0 .x .x) .x))))) .x))))))) (.seq (.foc (1,some 1006) (2,some 0) .x) (.body (.loop ⟨[(137,[(0,.own 0),(1,.ptr 1 0),(2,.ptr 2 0),(79,.own 3),(80,.val 0),(81,.val 0)]),(122,[(0,.ptr 4 0),(2,.ptr 5 0),(3,.ptr 6 0),(4,.ptr 7 0),(5,.val 0),(7,.own 8),(8,.ptr 9 0),(121,.own 0)]),(193,[(0,.ptr 4 0)]),(19,[(0,.ptr 4 0)]),(27,[(2,.ptr 10 0),(5,.ptr 4 0)])],[.emp,.box 196 [.ptr 4 0],.box 3 [.val 0],.row 3 0,.box 200 [.val 24,.val 39,.own 11,.own 12,.own 13,.own 14,.own 15],.box 40 [.own 16],.box 40 [.own 17],.box 260 [.own 18],.fix 4 2,.box 3 [.val 0],.box 88 [.own 19,.own 20],.row 3 0,.row 3 0,.row 3 0,.nst 40 3 24 none,.nst 40 3 24 (some 3),.row 3 0,.row 3 0,.row 264 43,.row 3 0,.row 3 0]⟩ (λn z=>z4y φ (λa0 a1 a2 a3 a4 a5 a6 a7 a8 a9 a10 a11 a12 a13=>zk115 (a0,a1,a2,a3,a4,a5,a6,a7,a8,a9,a10,a11,a12,a13,())) n z.1 z.2.1 z.2.2.1 z.2.2.2.1 z.2.2.2.2.1 z.2.2.2.2.2.1 z.2.2.2.2.2.2.1 z.2.2.2.2.2.2.2.1 z.2.2.2.2.2.2.2.2.1 z.2.2.2.2.2.2.2.2.2.1 z.2.2.2.2.2.2.2.2.2.2.1 z.2.2.2.2.2.2.2.2.2.2.2.1 z.2.2.2.2.2.2.2.2.2.2.2.2.1 z.2.2.2.2.2.2.2.2.2.2.2.2.2.1 z.2.2.2.2.2.2.2.2.2.2.2.2.2.2.1 z.2.2.2.2.2.2.2.2.2.2.2.2.2.2.2.1 z.2.2.2.2.2.2.2.2.2.2.2.2.2.2.2.2.1 z.2.2.2.2.2.2.2.2.2.2.2.2.2.2.2.2.2.1 z.2.2.2.2.2.2.2.2.2.2.2.2.2.2.2.2.2.2.1 z.2.2.2.2.2.2.2.2.2.2.2.2.2.2.2.2.2.2.2.1) (λzk278=>(.seq .x (.seq .x (.seq (.body (.seq .x (.seq .x (.seq (.yl 40 189 0 .x .x) .x)))) .x))))))))))))))))))) (.seq (.join ⟨[(121,[(2,.ptr 0 0),(3,.ptr 1 0),(4,.ptr 2 0)]),(193,[(0,.ptr 3 0)]),(19,[(0,.ptr 3 0)]),(27,[(2,.ptr 4 0),(5,.ptr 3 0)])],[.box 40 [.own 5],.box 40 [.own 6],.box 260 [.own 7],.box 200 [.val 24,.val 39,.own 8,.own 9,.own 10,.own 11,.own 12],.box 88 [.own 13,.own 14],.row 3 0,.row 3 0,.row 264 43,.row 3 0,.row 3 0,.row 3 0,.nst 40 3 24 none,.nst 40 3 24 none,.row 3 0,.row 3 0]⟩ (λz=>z0w φ (λa0 a1 a2 a3 a4 a5 a6 a7 a8=>zk47 (a0,a1,a2,a3,a4,a5,a6,a7,a8,())) z.1 z.2.1 z.2.2.1 z.2.2.2.1 z.2.2.2.2.1 z.2.2.2.2.2.1 z.2.2.2.2.2.2.1 z.2.2.2.2.2.2.2.1 z.2.2.2.2.2.2.2.2.1 z.2.2.2.2.2.2.2.2.2.1 z.2.2.2.2.2.2.2.2.2.2.1 z.2.2.2.2.2.2.2.2.2.2.2.1) (.alt ⟨[(121,[(2,.ptr 0 0),(3,.ptr 1 0),(4,.ptr 2 0)]),(193,[(0,.ptr 3 0)]),(19,[(0,.ptr 3 0)]),(27,[(2,.ptr 4 0),(5,.ptr 3 0)])],[.box 40 [.own 5],.box 40 [.own 6],.box 260 [.own 7],.box 200 [.val 24,.val 39,.own 8,.own 9,.own 10,.own 11,.own 12],.box 88 [.own 13,.own 14],.row 3 0,.row 3 0,.row 264 43,.row 3 0,.row 3 0,.row 3 0,.nst 40 3 24 none,.nst 40 3 24 none,.row 3 0,.row 3 0]⟩ (λz=>z7j φ (λa0 a1 a2 a3 a4 a5 a6 a7 a8=>zk47 (a0,a1,a2,a3,a4,a5,a6,a7,a8,())) z.1 z.2.1 z.2.2.1 z.2.2.2.1 z.2.2.2.2.1 z.2.2.2.2.2.1 z.2.2.2.2.2.2.1 z.2.2.2.2.2.2.2.1 z.2.2.2.2.2.2.2.2.1 z.2.2.2.2.2.2.2.2.2.1 z.2.2.2.2.2.2.2.2.2.2.1 z.2.2.2.2.2.2.2.2.2.2.2.1) (λz=>z9x φ (λa0 a1 a2 a3 a4 a5 a6 a7 a8=>zk47 (a0,a1,a2,a3,a4,a5,a6,a7,a8,())) z.1 z.2.1 z.2.2.1 z.2.2.2.1 z.2.2.2.2.1 z.2.2.2.2.2.1 z.2.2.2.2.2.2.1 z.2.2.2.2.2.2.2.1 z.2.2.2.2.2.2.2.2.1 z.2.2.2.2.2.2.2.2.2.1 z.2.2.2.2.2.2.2.2.2.2.1 z.2.2.2.2.2.2.2.2.2.2.2.1))) .x))))))))) .x) (.seq .x (.seq (.seq .x (.body (.loop ⟨[(193,[(0,.ptr 0 0),(3,.own 1),(4,.own 2),(5,.own 3),(6,.val 0),(7,.val 0),(21,.own 1),(22,.val 0),(23,.val 0)]),(19,[(0,.ptr 0 0)]),(27,[(2,.ptr 4 0),(5,.ptr 0 0)])],[.box 200 [.val 24,.val 39,.own 5,.own 6,.own 7,.own 8,.own 9],.row 3 0,.row 3 0,.row 264 43,.box 88 [.own 10,.own 11],.row 3 0,.row 3 0,.row 3 0,.nst 40 3 24 none,.nst 40 3 24 none,.row 3 0,.row 3 0]⟩ (λn z=>z4w φ (λa0 a1 a2 a3 a4 a5 a6 a7 a8=>zk47 (a0,a1,a2,a3,a4,a5,a6,a7,a8,())) n z.1 z.2.1 z.2.2.1 z.2.2.2.1 z.2.2.2.2.1 z.2.2.2.2.2.1 z.2.2.2.2.2.2.1 z.2.2.2.2.2.2.2.1 z.2.2.2.2.2.2.2.2.1 z.2.2.2.2.2.2.2.2.2.1 z.2.2.2.2.2.2.2.2.2.2.1 z.2.2.2.2.2.2.2.2.2.2.2.1 z.2.2.2.2.2.2.2.2.2.2.2.2.1 z.2.2.2.2.2.2.2.2.2.2.2.2.2.1 z.2.2.2.2.2.2.2.2.2.2.2.2.2.2.1 z.2.2.2.2.2.2.2.2.2.2.2.2.2.2.2.1) (λzk163=>.x)))) (.seq .x (.seq (.seq .x (.body (.loop ⟨[(193,[(0,.ptr 0 0),(4,.own 1),(5,.own 2),(6,.val 0),(7,.val 0),(57,.own 3),(58,.val 0),(59,.val 0)]),(19,[(0,.ptr 0 0)]),(27,[(2,.ptr 4 0),(5,.ptr 0 0)])],[.box 200 [.val 24,.val 39,.own 5,.own 6,.own 7,.own 8,.own 9],.row 3 0,.row 264 43,.row 3 0,.box 88 [.own 10,.own 11],.row 3 0,.row 3 0,.row 3 0,.nst 40 3 24 none,.nst 40 3 24 none,.row 3 0,.row 3 0]⟩ (λn z=>zb7 φ (λa0 a1 a2 a3 a4 a5 a6 a7 a8=>zk47 (a0,a1,a2,a3,a4,a5,a6,a7,a8,())) n z.1 z.2.1 z.2.2.1 z.2.2.2.1 z.2.2.2.2.1 z.2.2.2.2.2.1 z.2.2.2.2.2.2.1 z.2.2.2.2.2.2.2.1 z.2.2.2.2.2.2.2.2.1 z.2.2.2.2.2.2.2.2.2.1 z.2.2.2.2.2.2.2.2.2.2.1 z.2.2.2.2.2.2.2.2.2.2.2.1 z.2.2.2.2.2.2.2.2.2.2.2.2.1 z.2.2.2.2.2.2.2.2.2.2.2.2.2.1 z.2.2.2.2.2.2.2.2.2.2.2.2.2.2.1 z.2.2.2.2.2.2.2.2.2.2.2.2.2.2.2.1) (λzk180=>.x)))) (.seq .x (.seq (.body (.loop ⟨[(193,[(0,.ptr 0 0),(4,.own 1),(5,.own 2),(6,.val 0),(12,.val 0),(13,.val 0)]),(19,[(0,.ptr 0 0)]),(27,[(2,.ptr 3 0),(5,.ptr 0 0)])],[.box 200 [.val 24,.val 39,.own 4,.own 5,.own 6,.own 7,.own 8],.row 3 0,.row 264 43,.box 88 [.own 9,.own 10],.row 3 0,.row 3 0,.row 3 0,.nst 40 3 24 none,.nst 40 3 24 none,.row 3 0,.row 3 0]⟩ (λn z=>zb8 φ (λa0 a1 a2 a3 a4 a5 a6 a7 a8=>zk47 (a0,a1,a2,a3,a4,a5,a6,a7,a8,())) n z.1 z.2.1 z.2.2.1 z.2.2.2.1 z.2.2.2.2.1 z.2.2.2.2.2.1 z.2.2.2.2.2.2.1 z.2.2.2.2.2.2.2.1 z.2.2.2.2.2.2.2.2.1 z.2.2.2.2.2.2.2.2.2.1 z.2.2.2.2.2.2.2.2.2.2.1 z.2.2.2.2.2.2.2.2.2.2.2.1 z.2.2.2.2.2.2.2.2.2.2.2.2.1 z.2.2.2.2.2.2.2.2.2.2.2.2.2.1) (λzk195=>.x))) (.seq .x (.seq .x (.seq .x (.seq (.seq .x (.body (.loop ⟨[(193,[(0,.ptr 0 0),(4,.own 1),(5,.own 2),(12,.val 0),(13,.val 0)]),(19,[(0,.ptr 0 0)]),(27,[(2,.ptr 3 0),(5,.ptr 0 0)])],[.box 200 [.val 24,.val 39,.own 4,.own 5,.own 6,.own 7,.own 8],.row 3 0,.row 264 43,.box 88 [.own 9,.own 10],.row 3 0,.row 3 0,.row 3 0,.nst 40 3 24 none,.nst 40 3 24 none,.row 3 0,.row 3 0]⟩ (λn z=>z7i φ (λa0 a1 a2 a3 a4 a5 a6 a7 a8=>zk47 (a0,a1,a2,a3,a4,a5,a6,a7,a8,())) n z.1 z.2.1 z.2.2.1 z.2.2.2.1 z.2.2.2.2.1 z.2.2.2.2.2.1 z.2.2.2.2.2.2.1 z.2.2.2.2.2.2.2.1 z.2.2.2.2.2.2.2.2.1 z.2.2.2.2.2.2.2.2.2.1 z.2.2.2.2.2.2.2.2.2.2.1 z.2.2.2.2.2.2.2.2.2.2.2.1 z.2.2.2.2.2.2.2.2.2.2.2.2.1) (λzk209=>(.seq .x (.seq (.join ⟨[(193,[(0,.ptr 0 0),(4,.own 1),(5,.own 2),(12,.val 0),(13,.val 0)]),(19,[(0,.ptr 0 0)]),(27,[(2,.ptr 3 0),(5,.ptr 0 0)])],[.box 200 [.val 24,.val 39,.own 4,.own 5,.own 6,.own 7,.own 8],.row 3 0,.row 264 43,.box 88 [.own 9,.own 10],.row 3 0,.row 3 0,.row 3 0,.nst 40 3 24 none,.nst 40 3 24 none,.row 3 0,.row 3 0]⟩ (λz=>zb9 φ (λa0 a1 a2 a3 a4 a5 a6 a7 a8 a9 a10 a11 a12=>zk209 (a0,a1,a2,a3,a4,a5,a6,a7,a8,a9,a10,a11,a12,())) z.1 z.2.1 z.2.2.1 z.2.2.2.1 z.2.2.2.2.1 z.2.2.2.2.2.1 z.2.2.2.2.2.2.1 z.2.2.2.2.2.2.2.1 z.2.2.2.2.2.2.2.2.1 z.2.2.2.2.2.2.2.2.2.1 z.2.2.2.2.2.2.2.2.2.2.1 z.2.2.2.2.2.2.2.2.2.2.2.1 z.2.2.2.2.2.2.2.2.2.2.2.2.1) (.body .x)) .x)))))) .x)))))))))))) .x)) .x) .x)))) (.seq (.seq .x (.body (.loop ⟨[(19,[(10,.own 0),(11,.val 0),(12,.val 0)]),(27,[(2,.ptr 1 0),(5,.ptr 2 0)])],[.row 3 0,.box 88 [.own 3,.own 4],.box 200 [.val 24,.val 39,.own 5,.own 0,.own 6,.own 7,.own 8],.row 3 0,.row 3 0,.row 3 0,.row 3 0,.nst 40 3 24 none,.nst 40 3 24 none]⟩ (λn=>kk11 (zd6 φ n)) (λzk70=>.x)))) .x))) .x)) .x) .x))))
def zg7(P:Program)(φ:Nat):Env TV:=⟨P,lk [(67,zcl φ)],lk [],lk [],lk []⟩
theorem zuz(φ:Nat)(a):(zg8 φ).F a=fnX TV (zg7 Tryz.prog φ) φ Tryz.f65 [40] [.val 41,.val 0] (zcm φ) a:=by kernel_rfl
theorem zuy(φ:Nat):fnO TV (zg7 Tryz.prog φ) φ Tryz.f65 [.val 41,.val 0] (zcm φ):=by
 unfold fnO;show obl _ _ _ _ _ _ _ _;unfold zcm
 repeat' (first|exact trivial |(refine⟨?_,?_⟩) |(intro _) |(as_aux_lemma=>kernel_rfl)|exact ziz ..|exact zj0 ..|exact zj1 ..)
theorem zux[Dr](φ:Nat):z1k TV Tryz.prog 65 (zg8 φ):=z2h (N:=zg7 Tryz.prog φ) (z04 ⟨zlx φ,trivial⟩ trivial trivial trivial) (zcm φ) Tryz.func65 (by kernel_rfl) (zuz φ) (zuy φ)
def z7n(φ:Nat):H TV (RTup TT [.val 2]):=(.seq .x (.seq .x (.seq .x (.seq (.seq .x (.body (.loop ⟨[(72,[(3,.ptr 0 0),(5,.own 1),(22,.val 39),(23,.val 0),(24,.val 0)])],[.box 88 [.val 41],.row 3 0]⟩ (λn=>kk5 (za0 φ n)) (λzk8=>.x)))) (.seq (.seq .x (.body (.loop ⟨[(72,[(63,.own 0),(64,.val 0),(65,.val 0)])],[.row 3 0]⟩ (λn=>kk3 (z8o φ n)) (λzk13=>.x)))) .x)))))
def zba(P:Program)(φ:Nat):Env TV:=⟨P,lk [(69,z99 φ)],lk [],lk [],lk []⟩
theorem zol(φ:Nat)(a):(zbb φ).F a=fnX TV (zba Tryz.prog φ) φ Tryz.f68 [40,41] [.val 2] (z7n φ) a:=by kernel_rfl
theorem zoj(φ:Nat):fnO TV (zba Tryz.prog φ) φ Tryz.f68 [.val 2] (z7n φ):=by
 unfold fnO;show obl _ _ _ _ _ _ _ _;unfold z7n
 repeat' (first|exact trivial |(refine⟨?_,?_⟩) |(intro _)|kernel_rfl)
theorem zoi[Dr](φ:Nat):z1k TV Tryz.prog 68 (zbb φ):=z2h (N:=zba Tryz.prog φ) (z04 ⟨zhl φ,trivial⟩ trivial trivial trivial) (z7n φ) Tryz.func68 (by kernel_rfl) (zol φ) (zoj φ)
def zem(φ:Nat):H TV (RTup TT [.val 0,.val 0]):=(.seq .x (.seq .x (.seq .x (.seq .x (.seq (.seq .x (.body (.loop ⟨[(45,[(3,.ptr 0 0),(7,.val 0),(21,.val 39),(22,.val 0),(23,.val 0)])],[.box 88 [.val 41]]⟩ (λn=>kk5 (zel φ n)) (λzk10=>.x)))) .x)))))
def zhv(P:Program)(φ:Nat):Env TV:=⟨P,lk [(67,zcl φ),(68,zbb φ)],lk [],lk [],lk []⟩
theorem zxd(φ:Nat)(a):(zhw φ).F a=fnX TV (zhv Tryz.prog φ) φ Tryz.f30 [40,41] [.val 0,.val 0] (zem φ) a:=by kernel_rfl
theorem zxc(φ:Nat):fnO TV (zhv Tryz.prog φ) φ Tryz.f30 [.val 0,.val 0] (zem φ):=by
 unfold fnO;show obl _ _ _ _ _ _ _ _;unfold zem
 repeat' (first|exact trivial |(refine⟨?_,?_⟩) |(intro _)|kernel_rfl)
theorem zxb[Dr](φ:Nat):z1k TV Tryz.prog 30 (zhw φ):=z2h (N:=zhv Tryz.prog φ) (z04 ⟨zlx φ,zoi φ,trivial⟩ trivial trivial trivial) (zem φ) Tryz.func30 (by kernel_rfl) (zxd φ) (zxc φ)
def z3e(φ:Nat):H TV (RTup TT [.row 76 53]):=.x
def z1j(P:Program)(φ:Nat):Env TV:=⟨P,lk [],lk [],lk [],lk []⟩
theorem zn5(φ:Nat)(a):(zf8 φ).F a=fnX TV (z1j Tryz.prog φ) φ Tryz.f55 [54] [.row 76 53] (z3e φ) a:=by kernel_rfl
theorem zf7(φ:Nat):fnO TV (z1j Tryz.prog φ) φ Tryz.f55 [.row 76 53] (z3e φ):=by
 unfold fnO;show obl _ _ _ _ _ _ _ _;unfold z3e
 repeat' (first|exact trivial |(refine⟨?_,?_⟩) |(intro _)|kernel_rfl)
theorem zn4[Dr](φ:Nat):z1k TV Tryz.prog 55 (zf8 φ):=z2h (N:=z1j Tryz.prog φ) (z04 trivial trivial trivial trivial) (z3e φ) Tryz.func55 (by kernel_rfl) (zn5 φ) (zf7 φ)
theorem yhw[Dr](a:Tup TT [54]):vls TV [54] a = [Px.ro (TV.ev 53) (TV.sz 53) (a.1:List z6)]:=by kernel_rfl
def z87:H TV (RTup TT [.row 76 53]):=.seq .x (.seq (.seq .x (.cond (.seq (.join ⟨[(8,[(2,.own 0)])],[.row 76 53]⟩ (λz=>some (z.1,())) .x) .x) .x)) .x)
theorem zps(φ:Nat):fnO TV (z1j Tryz.prog φ) φ Tryz.f55 [.row 76 53] z87:=by
 unfold fnO;show obl _ _ _ _ _ _ _ _;unfold z87
 repeat' (first|exact trivial |(refine⟨?_,?_⟩) |(intro _)|kernel_rfl)
theorem zpt(φ cap:Nat):fnV TV (z1j Tryz.prog φ) φ Tryz.f55 [.row 76 53] z87 [.val (.slice none 0 cap)]=some (([]:List z6),()):=by kernel_rfl
theorem zpu(φ cap:Nat)(q:Addr):fnV TV (z1j Tryz.prog φ) φ Tryz.f55 [.row 76 53] (z3e φ) [.val (.slice (some q) 0 cap)]=some (([]:List z6),()):=by kernel_rfl
theorem zqq[Dr](φ:Nat):z1k TV Tryz.prog 55 (zdh φ):=by
 intro a r h;have h0:zct φ a.1=some r:=h;unfold zct at h0;cases hl:List.isEmpty (α:=z6) a.1 with
 |false=>rw[if_neg (by rw[hl];exact Bool.false_ne_true)] at h0;exact zn4 φ a r h0
 |true=>
  rw[if_pos hl] at h0;have hr:=w0c h0;subst hr;have hnil :(a.1:List z6) = []:=w3h.1 hl;intro r0 w vs h1 h2 h3;have e54:vls TV (zdh φ).args a = [Px.ro (TV.ev 53) (TV.sz 53) (a.1:List z6)]:=yhw a;rw[e54] at h2 h3;have h4:=h3 0 _ rfl;have h5:∃ad cap,vs.getD 0 undef = .slice ad 0 cap:=by
   rw[hnil] at h4;rcases h4 with⟨⟨ad,cap,e⟩,_⟩|⟨b,o,cap,e,_⟩
   .exact⟨ad,cap,e⟩
   .exact⟨some ⟨b,o,none⟩,_,e⟩
  obtain⟨ad,cap,e⟩:=h5;have run:zdn Tryz.prog 55 [eqv (.slice ad 0 cap)] (Kres TV Tryz.prog [.row 76 53] (([]:List z6),())):=by
   cases ad with
   |none=>exact y08 (N:=z1j Tryz.prog φ) (z04 trivial trivial trivial trivial) (us:=[.val (.slice none 0 cap)]) z87 Tryz.func55 (w0p (by kernel_rfl)) (zpt φ cap) (zps φ)
   |some q=>exact y08 (N:=z1j Tryz.prog φ) (z04 trivial trivial trivial trivial) (us:=[.val (.slice (some q) 0 cap)]) (z3e φ) Tryz.func55 (w0p (by kernel_rfl)) (zpu φ cap q) (zf7 φ)
  refine run r0 w vs h1 h2 λi A hA=>?_
  cases i with
  |zero=>simp only[w1z,w00] at hA;subst hA;exact e
  |succ i=>simp at hA
def z0x(φ:Nat):H TV (List (TT 53)):=(.seq .x (.body (.loop ⟨[(53,[(0,.own 0),(1,.val 0),(2,.val 0),(3,.cmp 53),(8,.val 0)]),(1,[(0,.own 0)])],[.row 76 53]⟩ (λn=>kk5 (z1w φ n)) (λzk10=>(.seq .x (.seq (.body (.seq .x (.body (.loop ⟨[(53,[(0,.own 0),(1,.val 0),(2,.val 0),(3,.cmp 53),(8,.val 0),(9,.val 0)]),(1,[(0,.own 0)])],[.row 76 53]⟩ (λn z=>z1x φ (λa0 a1 a2 a3 a4=>zk10 (a0,a1,a2,a3,a4,())) n z.1 z.2.1 z.2.2.1 z.2.2.2.1 z.2.2.2.2.1 z.2.2.2.2.2.1) (λzk17=>.x))))) .x))))))
def z2i(P:Program)(φ:Nat):Env TV:=⟨P,lk [],lk [],lk [],lk []⟩
theorem za7(φ:Nat)(l a):(z2j φ).F l a=fnM TV (z2i Tryz.prog φ) φ Tryz.f119 76 53 [.val 0,.val 0,.cmp 53] (z0x φ) l a:=by kernel_rfl
theorem za6(φ:Nat):fnMO TV (z2i Tryz.prog φ) φ Tryz.f119 76 53 (z0x φ):=by
 unfold fnMO;show obl _ _ _ _ _ _ _ _;unfold z0x
 repeat' (first|exact trivial |(refine⟨?_,?_⟩) |(intro _)|kernel_rfl)
theorem za5[Dr](φ:Nat):zme TV Tryz.prog 119 (z2j φ):=zre (N:=z2i Tryz.prog φ) (z04 trivial trivial trivial trivial) (z0x φ) Tryz.func119 (by kernel_rfl) (za7 φ) (za6 φ)
def z1z(φ:Nat):H TV (List (TT 53)):=(.seq .x (.body (.loop ⟨[(38,[(0,.own 0),(1,.val 0),(2,.val 0),(3,.val 0),(10,.val 0)]),(1,[(0,.own 0)])],[.row 76 53]⟩ (λn=>kk5 (z2y φ n)) (λzk11=>.x))))
def z3p(P:Program)(φ:Nat):Env TV:=⟨P,lk [],lk [],lk [],lk []⟩
theorem zdm(φ:Nat)(l a):(z3q φ).F l a=fnM TV (z3p Tryz.prog φ) φ Tryz.f193 76 53 [.val 0,.val 0,.val 0,.cmp 53] (z1z φ) l a:=by kernel_rfl
theorem zdl(φ:Nat):fnMO TV (z3p Tryz.prog φ) φ Tryz.f193 76 53 (z1z φ):=by
 unfold fnMO;show obl _ _ _ _ _ _ _ _;unfold z1z
 repeat' (first|exact trivial |(refine⟨?_,?_⟩) |(intro _)|kernel_rfl)
theorem zdk[Dr](φ:Nat):zme TV Tryz.prog 193 (z3q φ):=zre (N:=z3p Tryz.prog φ) (z04 trivial trivial trivial trivial) (z1z φ) Tryz.func193 (by kernel_rfl) (zdm φ) (zdl φ)
def z32(φ:Nat):H TV (List (TT 53)):=(.seq .x (.seq .x (.seq (.body (.loop ⟨[(58,[(0,.own 0),(2,.val 0),(4,.cmp 53),(10,.val 0),(11,.val 0)]),(1,[(0,.own 0)])],[.row 76 53]⟩ (λn=>kk5 (z2b φ n)) (λzk11=>.x))) .x)))
def z4j(P:Program)(φ:Nat):Env TV:=⟨P,lk [],lk [(193,z3q φ)],lk [],lk []⟩
theorem zfe(φ:Nat)(l a):(z4k φ).F l a=fnM TV (z4j Tryz.prog φ) φ Tryz.f165 76 53 [.val 0,.val 0,.val 0,.cmp 53] (z32 φ) l a:=by kernel_rfl
theorem zfd(φ:Nat):fnMO TV (z4j Tryz.prog φ) φ Tryz.f165 76 53 (z32 φ):=by
 unfold fnMO;show obl _ _ _ _ _ _ _ _;unfold z32
 repeat' (first|exact trivial |(refine⟨?_,?_⟩) |(intro _)|kernel_rfl)
theorem zfc[Dr](φ:Nat):zme TV Tryz.prog 165 (z4k φ):=zre (N:=z4j Tryz.prog φ) (z04 trivial ⟨(zdk φ),trivial⟩ trivial trivial) (z32 φ) Tryz.func165 (by kernel_rfl) (zfe φ) (zfd φ)
def z2c(φ d:Nat):H TV (List (TT 53)):=(.seq (.seq .x (.cond (.seq .x (.seq .x (.seq (.body (.loop ⟨[(220,[(0,.own 0),(1,.val 0),(4,.cmp 53),(10,.val 0),(11,.val 0)]),(1,[(0,.own 0)])],[.row 76 53]⟩ (λn=>kk5 (z1l φ n)) (λzk11=>.x))) (.seq (.seq .x (.body (.loop ⟨[(220,[(0,.own 0),(10,.val 0),(13,.val 0)]),(1,[(0,.own 0)])],[.row 76 53]⟩ (λn=>kk3 (z36 φ n)) (λzk16=>.x)))) .x)))) .x)) (.seq (.seq .x (.cond (.seq .x (.seq .x (.seq (.body (.loop ⟨[(220,[(0,.own 0),(2,.val 0),(4,.cmp 53),(14,.val 0),(15,.val 0)]),(1,[(0,.own 0)])],[.row 76 53]⟩ (λn=>kk5 (z1m φ n)) (λzk22=>.x))) (.seq (.seq .x (.body (.loop ⟨[(220,[(0,.own 0),(14,.val 0),(17,.val 0)]),(1,[(0,.own 0)])],[.row 76 53]⟩ (λn=>kk3 (z37 φ n)) (λzk27=>.x)))) .x)))) .x)) (.seq .x (.seq .x (.seq .x (.seq (.join ⟨[(220,[(0,.own 0),(1,.val 0),(2,.val 0),(3,.val 0),(4,.cmp 53),(18,.val 0),(19,.val 0),(20,.val 0),(21,.val 0)]),(1,[(0,.own 0)])],[.row 76 53]⟩ (λz=>z38 φ (z03 φ d) z.1 z.2.1 z.2.2.1 z.2.2.2.1 z.2.2.2.2.1 z.2.2.2.2.2.1 z.2.2.2.2.2.2.1 z.2.2.2.2.2.2.2.1 z.2.2.2.2.2.2.2.2.1) (.seq .x .x)) (.seq .x (.seq (.body (.loop ⟨[(220,[(0,.own 0),(1,.val 0),(2,.val 0),(3,.val 0),(4,.cmp 53),(18,.val 0),(19,.val 0),(20,.val 0),(21,.val 0),(22,.val 0)]),(1,[(0,.own 0)])],[.row 76 53]⟩ (λn z=>z1n φ (z03 φ d) n z.1 z.2.1 z.2.2.1 z.2.2.2.1 z.2.2.2.2.1 z.2.2.2.2.2.1 z.2.2.2.2.2.2.1 z.2.2.2.2.2.2.2.1 z.2.2.2.2.2.2.2.2.1 z.2.2.2.2.2.2.2.2.2.1) (λzk48=>.x))) (.seq .x (.seq (.join ⟨[(220,[(0,.own 0),(1,.val 0),(3,.val 0),(4,.cmp 53),(18,.val 0),(20,.val 0),(24,.val 0)]),(1,[(0,.own 0)])],[.row 76 53]⟩ (λz=>z3a φ (z03 φ d) z.1 z.2.1 z.2.2.1 z.2.2.2.1 z.2.2.2.2.1 z.2.2.2.2.2.1 z.2.2.2.2.2.2.1) (.seq .x .x)) (.seq (.join ⟨[(220,[(0,.own 0),(3,.val 0),(4,.cmp 53),(18,.val 0),(24,.val 0)]),(1,[(0,.own 0)])],[.row 76 53]⟩ (λz=>z3b φ (z03 φ d) z.1 z.2.1 z.2.2.1 z.2.2.2.1 z.2.2.2.2.1) (.seq .x .x)) .x)))))))))))
def z44(P:Program)(φ d:Nat):Env TV:=⟨P,lk [],lk [(165,z4k φ),(120,z2d φ d)],lk [],lk []⟩
theorem zdy(φ d:Nat)(l a):(z2d φ (d+1)).F l a=fnM TV (z44 Tryz.prog φ d) φ Tryz.f120 76 53 [.val 0,.val 0,.val 0,.cmp 53] (z2c φ d) l a:=by kernel_rfl
theorem zdx(φ d:Nat):fnMO TV (z44 Tryz.prog φ d) φ Tryz.f120 76 53 (z2c φ d):=by
 unfold fnMO;show obl _ _ _ _ _ _ _ _;unfold z2c
 repeat' (first|exact trivial |(refine⟨?_,?_⟩) |(intro _)|kernel_rfl)
theorem z6t[Dr](φ:Nat):∀d,zme TV Tryz.prog 120 (z2d φ d)
 |0=>λl a l2 sv h=>absurd (show (none:Option (List (TT 53)))=some l2 from h) (λq=>by cases q)
 |d+1=>zre (N:=z44 Tryz.prog φ d) (z04 trivial ⟨(zfc φ),(z6t φ d),trivial⟩ trivial trivial) (z2c φ d) Tryz.func120 (by kernel_rfl) (zdy φ d) (zdx φ d)
def z34(φ:Nat):H TV (List (TT 53)):=(.seq .x (.seq .x (.seq (.body (.loop ⟨[(63,[(0,.own 0),(1,.val 0),(2,.cmp 53),(6,.val 0),(7,.val 0),(8,.val 0)]),(1,[(0,.own 0)])],[.row 76 53]⟩ (λn=>kk6 (z41 φ n)) (λzk10=>.x))) (.seq .x (.body (.loop ⟨[(63,[(0,.own 0),(1,.val 0),(2,.cmp 53),(6,.val 0)]),(1,[(0,.own 0)])],[.row 76 53]⟩ (λn=>kk4 (z42 φ n)) (λzk17=>(.seq .x (.body (.seq .x (.seq (.body (.loop ⟨[(63,[(0,.own 0),(1,.val 0),(2,.cmp 53),(6,.val 0),(7,.val 0),(8,.val 0)]),(1,[(0,.own 0)])],[.row 76 53]⟩ (λn z=>z43 φ (λa0 a1 a2 a3=>zk17 (a0,a1,a2,a3,())) n z.1 z.2.1 z.2.2.1 z.2.2.2.1 z.2.2.2.2.1 z.2.2.2.2.2.1) (λzk24=>.x))) .x)))))))))))
def z4l(P:Program)(φ:Nat):Env TV:=⟨P,lk [],lk [(119,z2j φ),(120,z2d φ φ)],lk [],lk []⟩
theorem zfh(φ:Nat)(l a):(z4m φ).F l a=fnM TV (z4l Tryz.prog φ) φ Tryz.f78 76 53 [.val 0,.cmp 53] (z34 φ) l a:=by kernel_rfl
theorem zfg(φ:Nat):fnMO TV (z4l Tryz.prog φ) φ Tryz.f78 76 53 (z34 φ):=by
 unfold fnMO;show obl _ _ _ _ _ _ _ _;unfold z34
 repeat' (first|exact trivial |(refine⟨?_,?_⟩) |(intro _)|kernel_rfl)
theorem zff[Dr](φ:Nat):zme TV Tryz.prog 78 (z4m φ):=zre (N:=z4l Tryz.prog φ) (z04 trivial ⟨(za5 φ),(z6t φ φ),trivial⟩ trivial trivial) (z34 φ) Tryz.func78 (by kernel_rfl) (zfh φ) (zfg φ)
def z2m(φ:Nat):H TV (List (TT 53)):=.x
def z4b(P:Program)(φ:Nat):Env TV:=⟨P,lk [],lk [(78,z4m φ)],lk [],lk []⟩
theorem zf0(φ:Nat)(l a):(z1h φ).F l a=fnM TV (z4b Tryz.prog φ) φ Tryz.f35 76 53 [.cmp 53] (z2m φ) l a:=by kernel_rfl
theorem zez(φ:Nat):fnMO TV (z4b Tryz.prog φ) φ Tryz.f35 76 53 (z2m φ):=by
 unfold fnMO;show obl _ _ _ _ _ _ _ _;unfold z2m
 repeat' (first|exact trivial |(refine⟨?_,?_⟩) |(intro _)|kernel_rfl)
theorem z4c[Dr](φ:Nat):zme TV Tryz.prog 35 (z1h φ):=zre (N:=z4b Tryz.prog φ) (z04 trivial ⟨(zff φ),trivial⟩ trivial trivial) (z2m φ) Tryz.func35 (by kernel_rfl) (zf0 φ) (zez φ)
def zac(φ:Nat):H TV (RTup TT [.val 0]):=.x
def ze7(P:Program)(φ:Nat):Env TV:=⟨P,lk [],lk [],lk [],lk []⟩
theorem zs4(φ:Nat)(a):(z5a φ).F a=fnX TV (ze7 Tryz.prog φ) φ Tryz.f41 [0,0] [.val 0] (zac φ) a:=by kernel_rfl
theorem zs3(φ:Nat):fnO TV (ze7 Tryz.prog φ) φ Tryz.f41 [.val 0] (zac φ):=by
 unfold fnO;show obl _ _ _ _ _ _ _ _;unfold zac
 repeat' (first|exact trivial |(refine⟨?_,?_⟩) |(intro _)|kernel_rfl)
theorem zad[Dr](φ:Nat):z1k TV Tryz.prog 41 (z5a φ):=z2h (N:=ze7 Tryz.prog φ) (z04 trivial trivial trivial trivial) (zac φ) Tryz.func41 (by kernel_rfl) (zs4 φ) (zs3 φ)
def zn8(φ:Nat):H TV (RTup TT [.val 0]):=(.seq .x (.seq .x (.seq (.seq .x (.body (.loop ⟨[(18,[(3,.val 0),(6,.val 24),(7,.val 0),(8,.val 0)])],[]⟩ (λn=>kk4 (z62 φ n)) (λzk6=>.x)))) .x)))
def zs5(P:Program)(φ:Nat):Env TV:=⟨P,lk [],lk [],lk [],lk []⟩
theorem y81(φ:Nat)(a):(zgu φ).F a=fnX TV (zs5 Tryz.prog φ) φ Tryz.f40 [24] [.val 0] (zn8 φ) a:=by kernel_rfl
theorem y80(φ:Nat):fnO TV (zs5 Tryz.prog φ) φ Tryz.f40 [.val 0] (zn8 φ):=by
 unfold fnO;show obl _ _ _ _ _ _ _ _;unfold zn8
 repeat' (first|exact trivial |(refine⟨?_,?_⟩) |(intro _)|kernel_rfl)
theorem zn9[Dr](φ:Nat):z1k TV Tryz.prog 40 (zgu φ):=z2h (N:=zs5 Tryz.prog φ) (z04 trivial trivial trivial trivial) (zn8 φ) Tryz.func40 (by kernel_rfl) (y81 φ) (y80 φ)
def z6f(φ:Nat):H TV (RTup TT [.val 0]):=.x
def z9u(P:Program)(φ:Nat):Env TV:=⟨P,lk [(41,z5a φ),(40,zgu φ)],lk [],lk [],lk []⟩
theorem zmr(φ:Nat)(a):(z6g φ).F a=fnX TV (z9u Tryz.prog φ) φ Tryz.f36 [53,53] [.val 0] (z6f φ) a:=by kernel_rfl
theorem zmq(φ:Nat):fnO TV (z9u Tryz.prog φ) φ Tryz.f36 [.val 0] (z6f φ):=by
 unfold fnO;show obl _ _ _ _ _ _ _ _;unfold z6f
 repeat' (first|exact trivial |(refine⟨?_,?_⟩) |(intro _)|kernel_rfl)
theorem zf3[Dr](φ:Nat):z1k TV Tryz.prog 36 (z6g φ):=z2h (N:=z9u Tryz.prog φ) (z04 ⟨zad φ,zn9 φ,trivial⟩ trivial trivial trivial) (z6f φ) Tryz.func36 (by kernel_rfl) (zmr φ) (zmq φ)
def z6e(φ:Nat):H TV (RTup TT [.val 37]):=(.seq .x (.seq .x (.seq .x (.seq (.seq .x (.body (.loop ⟨[(49,[(1,.val 0),(4,.own 0),(12,.own 1),(13,.val 0),(14,.val 0)])],[.row 66 30,.row 76 53]⟩ (λn=>kk5 (z4p φ n)) (λzk10=>.x)))) .x))))
def z9s(P:Program)(φ:Nat):Env TV:=⟨P,lk [(55,zdh φ),(36,z6g φ)],lk [(35,z1h φ)],lk [],lk []⟩
theorem zmp(φ:Nat)(a):(z9t φ).F a=fnX TV (z9s Tryz.prog φ) φ Tryz.f18 [54,0] [.val 37] (z6e φ) a:=by kernel_rfl
theorem zmo(φ:Nat):fnO TV (z9s Tryz.prog φ) φ Tryz.f18 [.val 37] (z6e φ):=by
 unfold fnO;show obl _ _ _ _ _ _ _ _;unfold z6e
 repeat' (first|exact trivial |(refine⟨?_,?_⟩) |(intro _)|kernel_rfl)
theorem zmn[Dr](φ:Nat):z1k TV Tryz.prog 18 (z9t φ):=z2h (N:=z9s Tryz.prog φ) (z04 ⟨zqq φ,zf3 φ,trivial⟩ ⟨(z4c φ),trivial⟩ trivial trivial) (z6e φ) Tryz.func18 (by kernel_rfl) (zmp φ) (zmo φ)
end Px
end
section
set_option maxHeartbeats 4000000
set_option maxRecDepth 100000
namespace Px
open Go Go.RowKit Go.Proofs
def zcp(φ:Nat):H TV (RTup TT [.val 2]):=(.seq .x (.seq .x (.seq .x (.seq .x (.seq (.join ⟨[(161,[(1,.own 0),(2,.own 1),(3,.ptr 2 0),(4,.val 0)])],[.row 64 1,.row 66 30,.box 42 [.own 3,.val 0,.val 24],.row 84 45]⟩ (kk6 (z9a φ)) (.ins 3 26 (.seq .x (.seq (.join ⟨[(93,[(1,.own 0),(2,.own 1),(6,.ptr 2 0),(7,.val 0),(8,.ptr 3 0)]),(161,[(1,.own 0),(2,.own 1)])],[.row 64 1,.row 66 30,.box 42 [.own 4,.val 0,.own 5],.box 54 [.own 6,.own 7],.row 84 45,.row 3 0,.row 3 0,.row 119 38]⟩ (kk8 (z2w φ)) (.ins 3 13 (.seq .x (.seq .x (.seq .x (.seq (.seq .x (.body (.loop ⟨[(99,[(1,.own 0),(2,.own 1),(3,.ptr 2 0),(6,.ptr 3 0),(9,.val 0),(10,.val 0),(22,.own 0),(23,.val 0),(24,.val 0)]),(93,[(1,.own 0),(2,.own 1),(6,.ptr 4 0)]),(161,[(1,.own 0),(2,.own 1)])],[.row 64 1,.row 66 30,.box 36 [.val 28],.box 54 [.own 5,.own 6],.box 42 [.own 7,.val 0,.own 8],.row 3 0,.row 119 38,.row 84 45,.row 3 0]⟩ (λn=>kk12 (zbt φ n)) (λzk513=>.x)))) (.seq (.seq .x (.body (.loop ⟨[(99,[(1,.own 0),(2,.own 1),(3,.ptr 2 0),(6,.ptr 3 0),(9,.val 0),(10,.val 0),(45,.own 1),(46,.val 0),(47,.val 0)]),(93,[(1,.own 0),(2,.own 1),(6,.ptr 4 0)]),(161,[(1,.own 0),(2,.own 1)])],[.row 64 1,.row 66 30,.box 36 [.val 28],.box 54 [.own 5,.own 6],.box 42 [.own 7,.val 0,.own 8],.row 3 0,.row 119 38,.row 84 45,.row 3 0]⟩ (λn=>kk12 (zbu φ n)) (λzk527=>.x)))) (.seq .x (.seq .x (.seq (.join ⟨[(99,[(6,.ptr 0 0)]),(93,[(1,.own 1),(2,.own 2),(6,.ptr 3 0)]),(161,[(1,.own 1),(2,.own 2)])],[.box 54 [.own 4,.own 5],.row 64 1,.row 66 30,.box 42 [.own 6,.val 0,.own 7],.row 3 0,.row 119 38,.row 84 45,.row 3 0]⟩ (kk7 (z58 φ)) (.seq .x (.body (.rf 13 0 95 (.seq .x (.seq (.seq .x (.body (.loop ⟨[(112,[(0,.own 0),(1,.ptr 1 0),(2,.ptr 2 0),(3,.ptr 3 0),(5,.val 0),(6,.val 0),(22,.own 4),(23,.val 0),(24,.val 0)]),(100,[(6,.ptr 5 0),(99,.own 0)]),(93,[(1,.own 4),(2,.own 6),(6,.ptr 7 0)]),(161,[(1,.own 4),(2,.own 6)])],[.emp,.box 37 [.own 4],.box 38 [.own 6],.box 36 [.val 28],.row 64 1,.box 54 [.own 8,.own 9],.row 66 30,.box 42 [.own 10,.val 0,.own 11],.row 3 0,.row 119 38,.row 84 45,.row 3 0]⟩ (λn=>kk12 (zbv φ n)) (λzk549=>(.seq .x (.seq .x (.seq (.body (.seq .x (.seq .x (.body (.loop ⟨[(112,[(0,.own 0),(1,.ptr 1 0),(2,.ptr 2 0),(3,.ptr 3 0),(5,.val 0),(6,.val 0),(7,.val 0),(8,.ptr 4 0),(22,.own 5),(23,.val 0),(24,.val 0),(29,.own 6),(30,.val 0),(31,.val 0)]),(100,[(6,.ptr 7 0),(99,.own 0)]),(93,[(1,.own 5),(2,.own 6),(6,.ptr 8 0)]),(161,[(1,.own 5),(2,.own 6)])],[.emp,.box 37 [.own 5],.box 38 [.own 6],.box 36 [.val 28],.box 64 [.val 1],.row 64 1,.row 66 30,.box 54 [.own 9,.own 10],.box 42 [.own 11,.val 0,.own 12],.row 3 0,.row 119 38,.row 84 45,.row 3 0]⟩ (λn z=>z7t φ (λa0 a1 a2 a3 a4 a5 a6 a7 a8 a9 a10 a11=>zk549 (a0,a1,a2,a3,a4,a5,a6,a7,a8,a9,a10,a11,())) n z.1 z.2.1 z.2.2.1 z.2.2.2.1 z.2.2.2.2.1 z.2.2.2.2.2.1 z.2.2.2.2.2.2.1 z.2.2.2.2.2.2.2.1 z.2.2.2.2.2.2.2.2.1 z.2.2.2.2.2.2.2.2.2.1 z.2.2.2.2.2.2.2.2.2.2.1 z.2.2.2.2.2.2.2.2.2.2.2.1 z.2.2.2.2.2.2.2.2.2.2.2.2.1 z.2.2.2.2.2.2.2.2.2.2.2.2.2.1 z.2.2.2.2.2.2.2.2.2.2.2.2.2.2.1 z.2.2.2.2.2.2.2.2.2.2.2.2.2.2.2.1) (λzk566=>(.seq .x (.seq .x (.seq (.body (.seq .x (.seq .x (.seq (.yl 15 13 0 .x .x) .x)))) .x))))))))) .x))))))) (.seq (.seq .x (.body (.loop ⟨[(112,[(0,.own 0),(1,.ptr 1 0),(5,.val 0),(6,.val 0),(63,.own 2),(64,.val 0),(65,.val 0)]),(100,[(6,.ptr 3 0),(99,.own 0)]),(93,[(1,.own 4),(2,.own 2),(6,.ptr 5 0)]),(161,[(1,.own 4),(2,.own 2)])],[.emp,.box 37 [.own 4],.row 66 30,.box 54 [.own 6,.own 7],.row 64 1,.box 42 [.own 8,.val 0,.own 9],.row 3 0,.row 119 38,.row 84 45,.row 3 0]⟩ (λn=>kk11 (zbw φ n)) (λzk579=>(.seq .x (.seq .x (.seq (.body (.seq .x (.seq .x (.seq (.yl 11 13 0 .x .x) .x)))) .x))))))) (.seq (.seq .x (.body (.loop ⟨[(112,[(0,.own 0),(5,.val 0),(6,.val 0),(88,.own 1),(89,.val 0),(90,.val 0)]),(100,[(6,.ptr 2 0),(99,.own 0)]),(93,[(1,.own 1),(2,.own 3),(6,.ptr 4 0)]),(161,[(1,.own 1),(2,.own 3)])],[.emp,.row 64 1,.box 54 [.own 5,.own 6],.row 66 30,.box 42 [.own 7,.val 0,.own 8],.row 3 0,.row 119 38,.row 84 45,.row 3 0]⟩ (λn=>kk11 (zbx φ n)) (λzk591=>(.seq .x (.seq .x (.seq (.body (.seq .x (.seq (.yl 7 13 0 .x .x) .x))) .x))))))) (.yl 6 13 0 .x .x))))))))) .x)))))))) .x)) (.seq .x (.seq .x (.seq .x (.seq .x (.seq .x (.seq (.seq .x (.body (.loop ⟨[(93,[(1,.own 0),(2,.own 1),(6,.ptr 2 0),(9,.ptr 3 0),(43,.val 39),(44,.val 0),(45,.val 0)]),(161,[(1,.own 0),(2,.own 1)])],[.row 64 1,.row 66 30,.box 42 [.own 4,.val 0,.val 24],.box 88 [.val 41],.row 84 45]⟩ (λn=>kk9 (z7s φ n)) (λzk499=>.x)))) .x)))))))) .x)) (.seq .x (.seq (.join ⟨[(161,[(1,.own 0),(2,.own 1),(3,.ptr 2 0),(4,.val 0),(5,.ptr 3 0),(6,.val 0)])],[.row 64 1,.row 66 30,.box 42 [.own 4,.val 0,.val 24],.box 42 [.own 5,.val 0,.val 24],.row 84 45,.row 84 45]⟩ (kk10 (z9b φ)) (.ins 3 26 (.seq .x (.seq (.join ⟨[(93,[(1,.own 0),(2,.own 1),(6,.ptr 2 0),(7,.val 0),(8,.ptr 3 0)]),(161,[(1,.own 0),(2,.own 1),(3,.ptr 4 0),(4,.val 0)])],[.row 64 1,.row 66 30,.box 42 [.own 5,.val 0,.own 6],.box 54 [.own 7,.own 8],.box 42 [.own 9,.val 0,.val 24],.row 84 45,.row 3 0,.row 3 0,.row 119 38,.row 84 45]⟩ (kk12 (z2v φ)) (.ins 3 13 (.seq .x (.seq .x (.seq .x (.seq (.seq .x (.body (.loop ⟨[(99,[(1,.own 0),(2,.own 1),(3,.ptr 2 0),(6,.ptr 3 0),(9,.val 0),(10,.val 0),(22,.own 0),(23,.val 0),(24,.val 0)]),(93,[(1,.own 0),(2,.own 1),(6,.ptr 4 0)]),(161,[(1,.own 0),(2,.own 1),(3,.ptr 5 0),(4,.val 0)])],[.row 64 1,.row 66 30,.box 36 [.val 28],.box 54 [.own 6,.own 7],.box 42 [.own 8,.val 0,.own 9],.box 42 [.own 10,.val 0,.val 24],.row 3 0,.row 119 38,.row 84 45,.row 3 0,.row 84 45]⟩ (λn=>kk16 (zbo φ n)) (λzk375=>.x)))) (.seq (.seq .x (.body (.loop ⟨[(99,[(1,.own 0),(2,.own 1),(3,.ptr 2 0),(6,.ptr 3 0),(9,.val 0),(10,.val 0),(45,.own 1),(46,.val 0),(47,.val 0)]),(93,[(1,.own 0),(2,.own 1),(6,.ptr 4 0)]),(161,[(1,.own 0),(2,.own 1),(3,.ptr 5 0),(4,.val 0)])],[.row 64 1,.row 66 30,.box 36 [.val 28],.box 54 [.own 6,.own 7],.box 42 [.own 8,.val 0,.own 9],.box 42 [.own 10,.val 0,.val 24],.row 3 0,.row 119 38,.row 84 45,.row 3 0,.row 84 45]⟩ (λn=>kk16 (zbp φ n)) (λzk393=>.x)))) (.seq .x (.seq .x (.seq (.join ⟨[(99,[(6,.ptr 0 0)]),(93,[(1,.own 1),(2,.own 2),(6,.ptr 3 0)]),(161,[(1,.own 1),(2,.own 2),(3,.ptr 4 0),(4,.val 0)])],[.box 54 [.own 5,.own 6],.row 64 1,.row 66 30,.box 42 [.own 7,.val 0,.own 8],.box 42 [.own 9,.val 0,.val 24],.row 3 0,.row 119 38,.row 84 45,.row 3 0,.row 84 45]⟩ (kk11 (z57 φ)) (.seq .x (.body (.rf 13 0 95 (.seq .x (.seq (.seq .x (.body (.loop ⟨[(112,[(0,.own 0),(1,.ptr 1 0),(2,.ptr 2 0),(3,.ptr 3 0),(5,.val 0),(6,.val 0),(22,.own 4),(23,.val 0),(24,.val 0)]),(100,[(6,.ptr 5 0),(99,.own 0)]),(93,[(1,.own 4),(2,.own 6),(6,.ptr 7 0)]),(161,[(1,.own 4),(2,.own 6),(3,.ptr 8 0),(4,.val 0)])],[.emp,.box 37 [.own 4],.box 38 [.own 6],.box 36 [.val 28],.row 64 1,.box 54 [.own 9,.own 10],.row 66 30,.box 42 [.own 11,.val 0,.own 12],.box 42 [.own 13,.val 0,.val 24],.row 3 0,.row 119 38,.row 84 45,.row 3 0,.row 84 45]⟩ (λn=>kk16 (zbq φ n)) (λzk423=>(.seq .x (.seq .x (.seq (.body (.seq .x (.seq .x (.body (.loop ⟨[(112,[(0,.own 0),(1,.ptr 1 0),(2,.ptr 2 0),(3,.ptr 3 0),(5,.val 0),(6,.val 0),(7,.val 0),(8,.ptr 4 0),(22,.own 5),(23,.val 0),(24,.val 0),(29,.own 6),(30,.val 0),(31,.val 0)]),(100,[(6,.ptr 7 0),(99,.own 0)]),(93,[(1,.own 5),(2,.own 6),(6,.ptr 8 0)]),(161,[(1,.own 5),(2,.own 6),(3,.ptr 9 0),(4,.val 0)])],[.emp,.box 37 [.own 5],.box 38 [.own 6],.box 36 [.val 28],.box 64 [.val 1],.row 64 1,.row 66 30,.box 54 [.own 10,.own 11],.box 42 [.own 12,.val 0,.own 13],.box 42 [.own 14,.val 0,.val 24],.row 3 0,.row 119 38,.row 84 45,.row 3 0,.row 84 45]⟩ (λn z=>z7r φ (λa0 a1 a2 a3 a4 a5 a6 a7 a8 a9 a10 a11 a12 a13 a14 a15=>zk423 (a0,a1,a2,a3,a4,a5,a6,a7,a8,a9,a10,a11,a12,a13,a14,a15,())) n z.1 z.2.1 z.2.2.1 z.2.2.2.1 z.2.2.2.2.1 z.2.2.2.2.2.1 z.2.2.2.2.2.2.1 z.2.2.2.2.2.2.2.1 z.2.2.2.2.2.2.2.2.1 z.2.2.2.2.2.2.2.2.2.1 z.2.2.2.2.2.2.2.2.2.2.1 z.2.2.2.2.2.2.2.2.2.2.2.1 z.2.2.2.2.2.2.2.2.2.2.2.2.1 z.2.2.2.2.2.2.2.2.2.2.2.2.2.1 z.2.2.2.2.2.2.2.2.2.2.2.2.2.2.1 z.2.2.2.2.2.2.2.2.2.2.2.2.2.2.2.1 z.2.2.2.2.2.2.2.2.2.2.2.2.2.2.2.2.1 z.2.2.2.2.2.2.2.2.2.2.2.2.2.2.2.2.2.1 z.2.2.2.2.2.2.2.2.2.2.2.2.2.2.2.2.2.2.1 z.2.2.2.2.2.2.2.2.2.2.2.2.2.2.2.2.2.2.2.1) (λzk444=>(.seq .x (.seq .x (.seq (.body (.seq .x (.seq .x (.seq (.yl 15 13 0 .x .x) .x)))) .x))))))))) .x))))))) (.seq (.seq .x (.body (.loop ⟨[(112,[(0,.own 0),(1,.ptr 1 0),(5,.val 0),(6,.val 0),(63,.own 2),(64,.val 0),(65,.val 0)]),(100,[(6,.ptr 3 0),(99,.own 0)]),(93,[(1,.own 4),(2,.own 2),(6,.ptr 5 0)]),(161,[(1,.own 4),(2,.own 2),(3,.ptr 6 0),(4,.val 0)])],[.emp,.box 37 [.own 4],.row 66 30,.box 54 [.own 7,.own 8],.row 64 1,.box 42 [.own 9,.val 0,.own 10],.box 42 [.own 11,.val 0,.val 24],.row 3 0,.row 119 38,.row 84 45,.row 3 0,.row 84 45]⟩ (λn=>kk15 (zbr φ n)) (λzk461=>(.seq .x (.seq .x (.seq (.body (.seq .x (.seq .x (.seq (.yl 11 13 0 .x .x) .x)))) .x))))))) (.seq (.seq .x (.body (.loop ⟨[(112,[(0,.own 0),(5,.val 0),(6,.val 0),(88,.own 1),(89,.val 0),(90,.val 0)]),(100,[(6,.ptr 2 0),(99,.own 0)]),(93,[(1,.own 1),(2,.own 3),(6,.ptr 4 0)]),(161,[(1,.own 1),(2,.own 3),(3,.ptr 5 0),(4,.val 0)])],[.emp,.row 64 1,.box 54 [.own 6,.own 7],.row 66 30,.box 42 [.own 8,.val 0,.own 9],.box 42 [.own 10,.val 0,.val 24],.row 3 0,.row 119 38,.row 84 45,.row 3 0,.row 84 45]⟩ (λn=>kk15 (zbs φ n)) (λzk477=>(.seq .x (.seq .x (.seq (.body (.seq .x (.seq (.yl 7 13 0 .x .x) .x))) .x))))))) (.yl 6 13 0 .x .x))))))))) .x)))))))) .x)) (.seq .x (.seq .x (.seq .x (.seq .x (.seq .x (.seq (.seq .x (.body (.loop ⟨[(93,[(1,.own 0),(2,.own 1),(6,.ptr 2 0),(9,.ptr 3 0),(43,.val 39),(44,.val 0),(45,.val 0)]),(161,[(1,.own 0),(2,.own 1),(3,.ptr 4 0),(4,.val 0)])],[.row 64 1,.row 66 30,.box 42 [.own 5,.val 0,.val 24],.box 88 [.val 41],.box 42 [.own 6,.val 0,.val 24],.row 84 45,.row 84 45]⟩ (λn=>kk13 (z7q φ n)) (λzk357=>.x)))) .x)))))))) .x)) (.seq (.join ⟨[(161,[(1,.own 0),(2,.own 1),(3,.ptr 2 0),(4,.val 0),(5,.ptr 3 0),(6,.val 0),(7,.ptr 4 0),(8,.val 0)])],[.row 64 1,.row 66 30,.box 42 [.own 5,.val 0,.val 24],.box 42 [.own 6,.val 0,.val 24],.box 54 [.own 7,.own 8],.row 84 45,.row 84 45,.row 3 0,.row 119 38]⟩ (kk13 (z3n φ)) (.ins 3 13 (.seq .x (.seq .x (.seq .x (.seq (.seq .x (.body (.loop ⟨[(99,[(1,.own 0),(2,.own 1),(3,.ptr 2 0),(6,.ptr 3 0),(9,.val 0),(10,.val 0),(22,.own 0),(23,.val 0),(24,.val 0)]),(161,[(1,.own 0),(2,.own 1),(3,.ptr 4 0),(4,.val 0),(5,.ptr 5 0),(6,.val 0)])],[.row 64 1,.row 66 30,.box 36 [.val 28],.box 54 [.own 6,.own 7],.box 42 [.own 8,.val 0,.val 24],.box 42 [.own 9,.val 0,.val 24],.row 3 0,.row 119 38,.row 84 45,.row 84 45]⟩ (λn=>kk17 (zbj φ n)) (λzk219=>.x)))) (.seq (.seq .x (.body (.loop ⟨[(99,[(1,.own 0),(2,.own 1),(3,.ptr 2 0),(6,.ptr 3 0),(9,.val 0),(10,.val 0),(45,.own 1),(46,.val 0),(47,.val 0)]),(161,[(1,.own 0),(2,.own 1),(3,.ptr 4 0),(4,.val 0),(5,.ptr 5 0),(6,.val 0)])],[.row 64 1,.row 66 30,.box 36 [.val 28],.box 54 [.own 6,.own 7],.box 42 [.own 8,.val 0,.val 24],.box 42 [.own 9,.val 0,.val 24],.row 3 0,.row 119 38,.row 84 45,.row 84 45]⟩ (λn=>kk17 (zbk φ n)) (λzk238=>.x)))) (.seq .x (.seq .x (.seq (.join ⟨[(99,[(6,.ptr 0 0)]),(161,[(1,.own 1),(2,.own 2),(3,.ptr 3 0),(4,.val 0),(5,.ptr 4 0),(6,.val 0)])],[.box 54 [.own 5,.own 6],.row 64 1,.row 66 30,.box 42 [.own 7,.val 0,.val 24],.box 42 [.own 8,.val 0,.val 24],.row 3 0,.row 119 38,.row 84 45,.row 84 45]⟩ (kk12 (z56 φ)) (.seq .x (.body (.rf 13 0 95 (.seq .x (.seq (.seq .x (.body (.loop ⟨[(112,[(0,.own 0),(1,.ptr 1 0),(2,.ptr 2 0),(3,.ptr 3 0),(5,.val 0),(6,.val 0),(22,.own 4),(23,.val 0),(24,.val 0)]),(100,[(6,.ptr 5 0),(99,.own 0)]),(161,[(1,.own 4),(2,.own 6),(3,.ptr 7 0),(4,.val 0),(5,.ptr 8 0),(6,.val 0)])],[.emp,.box 37 [.own 4],.box 38 [.own 6],.box 36 [.val 28],.row 64 1,.box 54 [.own 9,.own 10],.row 66 30,.box 42 [.own 11,.val 0,.val 24],.box 42 [.own 12,.val 0,.val 24],.row 3 0,.row 119 38,.row 84 45,.row 84 45]⟩ (λn=>kk17 (zbl φ n)) (λzk270=>(.seq .x (.seq .x (.seq (.body (.seq .x (.seq .x (.body (.loop ⟨[(112,[(0,.own 0),(1,.ptr 1 0),(2,.ptr 2 0),(3,.ptr 3 0),(5,.val 0),(6,.val 0),(7,.val 0),(8,.ptr 4 0),(22,.own 5),(23,.val 0),(24,.val 0),(29,.own 6),(30,.val 0),(31,.val 0)]),(100,[(6,.ptr 7 0),(99,.own 0)]),(161,[(1,.own 5),(2,.own 6),(3,.ptr 8 0),(4,.val 0),(5,.ptr 9 0),(6,.val 0)])],[.emp,.box 37 [.own 5],.box 38 [.own 6],.box 36 [.val 28],.box 64 [.val 1],.row 64 1,.row 66 30,.box 54 [.own 10,.own 11],.box 42 [.own 12,.val 0,.val 24],.box 42 [.own 13,.val 0,.val 24],.row 3 0,.row 119 38,.row 84 45,.row 84 45]⟩ (λn z=>z7p φ (λa0 a1 a2 a3 a4 a5 a6 a7 a8 a9 a10 a11 a12 a13 a14 a15 a16=>zk270 (a0,a1,a2,a3,a4,a5,a6,a7,a8,a9,a10,a11,a12,a13,a14,a15,a16,())) n z.1 z.2.1 z.2.2.1 z.2.2.2.1 z.2.2.2.2.1 z.2.2.2.2.2.1 z.2.2.2.2.2.2.1 z.2.2.2.2.2.2.2.1 z.2.2.2.2.2.2.2.2.1 z.2.2.2.2.2.2.2.2.2.1 z.2.2.2.2.2.2.2.2.2.2.1 z.2.2.2.2.2.2.2.2.2.2.2.1 z.2.2.2.2.2.2.2.2.2.2.2.2.1 z.2.2.2.2.2.2.2.2.2.2.2.2.2.1 z.2.2.2.2.2.2.2.2.2.2.2.2.2.2.1 z.2.2.2.2.2.2.2.2.2.2.2.2.2.2.2.1 z.2.2.2.2.2.2.2.2.2.2.2.2.2.2.2.2.1 z.2.2.2.2.2.2.2.2.2.2.2.2.2.2.2.2.2.1 z.2.2.2.2.2.2.2.2.2.2.2.2.2.2.2.2.2.2.1 z.2.2.2.2.2.2.2.2.2.2.2.2.2.2.2.2.2.2.2.1 z.2.2.2.2.2.2.2.2.2.2.2.2.2.2.2.2.2.2.2.2.1) (λzk292=>(.seq .x (.seq .x (.seq (.body (.seq .x (.seq .x (.seq (.yl 15 13 0 .x .x) .x)))) .x))))))))) .x))))))) (.seq (.seq .x (.body (.loop ⟨[(112,[(0,.own 0),(1,.ptr 1 0),(5,.val 0),(6,.val 0),(63,.own 2),(64,.val 0),(65,.val 0)]),(100,[(6,.ptr 3 0),(99,.own 0)]),(161,[(1,.own 4),(2,.own 2),(3,.ptr 5 0),(4,.val 0),(5,.ptr 6 0),(6,.val 0)])],[.emp,.box 37 [.own 4],.row 66 30,.box 54 [.own 7,.own 8],.row 64 1,.box 42 [.own 9,.val 0,.val 24],.box 42 [.own 10,.val 0,.val 24],.row 3 0,.row 119 38,.row 84 45,.row 84 45]⟩ (λn=>kk16 (zbm φ n)) (λzk310=>(.seq .x (.seq .x (.seq (.body (.seq .x (.seq .x (.seq (.yl 11 13 0 .x .x) .x)))) .x))))))) (.seq (.seq .x (.body (.loop ⟨[(112,[(0,.own 0),(5,.val 0),(6,.val 0),(88,.own 1),(89,.val 0),(90,.val 0)]),(100,[(6,.ptr 2 0),(99,.own 0)]),(161,[(1,.own 1),(2,.own 3),(3,.ptr 4 0),(4,.val 0),(5,.ptr 5 0),(6,.val 0)])],[.emp,.row 64 1,.box 54 [.own 6,.own 7],.row 66 30,.box 42 [.own 8,.val 0,.val 24],.box 42 [.own 9,.val 0,.val 24],.row 3 0,.row 119 38,.row 84 45,.row 84 45]⟩ (λn=>kk16 (zbn φ n)) (λzk327=>(.seq .x (.seq .x (.seq (.body (.seq .x (.seq (.yl 7 13 0 .x .x) .x))) .x))))))) (.yl 6 13 0 .x .x))))))))) .x)))))))) .x)) (.seq .x (.seq (.join ⟨[(161,[(3,.ptr 0 0),(4,.val 0),(5,.ptr 1 0),(6,.val 0),(7,.ptr 2 0),(8,.val 0),(9,.ptr 3 0),(10,.val 0)])],[.box 42 [.own 4,.val 0,.val 24],.box 42 [.own 5,.val 0,.val 24],.box 54 [.own 6,.own 7],.box 54 [.own 8,.own 9],.row 84 45,.row 84 45,.row 3 0,.row 119 38,.row 3 0,.row 119 38]⟩ (kk14 (z3o φ)) (.ins 3 13 (.seq .x (.seq .x (.seq .x (.seq (.seq .x (.body (.loop ⟨[(99,[(1,.own 0),(2,.own 1),(3,.ptr 2 0),(6,.ptr 3 0),(9,.val 0),(10,.val 0),(22,.own 0),(23,.val 0),(24,.val 0)]),(161,[(3,.ptr 4 0),(4,.val 0),(5,.ptr 5 0),(6,.val 0),(7,.ptr 6 0),(8,.val 0)])],[.row 64 1,.row 66 30,.box 36 [.val 28],.box 54 [.own 7,.own 8],.box 42 [.own 9,.val 0,.val 24],.box 42 [.own 10,.val 0,.val 24],.box 54 [.own 11,.own 12],.row 3 0,.row 119 38,.row 84 45,.row 84 45,.row 3 0,.row 119 38]⟩ (λn=>kk20 (zdb φ n)) (λzk76=>.x)))) (.seq (.seq .x (.body (.loop ⟨[(99,[(1,.own 0),(2,.own 1),(3,.ptr 2 0),(6,.ptr 3 0),(9,.val 0),(10,.val 0),(45,.own 1),(46,.val 0),(47,.val 0)]),(161,[(3,.ptr 4 0),(4,.val 0),(5,.ptr 5 0),(6,.val 0),(7,.ptr 6 0),(8,.val 0)])],[.row 64 1,.row 66 30,.box 36 [.val 28],.box 54 [.own 7,.own 8],.box 42 [.own 9,.val 0,.val 24],.box 42 [.own 10,.val 0,.val 24],.box 54 [.own 11,.own 12],.row 3 0,.row 119 38,.row 84 45,.row 84 45,.row 3 0,.row 119 38]⟩ (λn=>kk20 (zdc φ n)) (λzk98=>.x)))) (.seq .x (.seq .x (.seq (.join ⟨[(99,[(6,.ptr 0 0)]),(161,[(3,.ptr 1 0),(4,.val 0),(5,.ptr 2 0),(6,.val 0),(7,.ptr 3 0),(8,.val 0)])],[.box 54 [.own 4,.own 5],.box 42 [.own 6,.val 0,.val 24],.box 42 [.own 7,.val 0,.val 24],.box 54 [.own 8,.own 9],.row 3 0,.row 119 38,.row 84 45,.row 84 45,.row 3 0,.row 119 38]⟩ (kk13 (z54 φ)) (.seq .x (.body (.rf 13 0 95 (.seq .x (.seq (.seq .x (.body (.loop ⟨[(112,[(0,.own 0),(1,.ptr 1 0),(2,.ptr 2 0),(3,.ptr 3 0),(5,.val 0),(6,.val 0),(22,.own 4),(23,.val 0),(24,.val 0)]),(100,[(6,.ptr 5 0),(99,.own 0)]),(161,[(3,.ptr 6 0),(4,.val 0),(5,.ptr 7 0),(6,.val 0),(7,.ptr 8 0),(8,.val 0)])],[.emp,.box 37 [.own 4],.box 38 [.own 9],.box 36 [.val 28],.row 64 1,.box 54 [.own 10,.own 11],.box 42 [.own 12,.val 0,.val 24],.box 42 [.own 13,.val 0,.val 24],.box 54 [.own 14,.own 15],.row 66 30,.row 3 0,.row 119 38,.row 84 45,.row 84 45,.row 3 0,.row 119 38]⟩ (λn=>kk20 (zbg φ n)) (λzk134=>(.seq .x (.seq .x (.seq (.body (.seq .x (.seq .x (.body (.loop ⟨[(112,[(0,.own 0),(1,.ptr 1 0),(2,.ptr 2 0),(3,.ptr 3 0),(5,.val 0),(6,.val 0),(7,.val 0),(8,.ptr 4 0),(22,.own 5),(23,.val 0),(24,.val 0),(29,.own 6),(30,.val 0),(31,.val 0)]),(100,[(6,.ptr 7 0),(99,.own 0)]),(161,[(3,.ptr 8 0),(4,.val 0),(5,.ptr 9 0),(6,.val 0),(7,.ptr 10 0),(8,.val 0)])],[.emp,.box 37 [.own 5],.box 38 [.own 6],.box 36 [.val 28],.box 64 [.val 1],.row 64 1,.row 66 30,.box 54 [.own 11,.own 12],.box 42 [.own 13,.val 0,.val 24],.box 42 [.own 14,.val 0,.val 24],.box 54 [.own 15,.own 16],.row 3 0,.row 119 38,.row 84 45,.row 84 45,.row 3 0,.row 119 38]⟩ (λn z=>z7o φ (λa0 a1 a2 a3 a4 a5 a6 a7 a8 a9 a10 a11 a12 a13 a14 a15 a16 a17 a18 a19=>zk134 (a0,a1,a2,a3,a4,a5,a6,a7,a8,a9,a10,a11,a12,a13,a14,a15,a16,a17,a18,a19,())) n z.1 z.2.1 z.2.2.1 z.2.2.2.1 z.2.2.2.2.1 z.2.2.2.2.2.1 z.2.2.2.2.2.2.1 z.2.2.2.2.2.2.2.1 z.2.2.2.2.2.2.2.2.1 z.2.2.2.2.2.2.2.2.2.1 z.2.2.2.2.2.2.2.2.2.2.1 z.2.2.2.2.2.2.2.2.2.2.2.1 z.2.2.2.2.2.2.2.2.2.2.2.2.1 z.2.2.2.2.2.2.2.2.2.2.2.2.2.1 z.2.2.2.2.2.2.2.2.2.2.2.2.2.2.1 z.2.2.2.2.2.2.2.2.2.2.2.2.2.2.2.1 z.2.2.2.2.2.2.2.2.2.2.2.2.2.2.2.2.1 z.2.2.2.2.2.2.2.2.2.2.2.2.2.2.2.2.2.1 z.2.2.2.2.2.2.2.2.2.2.2.2.2.2.2.2.2.2.1 z.2.2.2.2.2.2.2.2.2.2.2.2.2.2.2.2.2.2.2.1 z.2.2.2.2.2.2.2.2.2.2.2.2.2.2.2.2.2.2.2.2.1 z.2.2.2.2.2.2.2.2.2.2.2.2.2.2.2.2.2.2.2.2.2.1 z.2.2.2.2.2.2.2.2.2.2.2.2.2.2.2.2.2.2.2.2.2.2.1 z.2.2.2.2.2.2.2.2.2.2.2.2.2.2.2.2.2.2.2.2.2.2.2.1) (λzk159=>(.seq .x (.seq .x (.seq (.body (.seq .x (.seq .x (.seq (.yl 15 13 0 .x .x) .x)))) .x))))))))) .x))))))) (.seq (.seq .x (.body (.loop ⟨[(112,[(0,.own 0),(1,.ptr 1 0),(5,.val 0),(6,.val 0),(63,.own 2),(64,.val 0),(65,.val 0)]),(100,[(6,.ptr 3 0),(99,.own 0)]),(161,[(3,.ptr 4 0),(4,.val 0),(5,.ptr 5 0),(6,.val 0),(7,.ptr 6 0),(8,.val 0)])],[.emp,.box 37 [.own 7],.row 66 30,.box 54 [.own 8,.own 9],.box 42 [.own 10,.val 0,.val 24],.box 42 [.own 11,.val 0,.val 24],.box 54 [.own 12,.own 13],.row 64 1,.row 3 0,.row 119 38,.row 84 45,.row 84 45,.row 3 0,.row 119 38]⟩ (λn=>kk19 (zbh φ n)) (λzk180=>(.seq .x (.seq .x (.seq (.body (.seq .x (.seq .x (.seq (.yl 11 13 0 .x .x) .x)))) .x))))))) (.seq (.seq .x (.body (.loop ⟨[(112,[(0,.own 0),(5,.val 0),(6,.val 0),(88,.own 1),(89,.val 0),(90,.val 0)]),(100,[(6,.ptr 2 0),(99,.own 0)]),(161,[(3,.ptr 3 0),(4,.val 0),(5,.ptr 4 0),(6,.val 0),(7,.ptr 5 0),(8,.val 0)])],[.emp,.row 64 1,.box 54 [.own 6,.own 7],.box 42 [.own 8,.val 0,.val 24],.box 42 [.own 9,.val 0,.val 24],.box 54 [.own 10,.own 11],.row 3 0,.row 119 38,.row 84 45,.row 84 45,.row 3 0,.row 119 38]⟩ (λn=>kk18 (zbi φ n)) (λzk199=>(.seq .x (.seq .x (.seq (.body (.seq .x (.seq (.yl 7 13 0 .x .x) .x))) .x))))))) (.yl 6 13 0 .x .x))))))))) .x)))))))) .x)) .x))))))))))
def zge(P:Program)(φ:Nat):Env TV:=⟨P,lk [(25,zet φ),(27,zco φ),(34,z2r φ),(48,z6i φ),(49,z74 φ),(57,z78 φ),(65,zg8 φ),(30,zhw φ),(18,z9t φ)],lk [],lk [],lk []⟩
theorem zvd(φ:Nat)(a):(zgf φ).F a=fnX TV (zge Tryz.prog φ) φ Tryz.f6 [] [.val 2] (zcp φ) a:=by kernel_rfl
theorem zvc(φ:Nat):fnO TV (zge Tryz.prog φ) φ Tryz.f6 [.val 2] (zcp φ):=by
 unfold fnO;show obl _ _ _ _ _ _ _ _;unfold zcp
 repeat' (first|exact trivial |(refine⟨?_,?_⟩) |(intro _)|kernel_rfl)
theorem zvb[Dr](φ:Nat):z1k TV Tryz.prog 6 (zgf φ):=z2h (N:=zge Tryz.prog φ) (z04 ⟨zsz φ,zm2 φ,z5i φ,zf4 φ,zg2 φ,zg4 φ,zux φ,zxb φ,zmn φ,trivial⟩ trivial trivial trivial) (zcp φ) Tryz.func6 (by kernel_rfl) (zvd φ) (zvc φ)
def z5o(φ:Nat):H TV (RTup TT [.val 2]):=(.seq .x (.seq .x (.seq (.seq .x (.body (.loop ⟨[(65,[(1,.ptr 0 0),(3,.val 0)])],[.box 36 [.val 28]]⟩ (λn=>kk2 (z2a φ n)) (λzk4=>.x)))) .x)))
def z8z(P:Program)(φ:Nat):Env TV:=⟨P,lk [],lk [],lk [],lk []⟩
theorem zlc(φ:Nat)(a):(z90 φ).F a=fnX TV (z8z Tryz.prog φ) φ Tryz.f22 [28] [.val 2] (z5o φ) a:=by kernel_rfl
theorem zlb(φ:Nat):fnO TV (z8z Tryz.prog φ) φ Tryz.f22 [.val 2] (z5o φ):=by
 unfold fnO;show obl _ _ _ _ _ _ _ _;unfold z5o
 repeat' (first|exact trivial |(refine⟨?_,?_⟩) |(intro _)|kernel_rfl)
theorem zla[Dr](φ:Nat):z1k TV Tryz.prog 22 (z90 φ):=z2h (N:=z8z Tryz.prog φ) (z04 trivial trivial trivial trivial) (z5o φ) Tryz.func22 (by kernel_rfl) (zlc φ) (zlb φ)
end Px
end
section
set_option maxHeartbeats 4000000
set_option maxRecDepth 100000
namespace Px
open Go Go.RowKit Go.Proofs
def z4r(φ:Nat):H TV (RTup TT [.val 2]):=(.seq .x (.seq .x (.seq (.seq .x (.body (.loop ⟨[(34,[(0,.val 54),(5,.val 0)])],[]⟩ (λn=>kk2 (z1u φ n)) (λzk5=>.x)))) .x)))
def z81(P:Program)(φ:Nat):Env TV:=⟨P,lk [],lk [],lk [],lk []⟩
theorem zjq(φ:Nat)(a):(z82 φ).F a=fnX TV (z81 Tryz.prog φ) φ Tryz.f10 [54,0] [.val 2] (z4r φ) a:=by kernel_rfl
theorem zjp(φ:Nat):fnO TV (z81 Tryz.prog φ) φ Tryz.f10 [.val 2] (z4r φ):=by
 unfold fnO;show obl _ _ _ _ _ _ _ _;unfold z4r
 repeat' (first|exact trivial |(refine⟨?_,?_⟩) |(intro _)|kernel_rfl)
theorem zjo[Dr](φ:Nat):z1k TV Tryz.prog 10 (z82 φ):=z2h (N:=z81 Tryz.prog φ) (z04 trivial trivial trivial trivial) (z4r φ) Tryz.func10 (by kernel_rfl) (zjq φ) (zjp φ)
def z72(φ:Nat):H TV (RTup TT [.val 2]):=.x
def zav(P:Program)(φ:Nat):Env TV:=⟨P,lk [],lk [],lk [],lk []⟩
theorem zo1(φ:Nat)(a):(zaw φ).F a=fnX TV (zav Tryz.prog φ) φ Tryz.f58 [52] [.val 2] (z72 φ) a:=by kernel_rfl
theorem zo0(φ:Nat):fnO TV (zav Tryz.prog φ) φ Tryz.f58 [.val 2] (z72 φ):=by
 unfold fnO;show obl _ _ _ _ _ _ _ _;unfold z72
 repeat' (first|exact trivial |(refine⟨?_,?_⟩) |(intro _)|kernel_rfl)
theorem znz[Dr](φ:Nat):z1k TV Tryz.prog 58 (zaw φ):=z2h (N:=zav Tryz.prog φ) (z04 trivial trivial trivial trivial) (z72 φ) Tryz.func58 (by kernel_rfl) (zo1 φ) (zo0 φ)
def zeb(φ:Nat):H TV (RTup TT [.val 2]):=(.seq .x (.seq (.seq .x (.body (.loop ⟨[(43,[(0,.val 51),(1,.val 2),(7,.val 51),(8,.val 0),(9,.val 0)])],[]⟩ (λn=>kk5 (z6s φ n)) (λzk8=>.x)))) .x))
def zhs(P:Program)(φ:Nat):Env TV:=⟨P,lk [],lk [],lk [],lk []⟩
theorem zx6(φ:Nat)(a):(zht φ).F a=fnX TV (zhs Tryz.prog φ) φ Tryz.f160 [51,2] [.val 2] (zeb φ) a:=by kernel_rfl
theorem zx5(φ:Nat):fnO TV (zhs Tryz.prog φ) φ Tryz.f160 [.val 2] (zeb φ):=by
 unfold fnO;show obl _ _ _ _ _ _ _ _;unfold zeb
 repeat' (first|exact trivial |(refine⟨?_,?_⟩) |(intro _)|kernel_rfl)
theorem zx4[Dr](φ:Nat):z1k TV Tryz.prog 160 (zht φ):=z2h (N:=zhs Tryz.prog φ) (z04 trivial trivial trivial trivial) (zeb φ) Tryz.func160 (by kernel_rfl) (zx6 φ) (zx5 φ)
def zch(φ:Nat):H TV (RTup TT [.val 2]):=(.seq .x (.seq .x (.seq (.join ⟨[(46,[(5,.ptr 0 0)])],[.box 190 [.val 55]]⟩ (λz=>zj φ z.1) (.seq .x (.cond (.ins 0 105 (.seq .x (.seq .x (.seq .x (.seq .x (.body (.seq .x (.cond .x (.seq .x (.cond (.seq (.ins 1 156 (.seq .x (.seq (.join ⟨[(66,[(0,.ptr 0 0),(1,.val 0),(4,.ptr 1 0)]),(135,[(0,.ptr 0 0)]),(46,[(5,.ptr 0 0)])],[.box 190 [.val 55],.box 151 [.val 3]]⟩ (kk3 (z6z φ)) (.seq .x .x)) .x)) .x) .x) (.seq (.join ⟨[(135,[(0,.ptr 0 0),(2,.ptr 0 9),(20,.val 0),(43,.val 2)]),(46,[(5,.ptr 0 0)])],[.box 190 [.val 55]]⟩ (kk3 (z63 φ)) (.seq .x .x)) (.cond (.seq (.ins 1 156 (.seq .x (.seq (.join ⟨[(66,[(0,.ptr 0 0),(1,.val 0),(4,.ptr 1 0)]),(135,[(0,.ptr 0 0),(2,.ptr 0 9)]),(46,[(5,.ptr 0 0)])],[.box 190 [.val 55],.box 151 [.val 3]]⟩ (kk3 (z64 φ)) (.seq .x .x)) .x)) .x) .x) (.seq .x (.cond (.seq .x (.seq .x (.seq (.ins 1 156 (.seq .x (.seq (.join ⟨[(66,[(0,.ptr 0 0),(1,.val 0),(4,.ptr 1 0)]),(135,[(0,.ptr 0 0),(2,.ptr 0 9)]),(46,[(5,.ptr 0 0)])],[.box 190 [.val 55],.box 151 [.val 3]]⟩ (kk3 (z65 φ)) (.seq .x .x)) .x)) .x) .x))) (.seq (.join ⟨[(135,[(0,.ptr 0 0),(2,.ptr 0 9),(116,.val 2)]),(46,[(5,.ptr 0 0)])],[.box 190 [.val 55]]⟩ (kk2 (z67 φ)) (.seq .x .x)) (.cond (.seq (.ins 1 156 (.seq .x (.seq (.join ⟨[(66,[(0,.ptr 0 0),(1,.val 0),(4,.ptr 1 0)]),(135,[(0,.ptr 0 0),(2,.ptr 0 9)]),(46,[(5,.ptr 0 0)])],[.box 190 [.val 55],.box 151 [.val 3]]⟩ (kk3 (z68 φ)) (.seq .x .x)) .x)) .x) .x) .x))))))))))))))) .x) (.ins 0 106 (.seq .x (.seq .x (.body (.seq .x (.cond .x (.seq .x (.cond (.seq .x (.seq (.ins 1 156 (.seq .x (.seq (.join ⟨[(66,[(0,.ptr 0 0),(1,.val 0),(4,.ptr 1 0)]),(168,[(0,.ptr 0 0),(2,.ptr 0 9)]),(46,[(5,.ptr 0 0)])],[.box 190 [.val 55],.box 151 [.val 3]]⟩ (kk3 (z69 φ)) (.seq .x .x)) .x)) .x) .x)) (.seq .x (.cond .x (.seq (.join ⟨[(168,[(0,.ptr 0 0),(2,.ptr 0 9),(9,.val 0),(91,.val 2)]),(46,[(5,.ptr 0 0)])],[.box 190 [.val 55]]⟩ (kk3 (z3l φ)) (.seq .x .x)) (.cond .x (.seq .x (.cond .x (.seq .x (.cond (.seq .x (.seq (.ins 1 156 (.seq .x (.seq (.join ⟨[(66,[(0,.ptr 0 0),(1,.val 0),(4,.ptr 1 0)]),(168,[(0,.ptr 0 0),(2,.ptr 0 9)]),(46,[(5,.ptr 0 0)])],[.box 190 [.val 55],.box 151 [.val 3]]⟩ (kk3 (z6a φ)) (.seq .x .x)) .x)) .x) .x)) .x))))))))))))))) .x)))) (.seq (.seq .x (.body (.unr 12 .x))) .x))))
def zfz(P:Program)(φ:Nat):Env TV:=⟨P,lk [(160,zht φ)],lk [],lk [],lk []⟩
theorem zum(φ:Nat)(a):(zg0 φ).F a=fnX TV (zfz Tryz.prog φ) φ Tryz.f59 [28,52] [.val 2] (zch φ) a:=by kernel_rfl
theorem zul(φ:Nat):fnO TV (zfz Tryz.prog φ) φ Tryz.f59 [.val 2] (zch φ):=by
 unfold fnO;show obl _ _ _ _ _ _ _ _;unfold zch
 repeat' (first|exact trivial |(refine⟨?_,?_⟩) |(intro _)|kernel_rfl)
theorem zuk[Dr](φ:Nat):z1k TV Tryz.prog 59 (zg0 φ):=z2h (N:=zfz Tryz.prog φ) (z04 ⟨zx4 φ,trivial⟩ trivial trivial trivial) (zch φ) Tryz.func59 (by kernel_rfl) (zum φ) (zul φ)
def ze9(φ:Nat):H TV (RTup TT [.val 0]):=.x
def zhr(P:Program)(φ:Nat):Env TV:=⟨P,lk [(34,z2r φ),(58,zaw φ),(59,zg0 φ)],lk [],lk [],lk []⟩
theorem zx3(φ:Nat)(a):(zea φ).F a=fnX TV (zhr Tryz.prog φ) φ Tryz.f23 [28,52] [.val 0] (ze9 φ) a:=by kernel_rfl
theorem zx2(φ:Nat):fnO TV (zhr Tryz.prog φ) φ Tryz.f23 [.val 0] (ze9 φ):=by
 unfold fnO;show obl _ _ _ _ _ _ _ _;unfold ze9
 repeat' (first|exact trivial |(refine⟨?_,?_⟩) |(intro _)|kernel_rfl)
theorem zny[Dr](φ:Nat):z1k TV Tryz.prog 23 (zea φ):=z2h (N:=zhr Tryz.prog φ) (z04 ⟨z5i φ,znz φ,zuk φ,trivial⟩ trivial trivial trivial) (ze9 φ) Tryz.func23 (by kernel_rfl) (zx3 φ) (zx2 φ)
def z9d(φ:Nat):H TV (RTup TT [.val 0]):=.x
def zdf(P:Program)(φ:Nat):Env TV:=⟨P,lk [(41,z5a φ),(40,zgu φ)],lk [],lk [],lk []⟩
theorem zqp(φ:Nat)(a):(zdg φ).F a=fnX TV (zdf Tryz.prog φ) φ Tryz.f109 [53,53] [.val 0] (z9d φ) a:=by kernel_rfl
theorem zqo(φ:Nat):fnO TV (zdf Tryz.prog φ) φ Tryz.f109 [.val 0] (z9d φ):=by
 unfold fnO;show obl _ _ _ _ _ _ _ _;unfold z9d
 repeat' (first|exact trivial |(refine⟨?_,?_⟩) |(intro _)|kernel_rfl)
theorem zqn[Dr](φ:Nat):z1k TV Tryz.prog 109 (zdg φ):=z2h (N:=zdf Tryz.prog φ) (z04 ⟨zad φ,zn9 φ,trivial⟩ trivial trivial trivial) (z9d φ) Tryz.func109 (by kernel_rfl) (zqp φ) (zqo φ)
def z4a(φ:Nat):H TV (RTup TT [.val 0]):=.x
def z6o(P:Program)(φ:Nat):Env TV:=⟨P,lk [(41,z5a φ),(109,zdg φ),(40,zgu φ)],lk [],lk [],lk []⟩
theorem zi7(φ:Nat)(a):(z6p φ).F a=fnX TV (z6o Tryz.prog φ) φ Tryz.f108 [53,53] [.val 0] (z4a φ) a:=by kernel_rfl
theorem zi6(φ:Nat):fnO TV (z6o Tryz.prog φ) φ Tryz.f108 [.val 0] (z4a φ):=by
 unfold fnO;show obl _ _ _ _ _ _ _ _;unfold z4a
 repeat' (first|exact trivial |(refine⟨?_,?_⟩) |(intro _)|kernel_rfl)
theorem zi5[Dr](φ:Nat):z1k TV Tryz.prog 108 (z6p φ):=z2h (N:=z6o Tryz.prog φ) (z04 ⟨zad φ,zqn φ,zn9 φ,trivial⟩ trivial trivial trivial) (z4a φ) Tryz.func108 (by kernel_rfl) (zi7 φ) (zi6 φ)
def zev(φ:Nat):H TV (RTup TT [.val 56]):=.x
def zi8(P:Program)(φ:Nat):Env TV:=⟨P,lk [],lk [],lk [],lk []⟩
theorem zy6(φ:Nat)(a):(zc9 φ).F a=fnX TV (zi8 Tryz.prog φ) φ Tryz.f62 [50] [.val 56] (zev φ) a:=by kernel_rfl
theorem zy5(φ:Nat):fnO TV (zi8 Tryz.prog φ) φ Tryz.f62 [.val 56] (zev φ):=by
 unfold fnO;show obl _ _ _ _ _ _ _ _;unfold zev
 repeat' (first|exact trivial |(refine⟨?_,?_⟩) |(intro _)|kernel_rfl)
theorem zi9[Dr](φ:Nat):z1k TV Tryz.prog 62 (zc9 φ):=z2h (N:=zi8 Tryz.prog φ) (z04 trivial trivial trivial trivial) (zev φ) Tryz.func62 (by kernel_rfl) (zy6 φ) (zy5 φ)
def z5p(φ:Nat):H TV (RTup TT [.val 58]):=(.seq .x (.seq .x (.seq (.seq .x (.body (.loop ⟨[(80,[(1,.val 0),(5,.own 0),(14,.val 54),(15,.val 0),(16,.val 0)])],[.row 76 53]⟩ (λn=>kk5 (z1g φ n)) (λzk8=>.x)))) (.seq .x (.seq .x (.seq (.seq .x (.body (.loop ⟨[(80,[(8,.own 0),(39,.own 1),(40,.val 0),(41,.val 0)])],[.map 56 57 0,.row 76 53]⟩ (λn=>kk4 (z0n φ n)) (λzk14=>(.seq .x (.seq .x (.seq (.body (.seq .x (.seq .x (.body (.loop ⟨[(80,[(8,.own 0),(10,.ptr 1 0),(39,.own 2),(40,.val 0),(41,.val 0),(47,.val 51),(48,.val 0),(49,.val 0)])],[.map 56 57 0,.box 76 [.val 53],.row 76 53]⟩ (λn z=>z02 φ (λa0 a1 a2 a3=>zk14 (a0,a1,a2,a3,())) n z.1 z.2.1 z.2.2.1 z.2.2.2.1 z.2.2.2.2.1 z.2.2.2.2.2.1 z.2.2.2.2.2.2.1 z.2.2.2.2.2.2.2.1) (λzk23=>(.seq .x (.seq .x (.seq (.body (.seq .x (.seq .x (.seq (.seq .x (.cond (.seq (.foc (8,none) (54,none) .x) .x) .x)) (.seq (.seq (.foc (8,none) (54,none) .x) .x) .x))))) .x))))))))) .x))))))) .x))))))
def z91(P:Program)(φ:Nat):Env TV:=⟨P,lk [(108,z6p φ),(62,zc9 φ)],lk [(35,z1h φ)],lk [],lk []⟩
theorem zle(φ:Nat)(a):(z5q φ).F a=fnX TV (z91 Tryz.prog φ) φ Tryz.f60 [54,0] [.val 58] (z5p φ) a:=by kernel_rfl
theorem zld(φ:Nat):fnO TV (z91 Tryz.prog φ) φ Tryz.f60 [.val 58] (z5p φ):=by
 unfold fnO;show obl _ _ _ _ _ _ _ _;unfold z5p
 repeat' (first|exact trivial |(refine⟨?_,?_⟩) |(intro _)|kernel_rfl)
theorem zdv[Dr](φ:Nat):z1k TV Tryz.prog 60 (z5q φ):=z2h (N:=z91 Tryz.prog φ) (z04 ⟨zi5 φ,zi9 φ,trivial⟩ ⟨(z4c φ),trivial⟩ trivial trivial) (z5p φ) Tryz.func60 (by kernel_rfl) (zle φ) (zld φ)
theorem ybi:SoOK TV Tryz.prog 63 ⟨112,0,2,3⟩:=yhu (V:=TV) (ρ:=Tryz.sortedK_ren) (σ:=Tryz.keysK_ren) (τ:=Tryz.lays189_ren) Tryz.sortedK Tryz.keysK Tryz.lays189 (kc:=0) (vc:=2) (E:=3) (λn:Int=>n) (λ_=>rfl) (λ_=>rfl) (λ_=>rfl) (by kernel_rfl) rfl rfl (enters_of Tryz.func111 (by kernel_rfl) rfl) (enters_of Tryz.func112 (by kernel_rfl) rfl)
theorem zn0(φ:Nat)(z z':Sh.Z TT (⟨[(16,[(0,.own 0),(7,.own 1)]),(50,[(1,.val 0),(5,.val 58),(6,.own 0),(15,.val 54),(16,.val 0),(17,.val 0),(33,.val 51),(34,.val 0),(35,.val 0)])],[.map 0 2 0,.it 0 2]⟩:Sh))(h:Sh.eqZ TT (⟨[(16,[(0,.own 0),(7,.own 1)]),(50,[(1,.val 0),(5,.val 58),(6,.own 0),(15,.val 54),(16,.val 0),(17,.val 0),(33,.val 51),(34,.val 0),(35,.val 0)])],[.map 0 2 0,.it 0 2]⟩:Sh) z z')(hok:∀o∈(Sh.enc TV (⟨[(16,[(0,.own 0),(7,.own 1)]),(50,[(1,.val 0),(5,.val 58),(6,.own 0),(15,.val 54),(16,.val 0),(17,.val 0),(33,.val 51),(34,.val 0),(35,.val 0)])],[.map 0 2 0,.it 0 2]⟩:Sh) z).ob,okO TV o):∀k n,z1f φ k (z00 φ k n) z'.1 z'.2.1 z'.2.2.1 z'.2.2.2.1 z'.2.2.2.2.1 z'.2.2.2.2.2.1 z'.2.2.2.2.2.2.1 z'.2.2.2.2.2.2.2.1 z'.2.2.2.2.2.2.2.2.1 z'.2.2.2.2.2.2.2.2.2.1=z1f φ k (z00 φ k n) z.1 z.2.1 z.2.2.1 z.2.2.2.1 z.2.2.2.2.1 z.2.2.2.2.2.1 z.2.2.2.2.2.2.1 z.2.2.2.2.2.2.2.1 z.2.2.2.2.2.2.2.2.1 z.2.2.2.2.2.2.2.2.2.1:=by obtain⟨a,b,c,d,e,f,g,i,m,x,u⟩:=z;obtain⟨a',b',c',d',e',f',g',i',m',x',u'⟩:=z';have h:a=a'/\b=b'/\c=c'/\d=d'/\e=e'/\f=f'/\g=g'/\i=i'/\m=m'/\x.Perm x'/\True:=h;obtain⟨rfl,rfl,rfl,rfl,rfl,rfl,rfl,rfl,rfl,hp,_⟩:=h;have hok:∀o∈[(SO.x (.map 0 2 0 m none):SO TT),.x (.it 0 2 x none)],okO TV o:=hok;have hm:Srt' kl_0 m:=hok (.x (.map 0 2 0 m none)) (by simp);have hd:Ndp kl_0 x:=hok (.x (.it 0 2 x none)) (by simp);exact λk n=>(zmd φ hp hd k (n+1) a b c d e f g i m hm).symm
def z6l(φ:Nat):H TV (RTup TT [.val 24]):=(.seq .x (.seq .x (.seq .x (.seq (.seq .x (.body (.loop ⟨[(50,[(1,.val 0),(5,.val 58),(6,.own 0),(15,.val 54),(16,.val 0),(17,.val 0)])],[.map 0 2 0]⟩ (λn=>kk6 (z0q φ n)) (λzk10=>(.seq .x (.seq .x (.seq (.body (.seq .x (.seq .x (.seq .x (.body (.loop ⟨[(50,[(1,.val 0),(5,.val 58),(6,.own 0),(15,.val 54),(16,.val 0),(17,.val 0),(33,.val 51),(34,.val 0),(35,.val 0)])],[.map 0 2 0]⟩ (λn z=>z0r φ (λa0 a1 a2 a3 a4 a5=>zk10 (a0,a1,a2,a3,a4,a5,())) n z.1 z.2.1 z.2.2.1 z.2.2.2.1 z.2.2.2.2.1 z.2.2.2.2.2.1 z.2.2.2.2.2.2.1 z.2.2.2.2.2.2.2.1 z.2.2.2.2.2.2.2.2.1) (λzk20=>(.seq .x (.seq .x (.seq (.body (.seq .x (.ins 5 61 (.seq .x (.body (.loop ⟨[(16,[(0,.own 0),(7,.own 1)]),(50,[(1,.val 0),(5,.val 58),(6,.own 0),(15,.val 54),(16,.val 0),(17,.val 0),(33,.val 51),(34,.val 0),(35,.val 0)])],[.map 0 2 0,.it 0 2]⟩ (λn z=>z00 φ (λa0 a1 a2 a3 a4 a5 a6 a7 a8=>zk20 (a0,a1,a2,a3,a4,a5,a6,a7,a8,())) n z.1 z.2.1 z.2.2.1 z.2.2.2.1 z.2.2.2.2.1 z.2.2.2.2.2.1 z.2.2.2.2.2.2.1 z.2.2.2.2.2.2.2.1 z.2.2.2.2.2.2.2.2.1 z.2.2.2.2.2.2.2.2.2.1) (λzk32=>(.seq (.pk ⟨[(16,[(0,.own 0),(7,.own 1)]),(50,[(1,.val 0),(5,.val 58),(6,.own 0),(15,.val 54),(16,.val 0),(17,.val 0),(33,.val 51),(34,.val 0),(35,.val 0)])],[.map 0 2 0,.it 0 2]⟩ (λz=>z1f φ (λa0 a1 a2 a3 a4 a5 a6 a7 a8=>zk20 (a0,a1,a2,a3,a4,a5,a6,a7,a8,())) (λa0 a1 a2 a3 a4 a5 a6 a7 a8 a9=>zk32 (a0,a1,a2,a3,a4,a5,a6,a7,a8,a9,())) z.1 z.2.1 z.2.2.1 z.2.2.2.1 z.2.2.2.2.1 z.2.2.2.2.2.1 z.2.2.2.2.2.2.1 z.2.2.2.2.2.2.2.1 z.2.2.2.2.2.2.2.2.1 z.2.2.2.2.2.2.2.2.2.1)) .x))))) .x))) .x)))))))))) .x))))))) .x))))
def za2(P:Program)(φ:Nat):Env TV:=⟨P,lk [(60,z5q φ),(62,zc9 φ)],lk [],lk [],lk [(63,⟨112,0,2,3⟩)]⟩
theorem zn1(φ:Nat)(a):(za4 φ).F a=fnX TV (za2 Tryz.prog φ) φ Tryz.f24 [54,0] [.val 24] (z6l φ) a:=by kernel_rfl
theorem zmz(φ:Nat):fnO TV (za2 Tryz.prog φ) φ Tryz.f24 [.val 24] (z6l φ):=by
 unfold fnO;show obl _ _ _ _ _ _ _ _;unfold z6l
 repeat' (first|exact trivial |(refine⟨?_,?_⟩) |(intro _) |(rename_i h1 h2;have q:=zn0 φ _ _ h1 h2;exact q _ _)|kernel_rfl)
theorem zmy(φ:Nat):z1k TV Tryz.prog 24 (za4 φ):=z2h (N:=za2 Tryz.prog φ) (z04 ⟨zdv φ,zi9 φ,trivial⟩ trivial trivial ⟨ybi,trivial⟩) (z6l φ) Tryz.func24 (by kernel_rfl) (zn1 φ) (zmz φ)
theorem zjt(φ:Nat)(z z':Sh.Z TT (⟨[(16,[(0,.own 0),(7,.own 1)]),(50,[(1,.val 0),(5,.val 58),(6,.own 0),(15,.val 54),(16,.val 0),(17,.val 0),(33,.val 51),(34,.val 0),(35,.val 0)])],[.map 0 2 0,.it 0 2]⟩:Sh))(h:Sh.eqZ TT (⟨[(16,[(0,.own 0),(7,.own 1)]),(50,[(1,.val 0),(5,.val 58),(6,.own 0),(15,.val 54),(16,.val 0),(17,.val 0),(33,.val 51),(34,.val 0),(35,.val 0)])],[.map 0 2 0,.it 0 2]⟩:Sh) z z')(hok:∀o∈(Sh.enc TV (⟨[(16,[(0,.own 0),(7,.own 1)]),(50,[(1,.val 0),(5,.val 58),(6,.own 0),(15,.val 54),(16,.val 0),(17,.val 0),(33,.val 51),(34,.val 0),(35,.val 0)])],[.map 0 2 0,.it 0 2]⟩:Sh) z).ob,okO TV o):∀k n,z1i φ k (z08 φ k n) z'.1 z'.2.1 z'.2.2.1 z'.2.2.2.1 z'.2.2.2.2.1 z'.2.2.2.2.2.1 z'.2.2.2.2.2.2.1 z'.2.2.2.2.2.2.2.1 z'.2.2.2.2.2.2.2.2.1 z'.2.2.2.2.2.2.2.2.2.1=z1i φ k (z08 φ k n) z.1 z.2.1 z.2.2.1 z.2.2.2.1 z.2.2.2.2.1 z.2.2.2.2.2.1 z.2.2.2.2.2.2.1 z.2.2.2.2.2.2.2.1 z.2.2.2.2.2.2.2.2.1 z.2.2.2.2.2.2.2.2.2.1:=by obtain⟨a,b,c,d,e,f,g,i,m,x,u⟩:=z;obtain⟨a',b',c',d',e',f',g',i',m',x',u'⟩:=z';have h:a=a'/\b=b'/\c=c'/\d=d'/\e=e'/\f=f'/\g=g'/\i=i'/\m=m'/\x.Perm x'/\True:=h;obtain⟨rfl,rfl,rfl,rfl,rfl,rfl,rfl,rfl,rfl,hp,_⟩:=h;have hok:∀o∈[(SO.x (.map 0 2 0 m none):SO TT),.x (.it 0 2 x none)],okO TV o:=hok;have hm:Srt' kl_0 m:=hok (.x (.map 0 2 0 m none)) (by simp);have hd:Ndp kl_0 x:=hok (.x (.it 0 2 x none)) (by simp);exact λk n=>(zic φ hp hd k (n+1) a b c d e f g i m hm).symm
def z4s(φ:Nat):H TV (RTup TT [.row 3 0]):=(.seq .x (.seq .x (.seq .x (.seq (.seq .x (.body (.loop ⟨[(50,[(1,.val 0),(5,.val 58),(6,.own 0),(15,.val 54),(16,.val 0),(17,.val 0)])],[.map 0 2 0]⟩ (λn=>kk6 (z3t φ n)) (λzk10=>(.seq .x (.seq .x (.seq (.body (.seq .x (.seq .x (.seq .x (.body (.loop ⟨[(50,[(1,.val 0),(5,.val 58),(6,.own 0),(15,.val 54),(16,.val 0),(17,.val 0),(33,.val 51),(34,.val 0),(35,.val 0)])],[.map 0 2 0]⟩ (λn z=>z5x φ (λa0 a1 a2 a3 a4 a5=>zk10 (a0,a1,a2,a3,a4,a5,())) n z.1 z.2.1 z.2.2.1 z.2.2.2.1 z.2.2.2.2.1 z.2.2.2.2.2.1 z.2.2.2.2.2.2.1 z.2.2.2.2.2.2.2.1 z.2.2.2.2.2.2.2.2.1) (λzk20=>(.seq .x (.seq .x (.seq (.body (.seq .x (.ins 5 61 (.seq .x (.body (.loop ⟨[(16,[(0,.own 0),(7,.own 1)]),(50,[(1,.val 0),(5,.val 58),(6,.own 0),(15,.val 54),(16,.val 0),(17,.val 0),(33,.val 51),(34,.val 0),(35,.val 0)])],[.map 0 2 0,.it 0 2]⟩ (λn z=>z08 φ (λa0 a1 a2 a3 a4 a5 a6 a7 a8=>zk20 (a0,a1,a2,a3,a4,a5,a6,a7,a8,())) n z.1 z.2.1 z.2.2.1 z.2.2.2.1 z.2.2.2.2.1 z.2.2.2.2.2.1 z.2.2.2.2.2.2.1 z.2.2.2.2.2.2.2.1 z.2.2.2.2.2.2.2.2.1 z.2.2.2.2.2.2.2.2.2.1) (λzk32=>(.seq (.pk ⟨[(16,[(0,.own 0),(7,.own 1)]),(50,[(1,.val 0),(5,.val 58),(6,.own 0),(15,.val 54),(16,.val 0),(17,.val 0),(33,.val 51),(34,.val 0),(35,.val 0)])],[.map 0 2 0,.it 0 2]⟩ (λz=>z1i φ (λa0 a1 a2 a3 a4 a5 a6 a7 a8=>zk20 (a0,a1,a2,a3,a4,a5,a6,a7,a8,())) (λa0 a1 a2 a3 a4 a5 a6 a7 a8 a9=>zk32 (a0,a1,a2,a3,a4,a5,a6,a7,a8,a9,())) z.1 z.2.1 z.2.2.1 z.2.2.2.1 z.2.2.2.2.1 z.2.2.2.2.2.1 z.2.2.2.2.2.2.1 z.2.2.2.2.2.2.2.1 z.2.2.2.2.2.2.2.2.1 z.2.2.2.2.2.2.2.2.2.1)) .x))))) .x))) .x)))))))))) .x))))))) .x))))
def z84(P:Program)(φ:Nat):Env TV:=⟨P,lk [(60,z5q φ),(62,zc9 φ)],lk [],lk [],lk [(63,⟨112,0,2,3⟩)]⟩
theorem zju(φ:Nat)(a):(z85 φ).F a=fnX TV (z84 Tryz.prog φ) φ Tryz.f24 [54,0] [.row 3 0] (z4s φ) a:=by kernel_rfl
theorem zjs(φ:Nat):fnO TV (z84 Tryz.prog φ) φ Tryz.f24 [.row 3 0] (z4s φ):=by
 unfold fnO;show obl _ _ _ _ _ _ _ _;unfold z4s
 repeat' (first|exact trivial |(refine⟨?_,?_⟩) |(intro _) |(rename_i h1 h2;have q:=zjt φ _ _ h1 h2;exact q _ _)|kernel_rfl)
theorem zjr(φ:Nat):z1k TV Tryz.prog 24 (z85 φ):=z2h (N:=z84 Tryz.prog φ) (z04 ⟨zdv φ,zi9 φ,trivial⟩ trivial trivial ⟨ybi,trivial⟩) (z4s φ) Tryz.func24 (by kernel_rfl) (zju φ) (zjs φ)
def z9e(φ:Nat):H TV (RTup TT [.val 0]):=(.seq .x (.seq (.seq .x (.body (.loop ⟨[(19,[(0,.val 24),(1,.val 0),(7,.val 0),(8,.val 0)])],[]⟩ (λn=>kk4 (z40 φ n)) (λzk7=>.x)))) .x))
def zdi(P:Program)(φ:Nat):Env TV:=⟨P,lk [],lk [],lk [],lk []⟩
theorem zqt(φ:Nat)(a):(zdj φ).F a=fnX TV (zdi Tryz.prog φ) φ Tryz.f79 [24,0] [.val 0] (z9e φ) a:=by kernel_rfl
theorem zqs(φ:Nat):fnO TV (zdi Tryz.prog φ) φ Tryz.f79 [.val 0] (z9e φ):=by
 unfold fnO;show obl _ _ _ _ _ _ _ _;unfold z9e
 repeat' (first|exact trivial |(refine⟨?_,?_⟩) |(intro _)|kernel_rfl)
theorem zqr[Dr](φ:Nat):z1k TV Tryz.prog 79 (zdj φ):=z2h (N:=zdi Tryz.prog φ) (z04 trivial trivial trivial trivial) (z9e φ) Tryz.func79 (by kernel_rfl) (zqt φ) (zqs φ)
def z5r(φ:Nat):H TV (RTup TT [.val 2]):=.x
def z92(P:Program)(φ:Nat):Env TV:=⟨P,lk [(79,zdj φ)],lk [],lk [],lk []⟩
theorem zlm(φ:Nat)(a):(z93 φ).F a=fnX TV (z92 Tryz.prog φ) φ Tryz.f37 [24,0] [.val 2] (z5r φ) a:=by kernel_rfl
theorem zll(φ:Nat):fnO TV (z92 Tryz.prog φ) φ Tryz.f37 [.val 2] (z5r φ):=by
 unfold fnO;show obl _ _ _ _ _ _ _ _;unfold z5r
 repeat' (first|exact trivial |(refine⟨?_,?_⟩) |(intro _)|kernel_rfl)
theorem zlk[Dr](φ:Nat):z1k TV Tryz.prog 37 (z93 φ):=z2h (N:=z92 Tryz.prog φ) (z04 ⟨zqr φ,trivial⟩ trivial trivial trivial) (z5r φ) Tryz.func37 (by kernel_rfl) (zlm φ) (zll φ)
def z6d(φ:Nat):H TV (RTup TT [.val 0]):=.x
def z9q(P:Program)(φ:Nat):Env TV:=⟨P,lk [(41,z5a φ),(40,zgu φ)],lk [],lk [],lk []⟩
theorem zmm(φ:Nat)(a):(z9r φ).F a=fnX TV (z9q Tryz.prog φ) φ Tryz.f39 [1,1] [.val 0] (z6d φ) a:=by kernel_rfl
theorem zml(φ:Nat):fnO TV (z9q Tryz.prog φ) φ Tryz.f39 [.val 0] (z6d φ):=by
 unfold fnO;show obl _ _ _ _ _ _ _ _;unfold z6d
 repeat' (first|exact trivial |(refine⟨?_,?_⟩) |(intro _)|kernel_rfl)
theorem zf2[Dr](φ:Nat):z1k TV Tryz.prog 39 (z9r φ):=z2h (N:=z9q Tryz.prog φ) (z04 ⟨zad φ,zn9 φ,trivial⟩ trivial trivial trivial) (z6d φ) Tryz.func39 (by kernel_rfl) (zmm φ) (zml φ)
def zw4:Msp TV:=⟨64,1,[.fn 39],λl _=>zln l⟩
theorem y6m[Dr]:zme TV Tryz.prog 38 zw4:=
 y6j (V:=TV) (c:=1) (ρ:=Tryz.sortEv_ren) Tryz.sortEv Tryz.isAgg64 (by rw[show TV.sz 1=5 by kernel_rfl];exact Tryz.sizeOf64) (by kernel_rfl) (by kernel_rfl) ⟨Tryz.f39,Tryz.func39,by kernel_rfl,by kernel_rfl⟩ y6u λa b ha hb=>
  @zdn.mono ⟨True⟩ _ _ _ _ _ (@zf2 ⟨True⟩ 10 (a,b,()) (z9p a b,()) (y2a a b)) λx news ⟨B,hB,h1,h2⟩=>by
   cases B with
   |nil=>exact⟨h1,h2⟩
   |cons y B=>cases hB
theorem zqd(φ:Nat)(z z':Sh.Z TT (⟨[(203,[(2,.val 0),(6,.own 0),(182,.own 1)])],[.row 64 1,.it 59 0]⟩:Sh))(h:Sh.eqZ TT (⟨[(203,[(2,.val 0),(6,.own 0),(182,.own 1)])],[.row 64 1,.it 59 0]⟩:Sh) z z')(hok:∀o∈(Sh.enc TV (⟨[(203,[(2,.val 0),(6,.own 0),(182,.own 1)])],[.row 64 1,.it 59 0]⟩:Sh) z).ob,okO TV o):∀n,z0e φ (zq φ n) z'.1 z'.2.1 z'.2.2.1=z0e φ (zq φ n) z.1 z.2.1 z.2.2.1:=by obtain⟨a,b,c,u⟩:=z;obtain⟨a',b',c',u'⟩:=z';have h:a=a'/\b=b'/\c.Perm c'/\True:=h;obtain⟨rfl,rfl,hp,_⟩:=h;exact λn=>(zrt φ hp (n+1) a b).symm
def z97(φ:Nat):H TV (RTup TT [.val 36,.val 0]):=(.seq .x (.seq .x (.seq .x (.seq .x (.seq (.seq .x (.body (.loop ⟨[(203,[(2,.val 0),(3,.ptr 0 0),(6,.raw (.slice none 0 0)),(9,.own 1),(36,.val 54),(37,.val 0),(38,.val 0)])],[.box 36 [.val 28],.row 76 53]⟩ (λn=>kk6 (z2f φ n)) (λzk11=>.x)))) (.seq .x (.seq (.frz [(3,none),(12,none)] .x) (.seq .x (.seq .x (.seq .x (.seq (.seq .x (.body (.loop ⟨[(203,[(2,.val 0),(3,.rop 28),(6,.raw (.slice none 0 0)),(9,.own 0),(12,.val 24),(13,.own 1),(14,.own 2),(15,.own 3),(73,.val 0),(74,.val 0)])],[.row 76 53,.row 74 52,.row 3 0,.fix 4 2]⟩ (λn=>kk9 (z2g φ n)) (λzk24=>.x)))) (.seq (.seq .x (.body (.loop ⟨[(203,[(2,.val 0),(3,.rop 28),(6,.raw (.slice none 0 0)),(12,.val 24),(13,.own 0),(14,.own 1),(15,.own 2),(81,.own 3),(82,.val 0),(83,.val 0)])],[.row 74 52,.row 3 0,.fix 4 2,.row 76 53]⟩ (λn=>kk9 (z0d φ n)) (λzk34=>.x)))) (.seq .x (.seq (.seq .x (.body (.loop ⟨[(203,[(2,.val 0),(3,.rop 28),(6,.raw (.slice none 0 0)),(12,.val 24),(14,.own 0),(15,.own 1),(20,.own 2),(138,.own 3),(139,.val 0),(140,.val 0)])],[.row 3 0,.fix 4 2,.map 59 0 0,.row 74 52]⟩ (λn=>kk9 (zz φ n)) (λzk44=>.x)))) (.seq (.seq (.frz [(20,none)] .x) (.body (.loop ⟨[(203,[(2,.val 0),(6,.own 0),(182,.own 1)])],[.row 64 1,.it 59 0]⟩ (λn=>kk3 (zq φ n)) (λzk49=>(.seq (.pk ⟨[(203,[(2,.val 0),(6,.own 0),(182,.own 1)])],[.row 64 1,.it 59 0]⟩ (λz=>z0e φ (λa0 a1 a2=>zk49 (a0,a1,a2,())) z.1 z.2.1 z.2.2.1)) .x))))) .x)))))))))))))))
def zcz(P:Program)(φ:Nat):Env TV:=⟨P,lk [(34,z2r φ),(23,zea φ),(24,z85 φ),(36,z6g φ),(37,z93 φ),(39,z9r φ)],lk [(35,z1h φ),(38,zw4)],lk [],lk []⟩
theorem zqe(φ:Nat)(a):(zd0 φ).F a=fnX TV (zcz Tryz.prog φ) φ Tryz.f11 [28,54,0] [.val 36,.val 0] (z97 φ) a:=by kernel_rfl
theorem zqc(φ:Nat):fnO TV (zcz Tryz.prog φ) φ Tryz.f11 [.val 36,.val 0] (z97 φ):=by
 unfold fnO;show obl _ _ _ _ _ _ _ _;unfold z97
 repeat' (first|exact trivial |(refine⟨?_,?_⟩) |(intro _) |(rename_i h1 h2;have q:=zqd φ _ _ h1 h2;exact q _)|kernel_rfl)
theorem zqb(φ:Nat):z1k TV Tryz.prog 11 (zd0 φ):=z2h (N:=zcz Tryz.prog φ) (z04 ⟨z5i φ,zny φ,zjr φ,zf3 φ,zlk φ,zf2 φ,trivial⟩ ⟨(z4c φ),(y6m),trivial⟩ trivial trivial) (z97 φ) Tryz.func11 (by kernel_rfl) (zqe φ) (zqc φ)
end Px
end
section
set_option maxHeartbeats 4000000
set_option maxRecDepth 100000
namespace Px
open Go Go.RowKit Go.Proofs
def z48(φ:Nat):H TV (RTup TT [.val 2]):=(.seq .x (.seq .x (.seq .x (.seq .x (.seq .x (.seq .x (.seq (.seq .x (.body (.loop ⟨[(186,[(1,.val 54),(2,.val 0),(3,.ptr 0 0),(7,.val 36),(9,.own 1),(10,.val 0)])],[.box 36 [.val 28],.row 76 53]⟩ (λn=>kk6 (z0j φ n)) (λzk14=>.x)))) (.seq .x (.seq .x (.seq (.seq .x (.body (.loop ⟨[(186,[(1,.val 54),(2,.val 0),(3,.ptr 0 0),(7,.val 36),(11,.val 24),(12,.val 0),(13,.val 0)])],[.box 36 [.val 28]]⟩ (λn=>kk7 (z0k φ n)) (λzk24=>.x)))) (.seq .x (.seq (.seq .x (.body (.loop ⟨[(186,[(1,.val 54),(2,.val 0),(3,.ptr 0 0),(11,.val 24),(12,.val 0),(14,.val 0),(15,.val 0)])],[.box 36 [.val 28]]⟩ (λn=>kk7 (z0c φ n)) (λzk32=>(.seq .x (.seq (.body (.seq .x (.seq (.seq .x (.body (.loop ⟨[(186,[(1,.val 54),(2,.val 0),(3,.ptr 0 0),(11,.val 24),(12,.val 0),(14,.val 0),(15,.val 0),(16,.own 1),(17,.val 0)])],[.box 36 [.val 28],.row 76 53]⟩ (λn z=>z0l φ (λa0 a1 a2 a3 a4 a5 a6=>zk32 (a0,a1,a2,a3,a4,a5,a6,())) n z.1 z.2.1 z.2.2.1 z.2.2.2.1 z.2.2.2.2.1 z.2.2.2.2.2.1 z.2.2.2.2.2.2.1 z.2.2.2.2.2.2.2.1 z.2.2.2.2.2.2.2.2.1) (λzk42=>.x)))) (.seq .x (.seq .x (.seq (.join ⟨[(186,[(1,.val 54),(2,.val 0),(3,.ptr 0 0),(11,.val 24),(12,.val 0),(14,.val 0),(15,.val 0),(18,.val 36)])],[.box 36 [.val 28]]⟩ (λz=>z21 φ (λa0 a1 a2 a3 a4 a5 a6=>zk32 (a0,a1,a2,a3,a4,a5,a6,())) z.1 z.2.1 z.2.2.1 z.2.2.2.1 z.2.2.2.2.1 z.2.2.2.2.2.1 z.2.2.2.2.2.2.1 z.2.2.2.2.2.2.2.1) (.seq .x .x)) (.seq .x (.body (.loop ⟨[(186,[(1,.val 54),(2,.val 0),(3,.ptr 0 0),(11,.val 24),(12,.val 0),(14,.val 0),(15,.val 0),(18,.val 36),(20,.val 0)])],[.box 36 [.val 28]]⟩ (λn z=>z0m φ (λa0 a1 a2 a3 a4 a5 a6=>zk32 (a0,a1,a2,a3,a4,a5,a6,())) n z.1 z.2.1 z.2.2.1 z.2.2.2.1 z.2.2.2.2.1 z.2.2.2.2.2.1 z.2.2.2.2.2.2.1 z.2.2.2.2.2.2.2.1 z.2.2.2.2.2.2.2.2.1) (λzk62=>.x)))))))))) .x)))))) .x))))))))))))
def z6n(P:Program)(φ:Nat):Env TV:=⟨P,lk [(6,zgf φ),(22,z90 φ),(10,z82 φ),(11,zd0 φ),(23,zea φ),(24,za4 φ)],lk [],lk [],lk []⟩
theorem zi1(φ:Nat)(a):(z49 φ).F a=fnX TV (z6n Tryz.prog φ) φ Tryz.f5 [28,54,0] [.val 2] (z48 φ) a:=by kernel_rfl
theorem zi0(φ:Nat):fnO TV (z6n Tryz.prog φ) φ Tryz.f5 [.val 2] (z48 φ):=by
 unfold fnO;show obl _ _ _ _ _ _ _ _;unfold z48
 repeat' (first|exact trivial |(refine⟨?_,?_⟩) |(intro _)|kernel_rfl)
theorem zhz(φ:Nat):z1k TV Tryz.prog 5 (z49 φ):=z2h (N:=z6n Tryz.prog φ) (z04 ⟨zvb φ,zla φ,zjo φ,zqb φ,zny φ,zmy φ,trivial⟩ trivial trivial trivial) (z48 φ) Tryz.func5 (by kernel_rfl) (zi1 φ) (zi0 φ)
end Px
end
section
namespace Px
open Go
structure Swo{α:Type}(lt:α->α->Bool):Prop where
 asym:∀a b,lt a b=true->lt b a=false
 ntr:∀a b c,lt a b=false->lt b c=false->lt a c=false
def Srt{α:Type}(lt:α->α->Bool)(l:List α):Prop:=l.Pairwise λa b=>lt b a=false
def eqv2{α:Type}(lt:α->α->Bool)(a b:α):Bool:=!lt a b&&!lt b a
def Stb{α:Type}(lt:α->α->Bool)(l r:List α):Prop:=r.Perm l/\∀a,r.filter (eqv2 lt a)=l.filter (eqv2 lt a)
section
variable{α:Type}{lt:α->α->Bool}
theorem Swo.irr(h:Swo lt)(a:α):lt a a=false:=by
 cases e:lt a a with
 |false=>rfl
 |true=>exact(h.asym a a e).symm.trans e |>.symm
theorem znc{a b:α}: eqv2 lt a b=true↔lt a b=false/\lt b a=false:=by simp[eqv2]
theorem Stb.refl(l:List α):Stb lt l l:=⟨.refl _,λ_=>rfl⟩
theorem Stb.trans{a b c:List α}(h:Stb lt a b)(h':Stb lt b c):Stb lt a c:=⟨h'.1.trans h.1,λx=>(h'.2 x).trans (h.2 x)⟩
theorem Stb.app{a b c d:List α}(h:Stb lt a b)(h':Stb lt c d):Stb lt (a++c) (b++d):=⟨h.1.append h'.1,λx=>by simp only[w1g,h.2 x,h'.2 x]⟩
theorem Stb.mem{l r:List α}(h:Stb lt l r){x:α}: x∈r↔x∈l:=h.1.mem_iff
theorem Stb.len{l r:List α}(h:Stb lt l r):r.length=l.length:=h.1.length_eq
theorem zur(a:α){X:List α}(h:∀x∈X,eqv2 lt a x=false):X.filter (eqv2 lt a) = []:=by rw[w45];intro x hx;simp[h x hx]
theorem Stb.swap(hs:Swo lt){X Y:List α}(h:∀x∈X,∀y∈Y,lt y x=true):Stb lt (X++Y) (Y++X):=by
 refine⟨w4a,λa=>?_⟩;simp only[w1g];by_cases hx:∃x∈X,eqv2 lt a x=true
 .obtain⟨x,hx,ex⟩:=hx;have:Y.filter (eqv2 lt a) = []:=zur a λy hy=>by
   cases e:eqv2 lt a y with
   |false=>rfl
   |true=>have h1:=znc.1 e;have h2:=znc.1 ex;have:=hs.ntr y a x h1.2 h2.1;rw[h x hx y hy] at this;cases this
  rw[this];simp
 .have:X.filter (eqv2 lt a) = []:=zur a λx hx'=>by
   cases e:eqv2 lt a x with
   |false=>rfl
   |true=>exact absurd ⟨x,hx',e⟩ hx
  rw[this];simp
theorem Srt.app{a b:List α}(h:Srt lt a)(h':Srt lt b)(hc:∀x∈a,∀y∈b,lt y x=false):Srt lt (a++b):=w4j.2 ⟨h,h',hc⟩
theorem Srt.parts{a b:List α}(h:Srt lt (a++b)):Srt lt a/\Srt lt b/\∀x∈a,∀y∈b,lt y x=false:=w4j.1 h
theorem Srt.unique(hs:Swo lt):∀{r r':List α},Srt lt r->Srt lt r'->Stb lt r r'->r=r'
 | [],r',_,_,h=>by have:=h.len;simp at this;exact this.symm
 |x::r,r',hr,hr',h=>by
  cases r' with
  |nil=>have:=h.len;simp at this
  |cons y r'=>
   have hr1:=w0o.1 hr;have hr2:=w0o.1 hr';have h1:lt y x=false:=by
    rcases w08.1 (h.mem.1 (w0l (a:=y))) with e|e
    .rw[e];exact hs.irr _
    .exact hr1.1 y e
   have h2:lt x y=false:=by
    rcases w08.1 (h.mem.2 (w0l (a:=x))) with e|e
    .rw[e];exact hs.irr _
    .exact hr2.1 x e
   have e1:eqv2 lt x x=true:=znc.2 ⟨hs.irr _,hs.irr _⟩;have e2:eqv2 lt x y=true:=znc.2 ⟨h2,h1⟩;have hf:=h.2 x;rw[w2q e1,w2q e2] at hf;have hxy:y=x:=(List.cons.inj hf).1;subst hxy;congr 1;refine Srt.unique hs hr1.2 hr2.2 ⟨(List.perm_cons _).1 h.1,λa=>?_⟩;have:=h.2 a;simp only[w1o] at this;split at this
   .exact(List.cons.inj this).2
   .exact this
theorem zi2(hs:Swo lt){A B C E R1 R2:List α}(h1:Srt lt (A++B))(h2:Srt lt (C++E))(hA:∀x∈B,∀y∈C,lt y x=true)(hB:∀x∈A,∀y∈E,lt y x=false)
  (s1:Srt lt R1) (t1:Stb lt (A++C) R1) (s2:Srt lt R2) (t2:Stb lt (B++E) R2):Srt lt (R1++R2)/\Stb lt ((A++B)++(C++E)) (R1++R2):=by
 refine⟨s1.app s2 λu hu v hv=>?_,?_⟩
 .have hu:=w0m.1 (t1.mem.1 hu);have hv:=w0m.1 (t2.mem.1 hv);rcases hu with hu|hu<;>rcases hv with hv|hv
  .exact h1.parts.2.2 u hu v hv
  .exact hB u hu v hv
  .exact hs.asym _ _ (hA v hv u hu)
  .exact h2.parts.2.2 u hu v hv
 .have:Stb lt ((A++B)++(C++E)) ((A++C)++(B++E)):=by have:=((Stb.refl (lt:=lt) A).app (Stb.swap hs hA)).app (Stb.refl E);simpa[w0t] using this
  exact this.trans (t1.app t2)
theorem zl1(hs:Swo lt){y c x b:α}(h1:lt c y=false)(h2:lt c b=true)(h3:lt x b=false):lt y x=true:=by
 cases e:lt y x with
 |true=>rfl
 |false=>have:=hs.ntr _ _ _ (hs.ntr _ _ _ h1 e) h3;rw[h2] at this;cases this
theorem zxq(hs:Swo lt){y e x a:α}(h1:lt y e=false)(h2:lt e a=false)(h3:lt a x=false):lt y x=false:=hs.ntr _ _ _ (hs.ntr _ _ _ h1 h2) h3
theorem y0x(hs:Swo lt){A B:List α}{x:α}(h:∀y∈B,lt x y=true):Stb lt (A++B++[x]) (A++[x]++B):=by have:=(Stb.refl (lt:=lt) A).app (Stb.swap hs (X:=B) (Y:=[x]) λz hz y hy=>by simp at hy;subst hy;exact h z hz);simpa[w0t] using this
theorem zws{ρ:Type}(L:Nat->Int->Int->Option ρ)(k:Int->Option ρ)(pred:Nat->Bool)(R:Nat)(s0:Nat)
  (step:∀n s r:Nat,s0<=s->s<r->r<=R->L (n+1) s r=if pred ((s+r) / 2)=true then L n (((s+r) / 2+1:Nat)) r else L n s ((s+r) / 2:Nat)) (done:∀n s:Nat,L (n+1) s s=k s) :
  ∀n s r:Nat,s0<=s->s<=r->r<=R->r-s<n->∃c:Nat,s<=c/\c<=r/\(c=s\/pred (c-1)=true)/\(c=r\/pred c=false)/\L n s r=k c:=by
 intro n
 induction n with
 |zero=>intro s r _ _ _ h;omega
 |succ n ih=>
  intro s r h0 h hR hn;by_cases e:s=r
  .subst e;exact⟨s,w0s _,w0s _,.inl rfl,.inl rfl,done n s⟩
  .rw[step n s r h0 (by omega) hR];cases hp:pred ((s+r) / 2) with
   |true=>
    rw[if_pos rfl];obtain⟨c,h1,h2,h3,h4,h5⟩:=ih ((s+r) / 2+1) r (by omega) (by omega) hR (by omega);refine⟨c,by omega,h2,?_,h4,h5⟩;rcases h3 with h3|h3
    .right;rw[h3];simpa using hp
    .exact .inr h3
   |false=>
    rw[if_neg (by simp)];obtain⟨c,h1,h2,h3,h4,h5⟩:=ih s ((s+r) / 2) h0 (by omega) (by omega) (by omega);refine⟨c,h1,by omega,h3,?_,h5⟩;rcases h4 with h4|h4
    .right;rw[h4];exact hp
    .exact .inr h4
end
section arr
variable{α:Type}[Inhabited α]
theorem zfb{A B:List α}{x:α}{i:Int}(h:i=A.length):gt (A++x::B) i=x:=by subst h;rw[z9g _ _ _ (w57 _)];simp[gt]
omit [Inhabited α] in
theorem zm7{A B:List α}{x y:α}{i:Int}(h:i=A.length):zt (A++x::B) i y=A++y::B:=by subst h;simp[zt]
theorem y4t{n:Int}(h0:0<=n)(h:n<=4611686018427387904):W ((U (W n)).fdiv 2)=n / 2:=by rw[W_id (x:=n) (by omega) (by omega),U_id h0 (by omega),w1r _ (by omega),W_id (by omega) (by omega)]
end arr
def Cmp{α:Type}(D:α->Prop)(y:α->α->Option Int)(lt:α->α->Bool):Prop:=∀a b,D a->D b->∃z,y a b=some z/\decide (z<0)=lt a b
theorem zc6{α:Type}(l:List α):l = []\/∃S w,l=S++[w]:=by
 rcases List.eq_nil_or_concat l with h|⟨S,w,h⟩
 .exact .inl h
 .exact .inr ⟨S,w,by rw[h,List.concat_eq_append]⟩
inductive Runs {α:Type} (lt:α->α->Bool) (bs:Nat):List α->Prop
 |last {l:List α} (h:l.length<=bs) (hs:Srt lt l):Runs lt bs l
 |cons {b r:List α} (h:b.length=bs) (hs:Srt lt b) (hr:Runs lt bs r):Runs lt bs (b++r)
theorem Runs.small{α:Type}{lt:α->α->Bool}{bs:Nat}{l:List α}(h:Runs lt bs l)(hl:l.length<=bs):Srt lt l:=by
 cases h with
 |last _ hs=>exact hs
 |cons h hs hr=>rename_i b r;have:r = []:=w17 (by simp at hl;omega);rw[this,w0b];exact hs
theorem Runs.big{α:Type}{lt:α->α->Bool}{bs:Nat}{l:List α}(h:Runs lt bs l)(hl:bs<l.length):∃b r,l=b++r/\b.length=bs/\Srt lt b/\Runs lt bs r/\r≠[]:=by
 cases h with
 |last h _=>omega
 |cons h hs hr=>rename_i b r;exact⟨b,r,rfl,h,hs,hr,by intro e;subst e;simp at hl;omega⟩
end Px
end
section
namespace Px
open Go
set_option maxHeartbeats 1000000
section
variable{α:Type}[Inhabited α]
def zj8(φ:Nat)(e :(Int->Int->(α->α->Option Int)->Int->(List α)->Option (List α))):Nat->Int->Int->(α->α->Option Int)->Int->Int->(List α)->Option (List α)
 |0,_,_,_,_,_,_=>none
 |h+1,c,f,d,g,a,b=>(ck (((decide (c<a))=true)->rg a b.length) (ck (((decide (c<a))=true)->rg (W (a-1)) b.length) ((z0a (0:Int) ((decide (c<a))=true) (d (gt b a) (gt b (W (a-1))))).bind λi=>(if((decide (c<a))&&(decide (i<0)))=true then(ck (rg (W (a-1)) b.length) (ck (rg a b.length) (ck (rg a b.length) (ck (rg (W (a-1)) (((zt b a (gt b (W (a-1))))).length)) ((zj8 φ e h) c f d g (W (a-1)) ((zt ((zt b a (gt b (W (a-1))))) (W (a-1)) (gt b a)))))))) else(e c f d (W (g+1)) b)))))
def zen(φ:Nat):Nat->Int->Int->(α->α->Option Int)->Int->(List α)->Option (List α)
 |0,_,_,_,_,_=>none
 |d+1,e,b,f,a,c=>(if(decide (a<b))=true then(zj8 φ (zen φ d) φ e b f a a c) else(some c))
def gins(φ:Nat)(b :(List α))(a c:Int)(d :(α->α->Option Int)):Option (List α):=(zen φ φ a c d (W (a+1)) b)
def zga(φ:Nat):Nat->Int->Int->Int->Int->(List α)->Option (List α)
 |0,_,_,_,_,_=>none
 |f+1,c,d,e,a,b=>(if(decide (a<e))=true then(ck (rg (W (d+a)) b.length) (ck (rg (W (c+a)) b.length) (ck (rg (W (c+a)) b.length) (ck (rg (W (d+a)) (((zt b (W (c+a)) (gt b (W (d+a))))).length)) ((zga φ f) c d e (W (a+1)) ((zt ((zt b (W (c+a)) (gt b (W (d+a))))) (W (d+a)) (gt b (W (c+a)))))))))) else(some b))
def y3y(φ:Nat)(a :(List α))(b c d:Int)(e :(α->α->Option Int)):Option (List α):=(zga φ φ b c d 0 a)
def zj9(φ:Nat):Nat->Int->(α->α->Option Int)->Int->Int->(List α)->Option (List α)
 |0,_,_,_,_,_=>none
 |f+1,b,d,a,c,e=>(if(a !=c)=true then(if(decide (c<a))=true then((y3y φ e (W (b-a)) b c d).bind λg=>((zj9 φ f) b d (W (a-c)) c g)) else((y3y φ e (W (b-a)) ((W ((W (b+c))-a))) a d).bind λh=>((zj9 φ f) b d a (W (c-a)) h))) else((y3y φ e (W (b-a)) b a d).bind λi=>(some i)))
def grot(φ:Nat)(b :(List α))(c a d:Int)(e :(α->α->Option Int)):Option (List α):=(zj9 φ φ a e (W (a-c)) (W (d-a)) b)
def zh0(φ:Nat):Nat->Int->Int->(List α)->Option (List α)
 |0,_,_,_=>none
 |d+1,c,a,b=>(if(decide (a<(W (c-1))))=true then(ck (rg (W (a+1)) b.length) (ck (rg a b.length) (ck (rg a b.length) (ck (rg (W (a+1)) (((zt b a (gt b (W (a+1))))).length)) ((zh0 φ d) c (W (a+1)) ((zt ((zt b a (gt b (W (a+1))))) (W (a+1)) (gt b a)))))))) else(some b))
def zai(φ:Nat):Nat->Int->(α->α->Option Int)->Int->Int->(List α)->Option (List α)
 |0,_,_,_,_,_=>none
 |f+1,d,e,a,c,b=>(if(decide (a<c))=true then(if 0<=(1:Int) then(ck (rg ((W ((((U ((W (a+c)))):Int).fdiv (2 ^ (min (1:Int).toNat 64)))))) b.length) (ck (rg d b.length) ((e (((gt b ((W ((((U ((W (a+c)))):Int).fdiv (2 ^ (min (1:Int).toNat 64))))))))) (gt b d)).bind λg=>(if(decide (g<0))=true then((zai φ f) d e ((W ((W ((((U ((W (a+c)))):Int).fdiv (2 ^ (min (1:Int).toNat 64)))))+1))) c b) else((zai φ f) d e a ((W ((((U ((W (a+c)))):Int).fdiv (2 ^ (min (1:Int).toNat 64)))))) b))))) else none) else(zh0 φ φ a d b))
def zh1(φ:Nat):Nat->Int->Int->(List α)->Option (List α)
 |0,_,_,_=>none
 |d+1,c,a,b=>(if(decide (c<a))=true then(ck (rg (W (a-1)) b.length) (ck (rg a b.length) (ck (rg a b.length) (ck (rg (W (a-1)) (((zt b a (gt b (W (a-1))))).length)) ((zh1 φ d) c (W (a-1)) ((zt ((zt b a (gt b (W (a-1))))) (W (a-1)) (gt b a)))))))) else(some b))
def zaj(φ:Nat):Nat->Int->(α->α->Option Int)->Int->Int->(List α)->Option (List α)
 |0,_,_,_,_,_=>none
 |f+1,d,e,a,c,b=>(if(decide (a<c))=true then(if 0<=(1:Int) then(ck (rg d b.length) (ck (rg ((W ((((U ((W (a+c)))):Int).fdiv (2 ^ (min (1:Int).toNat 64)))))) b.length) ((e (gt b d) (((gt b ((W ((((U ((W (a+c)))):Int).fdiv (2 ^ (min (1:Int).toNat 64)))))))))).bind λg=>(if(!(decide (g<0)))=true then((zaj φ f) d e ((W ((W ((((U ((W (a+c)))):Int).fdiv (2 ^ (min (1:Int).toNat 64)))))+1))) c b) else((zaj φ f) d e a ((W ((((U ((W (a+c)))):Int).fdiv (2 ^ (min (1:Int).toNat 64)))))) b))))) else none) else(zh1 φ φ a d b))
def zjb(φ:Nat)(e :((List α)->Int->Int->Int->(α->α->Option Int)->Option (List α)))(b:Int)(f :(α->α->Option Int))(c a:Int)(d :(List α)):Option (List α):=(if((decide (c<a))&&(decide (a<b)))=true then((e d c a b f).bind λg=>(some g)) else(some d))
def zeo(φ:Nat)(b :((List α)->Int->Int->Int->(α->α->Option Int)->Option (List α)))(e f:Int)(c :(α->α->Option Int))(a d g:Int)(h :(List α)):Option (List α):=(if((decide (e<d))&&(decide (d<a)))=true then((b h e d a c).bind λi=>(zjb φ b f c a g i)) else(zjb φ b f c a g h))
def zak(φ:Nat)(g :((List α)->Int->Int->Int->(α->α->Option Int)->Option (List α))):Nat->Int->Int->Int->(α->α->Option Int)->Int->Int->Int->Int->Int->(List α)->Option (List α)
 |0,_,_,_,_,_,_,_,_,_,_=>none
 |l+1,h,f,i,d,j,e,a,b,k,c=>(if(decide (a<b))=true then(if 0<=(1:Int) then(ck (rg ((W (k-(W ((((U ((W (a+b)))):Int).fdiv (2 ^ (min (1:Int).toNat 64)))))))) c.length) (ck (rg ((W ((((U ((W (a+b)))):Int).fdiv (2 ^ (min (1:Int).toNat 64)))))) c.length) ((d (((gt c ((W (k-(W ((((U ((W (a+b)))):Int).fdiv (2 ^ (min (1:Int).toNat 64))))))))))) (((gt c ((W ((((U ((W (a+b)))):Int).fdiv (2 ^ (min (1:Int).toNat 64)))))))))).bind λm=>(if(!(decide (m<0)))=true then((zak φ g l) h f i d j e ((W ((W ((((U ((W (a+b)))):Int).fdiv (2 ^ (min (1:Int).toNat 64)))))+1))) b k c) else((zak φ g l) h f i d j e a ((W ((((U ((W (a+b)))):Int).fdiv (2 ^ (min (1:Int).toNat 64)))))) k c))))) else none) else(if((decide (a<f))&&(decide (f<(W (e-a)))))=true then((grot φ c a f (W (e-a)) d).bind λn=>(zeo φ g h i d j a (W (e-a)) n)) else(zeo φ g h i d j a (W (e-a)) c)))
def zh2(φ:Nat)(b :((List α)->Int->Int->Int->(α->α->Option Int)->Option (List α)))(c d e:Int)(f :(α->α->Option Int))(g a h i:Int)(j :(List α)):Option (List α):=(zak φ b φ c d e f g a h i (W (a-1)) j)
def gsym(φ:Nat):Nat->(List α)->Int->Int->Int->(α->α->Option Int)->Option (List α)
 |0,_,_,_,_,_=>none
 |d+1,e,a,b,c,f=>(if(((W (b-a)):Int)==1)=true then(zai φ φ a f b c e) else(if(((W (c-b)):Int)==1)=true then(zaj φ φ b f a b e) else(if 0<=(1:Int) then(if(decide (((W ((((U ((W (a+c)))):Int).fdiv (2 ^ (min (1:Int).toNat 64))))):Int)<b))=true then(zh2 φ (gsym φ d) a b c f ((W ((((U ((W (a+c)))):Int).fdiv (2 ^ (min (1:Int).toNat 64)))))) ((W ((W ((((U ((W (a+c)))):Int).fdiv (2 ^ (min (1:Int).toNat 64)))))+b))) ((W ((W ((W ((((U ((W (a+c)))):Int).fdiv (2 ^ (min (1:Int).toNat 64)))))+b))-c))) ((W ((((U ((W (a+c)))):Int).fdiv (2 ^ (min (1:Int).toNat 64)))))) e) else(zh2 φ (gsym φ d) a b c f ((W ((((U ((W (a+c)))):Int).fdiv (2 ^ (min (1:Int).toNat 64)))))) ((W ((W ((((U ((W (a+c)))):Int).fdiv (2 ^ (min (1:Int).toNat 64)))))+b))) a b e)) else none)))
def zja(φ:Nat)(f :(Int->(α->α->Option Int)->Int->(List α)->Option (List α))):Nat->Int->(α->α->Option Int)->Int->Int->Int->(List α)->Option (List α)
 |0,_,_,_,_,_,_=>none
 |h+1,b,c,a,d,e,g=>(if(decide (e<=b))=true then((gsym φ φ g d (W (d+a)) e c).bind λi=>((zja φ f h) b c a e ((W (e+(W (2*a))))) i)) else(if(decide (((W (d+a)):Int)<b))=true then((gsym φ φ g d (W (d+a)) b c).bind λj=>(f b c (W (a*2)) j)) else(f b c (W (a*2)) g)))
def z9f(φ:Nat):Nat->Int->(α->α->Option Int)->Int->(List α)->Option (List α)
 |0,_,_,_,_=>none
 |d+1,b,e,a,c=>(if(decide (a<b))=true then(zja φ (z9f φ d) φ b e a 0 (W (2*a)) c) else(some c))
def zg9(φ:Nat):Nat->Int->(α->α->Option Int)->Int->Int->Int->(List α)->Option (List α)
 |0,_,_,_,_,_,_=>none
 |g+1,a,b,d,e,c,f=>(if(decide (c<=a))=true then((gins φ f e c b).bind λh=>((zg9 φ g) a b d c (W (c+d)) h)) else((gins φ f e a b).bind λi=>(z9f φ φ a b d i)))
def yff(φ:Nat)(a :(List α))(b:Int)(c :(α->α->Option Int)):Option (List α):=(zg9 φ φ b c 20 0 20 a)
def ycs(φ:Nat)(a :(List α))(b :(α->α->Option Int)):Option (List α):=((yff φ a (a.length:Int) b).bind λc=>(some c))
theorem yfe{β:Type}{z:β}{p:Prop}[Decidable p]{x:Option β}(h:p):z0a z p x=x:=if_pos h
theorem yh4{β:Type}{z:β}{p:Prop}[Decidable p]{x:Option β}(h:¬p):z0a z p x=some z:=if_neg h
variable{D:α->Prop}{lt:α->α->Bool}{y:α->α->Option Int}
theorem yco(hy:Cmp D y lt)(φ:Nat)(k:Int->Int->(α->α->Option Int)->Int->List α->Option (List α))(b i0:Int)(P:List α)(x:α)(hx:D x):∀(n:Nat)(S1 S2:List α),(∀z∈S1,D z)->P.length+S1.length+S2.length<=1000000->S1.length<n->
  ∃A B,S1=A++B/\(∀z∈B,lt x z=true)/\(A = []\/∃A' z,A=A'++[z]/\lt x z=false)/\
   zj8 φ k n (P.length:Int) b y i0 ((P.length:Int)+S1.length) (P++S1++x::S2)=k (P.length:Int) b y (W (i0+1)) (P++A++x::(B++S2)):=by
 intro n
 induction n with
 |zero=>intro S1 S2 _ _ h;omega
 |succ n ih=>
  intro S1 S2 hD hl hn;rcases List.eq_nil_or_concat S1 with rfl|⟨S,z,rfl⟩
  .refine⟨[],[],rfl,by simp,.inl rfl,?_⟩;have h0:decide ((P.length:Int)<(P.length:Int)+(([]:List α).length:Int))=false:=by simp
   rw[zj8,h0];simp[ck,rg,rg,z0a]
  .simp only[List.concat_eq_append] at hD hl hn⊢;simp only[w0d,w0k,w1u] at hl hn;have e1:P++(S++[z])++x::S2 =(P++S++[z])++x::S2:=by simp
   have e2:P++(S++[z])++x::S2 =(P++S)++z::(x::S2):=by simp
   have g1:gt (P++(S++[z])++x::S2) ((P.length:Int)+((S++[z]).length:Int))=x:=by rw[e1];exact zfb (by simp<;>omega)
   have hw:W ((P.length:Int)+((S++[z]).length:Int)-1) =(P.length:Int)+S.length:=by rw[W_id (by simp;omega) (by simp;omega)];simp;omega
   have g2:gt (P++(S++[z])++x::S2) ((P.length:Int)+(S.length:Int))=z:=by rw[e2];exact zfb (by simp)
   have h0:decide ((P.length:Int)<(P.length:Int)+((S++[z]).length:Int))=true:=by simp;omega
   have hlen :((P++(S++[z])++x::S2).length:Int)=P.length+S.length+1+1+S2.length:=by simp;omega
   obtain⟨w,hw1,hw2⟩:=hy x z hx (hD z (by simp));have s1:zt (P++(S++[z])++x::S2) ((P.length:Int)+((S++[z]).length:Int)) z =(P++S)++z::(z::S2):=by rw[e1,zm7 (by simp<;>omega)];simp
   have s2:zt ((P++S)++z::(z::S2)) ((P.length:Int)+(S.length:Int)) x=P++S++x::(z::S2):=zm7 (by simp);rw[zj8,hw,h0,g1,g2,hw1,hlen];rw[zg (λ_=>⟨by omega,by simp;omega⟩),zg (λ_=>⟨by omega,by omega⟩),yfe rfl];simp only[w04,hw2,w3d];cases hlt:lt x z with
   |true=>
    rw[if_pos rfl,zg ⟨by omega,by omega⟩,zg ⟨by omega,by simp;omega⟩,zg ⟨by omega,by simp;omega⟩,s1];rw[zg ⟨by omega,by simp;omega⟩,s2];obtain⟨A,B,q1,q2,q3,q4⟩:=ih S (z::S2) (λu hu=>hD u (by simp[hu])) (by simp;omega) (by omega);refine⟨A,B++[z],by rw[q1];simp,?_,q3,?_⟩
    .intro u hu;rcases w0m.1 hu with h|h
     .exact q2 u h
     .simp at h;rw[h];exact hlt
    .rw[q4];simp
   |false=>rw[if_neg (by simp)];exact⟨S++[z],[],by simp,by simp,.inr ⟨S,z,rfl,hlt⟩,by simp⟩
theorem y8k(hs:Swo lt)(hy:Cmp D y lt)(φ:Nat)(P Q:List α):∀(n:Nat)(S R:List α),S≠[]->Srt lt S->(∀z∈S,D z)->(∀z∈R,D z)->P.length+S.length+R.length+Q.length<=1000000->P.length+S.length+R.length<φ->R.length<n->
  ∃S',Srt lt S'/\Stb lt (S++R) S'/\zen φ n (P.length:Int) ((P.length:Int)+S.length+R.length) y ((P.length:Int)+S.length) (P++S++R++Q)=some (P++S'++Q):=by
 intro n
 induction n with
 |zero=>intro S R _ _ _ _ _ _ h;omega
 |succ n ih=>
  intro S R hne hS hD hD' hl hφ hn;cases R with
  |nil=>refine⟨S,hS,by simpa using Stb.refl S,?_⟩;rw[zen,if_neg (by simp)];simp
  |cons x R=>
   simp only[w0k] at hl hφ hn;rw[zen,if_pos (by simp;omega)];obtain⟨A,B,q1,q2,q3,q4⟩:=yco hy φ (zen φ n) ((P.length:Int)+S.length+(x::R).length) ((P.length:Int)+S.length) P x (hD' x (by simp)) φ S (R++Q) hD (by simp;omega) (by omega);rw[show P++S++x::R++Q=P++S++x::(R++Q) by simp,q4];have hA:∀u∈A,lt x u=false:=by
    rcases q3 with rfl|⟨A',z,rfl,hz⟩
    .simp
    .intro u hu;rcases w0m.1 hu with h|h
     .subst q1;have:=(hS.parts.1).parts.2.2 u h z (by simp);exact hs.ntr _ _ _ hz this
     .simp at h;rw[h];exact hz
   have hS2:Srt lt (A++x::B):=by
    subst q1;refine hS.parts.1.app (w0o.2 ⟨λu hu=>hs.asym _ _ (q2 u hu),hS.parts.2.1⟩) λu hu v hv=>?_
    rcases w08.1 hv with h|h
    .subst h;exact hA u hu
    .exact hS.parts.2.2 u hu v h
   obtain⟨S',p1,p2,p3⟩:=ih (A++x::B) R (by simp) hS2 (λz hz=>by
    subst q1;simp only[w0m,w08] at hz;rcases hz with h|h|h
    .exact hD z (by simp[h])
    .subst h;exact hD' _ (by simp)
    .exact hD z (by simp[h])) (λz hz=>hD' z (by simp[hz])) (by subst q1;simp at hl⊢;omega) (by subst q1;simp at hφ⊢;omega) (by omega)
   refine⟨S',p1,?_,?_⟩
   .have h1:Stb lt (S++[x]) (A++[x]++B):=by subst q1;exact y0x hs q2
    have:=h1.app (Stb.refl R);refine Stb.trans ?_ (Stb.trans this ?_)
    .simpa using Stb.refl (lt:=lt) (S++x::R)
    .simpa using p2
   .rw[<- p3];have e1:W ((P.length:Int)+S.length+1) =(P.length:Int)+S.length+1:=W_id (by omega) (by omega);have hSl:S.length=A.length+B.length:=by rw[q1];simp
    have e2 :(P.length:Int)+S.length+1=P.length+(A++x::B).length:=by simp;omega
    have e3 :(P.length:Int)+S.length+(x::R).length=P.length+(A++x::B).length+R.length:=by simp;omega
    have e4:P++A++x::(B++(R++Q))=P++(A++x::B)++R++Q:=by simp
    rw[e1,e2,e3,e4]
theorem y3x(hs:Swo lt)(hy:Cmp D y lt)(φ:Nat)(P X Q:List α)(hD:∀z∈X,D z)(hl:P.length+X.length+Q.length<=1000000)(hφ:P.length+X.length<φ):
  ∃X',Srt lt X'/\Stb lt X X'/\gins φ (P++X++Q) (P.length:Int) ((P.length:Int)+X.length) y=some (P++X'++Q):=by
 unfold gins;rw[W_id (x:=(P.length:Int)+1) (by omega) (by omega)];cases X with
 |nil=>refine⟨[],List.Pairwise.nil,Stb.refl _,?_⟩;obtain⟨n,rfl⟩:∃n,φ=n+1:=⟨φ-1,by omega⟩;rw[zen,if_neg (by simp;omega)]
 |cons x R=>simp only[w0k] at hl hφ;obtain⟨S',p1,p2,p3⟩:=y8k hs hy φ P Q φ [x] R (by simp) (w2r _ _) (λz hz=>hD z (by simp at hz;simp[hz])) (λz hz=>hD z (by simp[hz])) (by simp;omega) (by simp;omega) (by omega);refine⟨S',p1,by simpa using p2,?_⟩;rw[<- p3];simp only[w0t,w2a,w0k,w1u,w2u];congr 1;simp;omega
theorem yfg(φ:Nat)(P Z Q:List α)(c:Nat):∀(n:Nat)(X1 X2 Y1 Y2:List α),X1.length=Y1.length->X2.length=Y2.length->c=X1.length+X2.length->P.length+c+Z.length+c+Q.length<=1000000->X2.length<n->
  zga φ n (P.length:Int) ((P.length:Int)+c+Z.length) (c:Int) (X1.length:Int) (P++Y1++X2++Z++X1++Y2++Q)=some (P++Y1++Y2++Z++X1++X2++Q):=by
 intro n
 induction n with
 |zero=>intro X1 X2 Y1 Y2 _ _ _ _ h;omega
 |succ n ih=>
  intro X1 X2 Y1 Y2 h1 h2 hc hl hn;cases X2 with
  |nil=>have:Y2 = []:=w17 (by simpa using h2.symm);subst this;simp only[w1u,w3y] at hc;rw[zga,if_neg (by simp;omega)]
  |cons x X2=>
   cases Y2 with
   |nil=>simp at h2
   |cons w Y2=>
    simp only[w0k,Nat.add_right_cancel_iff] at h2 hc hn;have w1:W ((P.length:Int)+c+Z.length+X1.length) =(P.length:Int)+c+Z.length+X1.length:=W_id (by omega) (by omega);have w2:W ((P.length:Int)+X1.length) =(P.length:Int)+X1.length:=W_id (by omega) (by omega);have w3:W ((X1.length:Int)+1) =(X1.length:Int)+1:=W_id (by omega) (by omega);have e1:P++Y1++x::X2++Z++X1++w::Y2++Q =(P++Y1)++x::(X2++Z++X1++w::Y2++Q):=by simp
    have e2:P++Y1++x::X2++Z++X1++w::Y2++Q =(P++Y1++x::X2++Z++X1)++w::(Y2++Q):=by simp
    have g1:gt (P++Y1++x::X2++Z++X1++w::Y2++Q) ((P.length:Int)+X1.length)=x:=by rw[e1];exact zfb (by simp;omega)
    have g2:gt (P++Y1++x::X2++Z++X1++w::Y2++Q) ((P.length:Int)+c+Z.length+X1.length)=w:=by rw[e2];exact zfb (by simp;omega)
    have s1:zt (P++Y1++x::X2++Z++X1++w::Y2++Q) ((P.length:Int)+X1.length) w =(P++Y1)++w::(X2++Z++X1++w::Y2++Q):=by rw[e1];exact zm7 (by simp;omega)
    have e3 :(P++Y1)++w::(X2++Z++X1++w::Y2++Q) =(P++Y1++w::X2++Z++X1)++w::(Y2++Q):=by simp
    have s2:zt ((P++Y1++w::X2++Z++X1)++w::(Y2++Q)) ((P.length:Int)+c+Z.length+X1.length) x =(P++Y1++w::X2++Z++X1)++x::(Y2++Q):=zm7 (by simp;omega);have e4 :(P++Y1++w::X2++Z++X1)++x::(Y2++Q)=P++(Y1++[w])++X2++Z++(X1++[x])++Y2++Q:=by simp
    have hlen :((P++Y1++x::X2++Z++X1++w::Y2++Q).length:Int)=P.length+c+Z.length+c+Q.length:=by simp;omega
    have hlen2 :(((P++Y1++w::X2++Z++X1)++w::(Y2++Q)).length:Int)=P.length+c+Z.length+c+Q.length:=by simp;omega
    rw[zga,if_pos (by simp;omega),w1,w2,w3,g1,g2,s1,e3,s2,e4,hlen,hlen2];rw[zg ⟨by omega,by omega⟩,zg ⟨by omega,by omega⟩,zg ⟨by omega,by omega⟩,zg ⟨by omega,by omega⟩];have:=ih (X1++[x]) X2 (Y1++[w]) Y2 (by simp[h1]) h2 (by simp;omega) hl (by omega);have e5 :(((X1++[x]).length:Nat):Int) =(X1.length:Int)+1:=by simp
    rw[e5] at this;rw[this];simp
theorem zss(φ:Nat)(P X Z Y Q:List α)(y:α->α->Option Int)(h:X.length=Y.length)(hl:P.length+X.length+Z.length+X.length+Q.length<=1000000)(hφ:X.length<φ):
  y3y φ (P++X++Z++Y++Q) (P.length:Int) ((P.length:Int)+X.length+Z.length) (X.length:Int) y=some (P++Y++Z++X++Q):=by
 have:=yfg φ P Z Q X.length φ [] X [] Y rfl h (by simp) hl hφ;simpa[y3y] using this
theorem yh7(φ:Nat)(y:α->α->Option Int):∀(n:Nat)(P X Y Q:List α),X≠[]->Y≠[]->P.length+X.length+Y.length+Q.length<=1000000->X.length+Y.length<=n->X.length+Y.length<φ->
  zj9 φ n ((P.length:Int)+X.length) y (X.length:Int) (Y.length:Int) (P++X++Y++Q)=some (P++Y++X++Q):=by
 intro n
 induction n with
 |zero=>intro P X Y Q hX hY _ h;have:=List.length_pos_iff.2 hX;omega
 |succ n ih=>
  intro P X Y Q hX hY hl hn hφ;have hX0:=List.length_pos_iff.2 hX;have hY0:=List.length_pos_iff.2 hY;have w1:W ((P.length:Int)+X.length-X.length) =(P.length:Int):=by rw[W_id (by omega) (by omega)];omega
  rw[zj9,w1];by_cases he:X.length=Y.length
  .rw[if_neg (by simp[he])];have:=zss φ P X [] Y Q y he (by simp;omega) (by omega);simp only[w0b,w1u,Int.ofNat_zero,Int.add_zero] at this;rw[this];rfl
  .rw[if_pos (by simp;omega)];by_cases hlt:Y.length<X.length
   .rw[if_pos (by simp;omega)];obtain⟨X1,X2,rfl,h1⟩:∃X1 X2,X=X1++X2/\X1.length=Y.length:=⟨X.take Y.length,X.drop Y.length,(w14 _ _).symm,by simp;omega⟩;simp only[w0d] at hl hn hφ hlt hX0 he;have e1:P++(X1++X2)++Y++Q=P++X1++X2++Y++Q:=by simp
    have e2 :(P.length:Int)+((X1++X2).length:Nat) =(P.length:Int)+X1.length+X2.length:=by simp;omega
    rw[e1,e2,<- h1,zss φ P X1 X2 Y Q y h1 (by omega) (by omega)];simp only[w04];have w2:W (((X1++X2).length:Int)-X1.length) =(X2.length:Int):=by simp;rw[W_id (by omega) (by omega)];omega
    rw[w2];have:=ih (P++Y) X2 X1 Q (by intro e;subst e;simp at hlt;omega) (by intro e;subst e;simp at h1;omega) (by simp;omega) (by omega) (by omega);have e3 :(((P++Y).length:Nat):Int)+X2.length =(P.length:Int)+X1.length+X2.length:=by simp;omega
    rw[e3] at this;rw[this];simp
   .rw[if_neg (by simp;omega)];obtain⟨Y1,Y2,rfl,h1⟩:∃Y1 Y2,Y=Y1++Y2/\Y2.length=X.length:=⟨Y.take (Y.length-X.length),Y.drop (Y.length-X.length),(w14 _ _).symm,by simp;omega⟩;simp only[w0d] at hl hn hφ hlt hY0 he;have e1:P++X++(Y1++Y2)++Q=P++X++Y1++Y2++Q:=by simp
    have w3:W ((P.length:Int)+X.length+((Y1++Y2).length:Nat)) =(P.length:Int)+X.length+Y1.length+Y2.length:=by simp;rw[W_id (by omega) (by omega)];omega
    have w4:W ((P.length:Int)+X.length+Y1.length+Y2.length-X.length) =(P.length:Int)+X.length+Y1.length:=by rw[W_id (by omega) (by omega)];omega
    have w5:W (((Y1++Y2).length:Int)-X.length) =(Y1.length:Int):=by simp;rw[W_id (by omega) (by omega)];omega
    rw[e1,w3,w4,w5,zss φ P X Y1 Y2 Q y h1.symm (by omega) (by omega)];simp only[w04];have:=ih P Y2 Y1 (X++Q) (by intro e;subst e;simp at h1;omega) (by intro e;subst e;simp at h1 hlt he;omega) (by simp;omega) (by omega) (by omega);rw[h1] at this;have e2:P++Y2++Y1++X++Q=P++Y2++Y1++(X++Q):=by simp
    rw[e2,this];simp
theorem ycr(φ:Nat)(P X Y Q:List α)(y:α->α->Option Int)(hX:X≠[])(hY:Y≠[])(hl:P.length+X.length+Y.length+Q.length<=1000000)(hφ:X.length+Y.length<φ):
  grot φ (P++X++Y++Q) (P.length:Int) ((P.length:Int)+X.length) ((P.length:Int)+X.length+Y.length) y=some (P++Y++X++Q):=by
 have:=yh7 φ y φ P X Y Q hX hY hl (by omega) hφ;rw[<- this];unfold grot;have w1:W ((P.length:Int)+X.length-P.length) =(X.length:Int):=by rw[W_id (by omega) (by omega)];omega
 have w2:W ((P.length:Int)+X.length+Y.length-((P.length:Int)+X.length)) =(Y.length:Int):=by rw[W_id (by omega) (by omega)];omega
 rw[w1,w2]
end
end Px
end
section
namespace Px
open Go
set_option maxHeartbeats 4000000
section
variable{α:Type}[Inhabited α]
variable{D:α->Prop}{lt:α->α->Bool}{y:α->α->Option Int}
theorem p21 :(2:Int) ^ (min (1:Int).toNat 64)=2:=by decide
theorem y8l(φ:Nat)(x:α):∀(n:Nat)(P C E:List α),P.length+C.length+E.length<=999999->C.length<n->
  zh0 φ n ((P.length:Int)+C.length+1) (P.length:Int) (P++x::(C++E))=some (P++C++x::E):=by
 intro n
 induction n with
 |zero=>intro P C E _ h;omega
 |succ n ih=>
  intro P C E hl hn;have w0:W ((P.length:Int)+C.length+1-1) =(P.length:Int)+C.length:=by rw[W_id (by omega) (by omega)];omega
  rw[zh0,w0];cases C with
  |nil=>rw[if_neg (by simp)];simp
  |cons w C=>
   simp only[w0k] at hl hn;have w1:W ((P.length:Int)+1) =(P.length:Int)+1:=W_id (by omega) (by omega);have e1:P++x::(w::C++E) =(P++[x])++w::(C++E):=by simp
   have g1:gt (P++x::(w::C++E)) (P.length:Int)=x:=zfb rfl;have g2:gt (P++x::(w::C++E)) ((P.length:Int)+1)=w:=by rw[e1];exact zfb (by simp)
   have s1:zt (P++x::(w::C++E)) (P.length:Int) w=P++w::(w::C++E):=zm7 rfl;have e2:P++w::(w::C++E) =(P++[w])++w::(C++E):=by simp
   have s2:zt ((P++[w])++w::(C++E)) ((P.length:Int)+1) x =(P++[w])++x::(C++E):=zm7 (by simp);have hlen :((P++x::(w::C++E)).length:Int)=P.length+C.length+E.length+2:=by simp;omega
   have hlen2 :(((P++[w])++w::(C++E)).length:Int)=P.length+C.length+E.length+2:=by simp;omega
   rw[if_pos (by simp;omega),w1,g1,g2,s1,e2,s2,hlen,hlen2,zg ⟨by omega,by omega⟩,zg ⟨by omega,by omega⟩,zg ⟨by omega,by omega⟩,zg ⟨by omega,by omega⟩];have:=ih (P++[w]) C E (by simp;omega) (by omega);have e3 :(((P++[w]).length:Nat):Int) =(P.length:Int)+1:=by simp
   have e4 :(P.length:Int)+((w::C).length:Nat)+1 =(P.length:Int)+1+C.length+1:=by simp;omega
   rw[e3] at this;rw[e4,this];simp
theorem y0v(φ:Nat)(x:α)(P:List α):∀(n:Nat)(C E:List α),P.length+C.length+E.length<=999999->C.length<n->
  zh1 φ n (P.length:Int) ((P.length:Int)+C.length) (P++C++x::E)=some (P++x::(C++E)):=by
 intro n
 induction n with
 |zero=>intro C E _ h;omega
 |succ n ih=>
  intro C E hl hn;rw[zh1];rcases zc6 C with rfl|⟨S,z,rfl⟩
  .rw[if_neg (by simp)];simp
  .simp only[w0d,w0k,w1u] at hl hn;have w1:W ((P.length:Int)+((S++[z]).length:Nat)-1) =(P.length:Int)+S.length:=by rw[W_id (by simp;omega) (by simp;omega)];simp;omega
   have e1:P++(S++[z])++x::E =(P++S++[z])++x::E:=by simp
   have e2:P++(S++[z])++x::E =(P++S)++z::(x::E):=by simp
   have g1:gt (P++(S++[z])++x::E) ((P.length:Int)+((S++[z]).length:Nat))=x:=by rw[e1];exact zfb (by simp<;>omega)
   have g2:gt (P++(S++[z])++x::E) ((P.length:Int)+S.length)=z:=by rw[e2];exact zfb (by simp)
   have s1:zt (P++(S++[z])++x::E) ((P.length:Int)+((S++[z]).length:Nat)) z =(P++S)++z::(z::E):=by rw[e1,zm7 (by simp<;>omega)];simp
   have s2:zt ((P++S)++z::(z::E)) ((P.length:Int)+S.length) x=P++S++x::(z::E):=zm7 (by simp);have hlen :((P++(S++[z])++x::E).length:Int)=P.length+S.length+E.length+2:=by simp;omega
   have hlen2 :(((P++S)++z::(z::E)).length:Int)=P.length+S.length+E.length+2:=by simp;omega
   rw[if_pos (by simp;omega),w1,g1,g2,s1,s2,hlen,hlen2,zg ⟨by omega,by omega⟩,zg ⟨by simp;omega,by simp;omega⟩,zg ⟨by simp;omega,by simp;omega⟩,zg ⟨by omega,by omega⟩];rw[ih S (z::E) (by simp;omega) (by omega)];simp
theorem zxf(hs:Swo lt)(hy:Cmp D y lt)(φ:Nat)(P L Q:List α)(x:α)(hx:D x)(hD:∀z∈L,D z)(hS:Srt lt L)(hl:P.length+L.length+Q.length<=999998)(hφ:P.length+L.length+2<φ):
  ∃R,Srt lt R/\Stb lt (x::L) R/\zai φ φ (P.length:Int) y ((P.length:Int)+1) ((P.length:Int)+1+L.length) (P++x::(L++Q))=some (P++R++Q):=by
 have gx:gt (P++x::(L++Q)) (P.length:Int)=x:=zfb rfl;have hlen :((P++x::(L++Q)).length:Int)=P.length+L.length+Q.length+1:=by simp;omega
 have gL:∀i:Nat,P.length+1<=i->i<P.length+1+L.length->gt (P++x::(L++Q)) (i:Int)=gt L ((i-(P.length+1):Nat):Int):=by
  intro i h1 h2;have e:P++x::(L++Q) =(P++[x])++(L++Q):=by simp
  rw[e,z9g _ _ _ (by simp;omega),zep _ _ _ (by simp;omega) (by simp;omega)];congr 1;simp;omega
 obtain⟨c,h1,h2,h3,h4,h5⟩:=zws (λn s r=>zai φ n (P.length:Int) y s r (P++x::(L++Q)))
  (λs=>zh0 φ φ s (P.length:Int) (P++x::(L++Q))) (λh=>lt (gt (P++x::(L++Q)) (h:Int)) x) (P.length+1+L.length) (P.length+1)
  (by
   intro n s r h0 hlt hR;have hm :(W ((U (W ((s:Int)+r))).fdiv 2)) =(((s+r) / 2:Nat):Int):=by rw[y4t (by omega) (by omega)];omega
   have hm1:W ((((s+r) / 2:Nat):Int)+1) =(((s+r) / 2+1:Nat):Int):=by rw[W_id (by omega) (by omega)];simp
   obtain⟨w,hw1,hw2⟩:=hy (gt (P++x::(L++Q)) (((s+r) / 2:Nat):Int)) x (by rw[gL _ (by omega) (by omega)];exact hD _ (zf5 (by omega) (by omega))) hx;show zai φ (n+1) _ _ _ _ _=_;rw[zai,if_pos (by simp;omega),if_pos (by decide),p21,hm,hm1,hlen,gx,zg ⟨by omega,by omega⟩,zg ⟨by omega,by omega⟩,hw1];simp only[w04,hw2])
  (by intro n s;show zai φ (n+1) _ _ _ _ _=_;rw[zai,if_neg (by simp)]) φ (P.length+1) (P.length+1+L.length) (w0s _) (by omega) (w0s _) (by omega)
 obtain⟨C,E,rfl,hC⟩:∃C E,L=C++E/\C.length=c-(P.length+1):=⟨L.take (c-(P.length+1)),L.drop (c-(P.length+1)),(w14 _ _).symm,by simp;omega⟩;simp only[w0d] at hl hφ h2 gL;have hCx:∀z∈C,lt z x=true:=by
  intro z hz;rcases zc6 C with rfl|⟨S,w,rfl⟩
  .cases hz
  .simp only[w0d,w0k,w1u] at hC hz hS gL h2;have hp:lt w x=true:=by
    rcases h3 with h3|h3
    .omega
    .rw[gL _ (by omega) (by omega)] at h3;have e:S++[w]++E=S++w::E:=by simp
     rw[e,zfb (by omega)] at h3;exact h3
   rcases w0m.1 hz with h|h
   .exact zl1 hs (hS.parts.1.parts.2.2 z h w (by simp)) hp (hs.irr x)
   .simp at h;rw[h];exact hp
 have hEx:∀z∈E,lt z x=false:=by
  intro z hz;cases E with
  |nil=>cases hz
  |cons w E=>
   simp only[w0k] at h2 gL h4;have hp:lt w x=false:=by
    rcases h4 with h4|h4
    .simp at h4;omega
    .rw[gL _ (by omega) (by omega),zfb (by omega)] at h4;exact h4
   rcases w08.1 hz with h|h
   .rw[h];exact hp
   .exact hs.ntr _ _ _ ((w0o.1 hS.parts.2.1).1 z h) hp
 have hm:=zi2 hs (A:=[]) (B:=[x]) (C:=C) (E:=E) (R1:=C) (R2:=x::E) (w2r _ _) hS (by simpa using hCx) (by simp) hS.parts.1 (by simpa using Stb.refl C) (w0o.2 ⟨hEx,hS.parts.2.1⟩) (by simpa using Stb.refl (x::E));refine⟨C++x::E,hm.1,by simpa using hm.2,?_⟩;have e5 :((P.length:Int)+1+((C++E).length:Nat)) =((P.length+1+(C++E).length:Nat):Int):=by simp
 have e6 :((P.length:Int)+1) =((P.length+1:Nat):Int):=by simp
 rw[e5,e6];refine h5.trans ?_;show zh0 φ φ _ _ _=_;have e7 :(c:Int) =(P.length:Int)+C.length+1:=by omega
 have e8:P++x::(C++E++Q)=P++x::(C++(E++Q)):=by simp
 rw[e7,e8,y8l φ x φ P C (E++Q) (by simp;omega) (by omega)];simp
theorem y0t(hs:Swo lt)(hy:Cmp D y lt)(φ:Nat)(P L Q:List α)(x:α)(hx:D x)(hD:∀z∈L,D z)(hS:Srt lt L)(hl:P.length+L.length+Q.length<=999998)(hφ:P.length+L.length+2<φ):
  ∃R,Srt lt R/\Stb lt (L++[x]) R/\zaj φ φ ((P.length:Int)+L.length) y (P.length:Int) ((P.length:Int)+L.length) (P++L++x::Q)=some (P++R++Q):=by
 have gx:gt (P++L++x::Q) ((P.length:Int)+L.length)=x:=zfb (by simp);have hlen :((P++L++x::Q).length:Int)=P.length+L.length+Q.length+1:=by simp;omega
 have gL:∀i:Nat,P.length<=i->i<P.length+L.length->gt (P++L++x::Q) (i:Int)=gt L ((i-P.length:Nat):Int):=by intro i h1 h2;rw[w0t,z9g _ _ _ (by omega),zep _ _ _ (by omega) (by omega)];congr 1;omega
 obtain⟨c,h1,h2,h3,h4,h5⟩:=zws (λn s r=>zaj φ n ((P.length:Int)+L.length) y s r (P++L++x::Q))
  (λs=>zh1 φ φ s ((P.length:Int)+L.length) (P++L++x::Q)) (λh=>!lt x (gt (P++L++x::Q) (h:Int))) (P.length+L.length) P.length
  (by
   intro n s r h0 hlt hR;have hm :(W ((U (W ((s:Int)+r))).fdiv 2)) =(((s+r) / 2:Nat):Int):=by rw[y4t (by omega) (by omega)];omega
   have hm1:W ((((s+r) / 2:Nat):Int)+1) =(((s+r) / 2+1:Nat):Int):=by rw[W_id (by omega) (by omega)];simp
   obtain⟨w,hw1,hw2⟩:=hy x (gt (P++L++x::Q) (((s+r) / 2:Nat):Int)) hx (by rw[gL _ (by omega) (by omega)];exact hD _ (zf5 (by omega) (by omega)));show zaj φ (n+1) _ _ _ _ _=_;rw[zaj,if_pos (by simp;omega),if_pos (by decide),p21,hm,hm1,hlen,gx,zg ⟨by omega,by omega⟩,zg ⟨by omega,by omega⟩,hw1];simp only[w04,hw2])
  (by intro n s;show zaj φ (n+1) _ _ _ _ _=_;rw[zaj,if_neg (by simp)]) φ P.length (P.length+L.length) (w0s _) (by omega) (w0s _) (by omega)
 obtain⟨A,B,rfl,hC⟩:∃A B,L=A++B/\A.length=c-P.length:=⟨L.take (c-P.length),L.drop (c-P.length),(w14 _ _).symm,by simp;omega⟩;simp only[w0d] at hl hφ h2 gL;have hA:∀z∈A,lt x z=false:=by
  intro z hz;rcases zc6 A with rfl|⟨S,w,rfl⟩
  .cases hz
  .simp only[w0d,w0k,w1u] at hC hz hS gL h2;have hp:lt x w=false:=by
    rcases h3 with h3|h3
    .omega
    .rw[gL _ (by omega) (by omega)] at h3;have e:S++[w]++B=S++w::B:=by simp
     rw[e,zfb (by omega)] at h3;simpa using h3
   rcases w0m.1 hz with h|h
   .exact hs.ntr _ _ _ hp (hS.parts.1.parts.2.2 z h w (by simp))
   .simp at h;rw[h];exact hp
 have hB:∀z∈B,lt x z=true:=by
  intro z hz;cases B with
  |nil=>cases hz
  |cons w B=>
   simp only[w0k] at h2 gL h4;have hp:lt x w=true:=by
    rcases h4 with h4|h4
    .simp at h4;omega
    .rw[gL _ (by omega) (by omega),zfb (by omega)] at h4;simpa using h4
   rcases w08.1 hz with h|h
   .rw[h];exact hp
   .exact zl1 hs (hs.irr x) hp ((w0o.1 hS.parts.2.1).1 z h)
 have hm:=zi2 hs (A:=A) (B:=B) (C:=[x]) (E:=[]) (R1:=A++[x]) (R2:=B) hS (by rw[w0b];exact w2r _ x) (by simpa using hB) (by simp)
  (hS.parts.1.app (w2r _ _) (by simpa using hA)) (Stb.refl _) hS.parts.2.1 (by simpa using Stb.refl B)
 refine⟨A++[x]++B,hm.1,by simpa using hm.2,?_⟩;have e5 :((P.length:Int)+((A++B).length:Nat)) =((P.length+(A++B).length:Nat):Int):=by simp
 rw[e5] at h5⊢;refine h5.trans ?_;show zh1 φ φ _ _ _=_;have e7 :(c:Int) =(((P++A).length:Nat):Int):=by simp;omega
 have e8:P++(A++B)++x::Q =(P++A)++B++x::Q:=by simp
 have e9 :((P.length+(A++B).length:Nat):Int) =(((P++A).length:Nat):Int)+B.length:=by simp;omega
 rw[e7,e8,e9,y0v φ x (P++A) φ B Q (by simp;omega) (by omega)];simp
def y3z(φ:Nat)(c:List α->Int->Int->Int->(α->α->Option Int)->Option (List α))(a m b:Int)(y:α->α->Option Int)(mid n s:Int)(l:List α):Option (List α):=(if((decide ((s:Int)<m))&&(decide ((m:Int)<(W (n-s)))))=true then((grot φ l s m (W (n-s)) y).bind λd=>(zeo φ c a b y mid s (W (n-s)) d)) else(zeo φ c a b y mid s (W (n-s)) l))
theorem yct(hs:Swo lt)(hy:Cmp D y lt)(φ:Nat)(k0:List α->Int->Int->Int->(α->α->Option Int)->Option (List α))(P L1 L2 Q:List α)(hD1:∀z∈L1,D z)(hD2:∀z∈L2,D z)(hS1:Srt lt L1)(hS2:Srt lt L2)
  (a m b mid s0 r0:Nat) (ha:a=P.length) (hm:m=a+L1.length) (hb:b=m+L2.length) (hmid:mid =(a+b) / 2) (hl:b+Q.length<=999998) (hφ:b<φ)
  (h1:1<=L1.length) (h2:1<=L2.length) (hs0 :(mid<m/\s0=mid+m-b/\r0=mid)\/(m<=mid/\s0=a/\r0=m)) :
  ∃A B C E,L1=A++B/\L2=C++E/\mid+m-(a+A.length)=m+C.length/\(∀x∈B,∀y∈C,lt y x=true)/\(∀x∈A,∀y∈E,lt y x=false)/\
   zak φ k0 φ (a:Int) (m:Int) (b:Int) y (mid:Int) ((mid+m:Nat):Int) (s0:Int) (r0:Int) ((mid+m-1:Nat):Int) (P++L1++L2++Q)=y3z φ k0 (a:Int) (m:Int) (b:Int) y (mid:Int) ((mid+m:Nat):Int) ((a+A.length:Nat):Int) (P++L1++L2++Q):=by
 have g1:∀i:Nat,a<=i->i<m->gt (P++L1++L2++Q) (i:Int)=gt L1 ((i-a:Nat):Int):=by
  intro i q1 q2;have e:P++L1++L2++Q=P++(L1++(L2++Q)):=by simp
  rw[e,z9g _ _ _ (by omega),zep _ _ _ (by omega) (by omega)];congr 1;omega
 have g2:∀i:Nat,m<=i->i<b->gt (P++L1++L2++Q) (i:Int)=gt L2 ((i-m:Nat):Int):=by
  intro i q1 q2;have e:P++L1++L2++Q =(P++L1)++(L2++Q):=by simp
  rw[e,z9g _ _ _ (by simp;omega),zep _ _ _ (by simp;omega) (by simp;omega)];congr 1;simp;omega
 have hlen :((P++L1++L2++Q).length:Int)=b+Q.length:=by simp;omega
 have hW:W ((U (W ((a:Int)+b))).fdiv 2) =(mid:Int):=by rw[y4t (by omega) (by omega)];omega
 have hn:W ((mid:Int)+m) =((mid+m:Nat):Int):=by rw[W_id (by omega) (by omega)];simp
 have hp:W (((mid+m:Nat):Int)-1) =((mid+m-1:Nat):Int):=by rw[W_id (by omega) (by omega)];omega
 have hmb:mid<=b:=by omega
 have ham:a<=mid:=by omega
 obtain⟨c,h3,h4,h5,h6,h7⟩:=zws (λn s r=>zak φ k0 n (a:Int) (m:Int) (b:Int) y (mid:Int) ((mid+m:Nat):Int) s r ((mid+m-1:Nat):Int) (P++L1++L2++Q)) (λs=>y3z φ k0 (a:Int) (m:Int) (b:Int) y (mid:Int) ((mid+m:Nat):Int) s (P++L1++L2++Q))
  (λc=>!lt (gt (P++L1++L2++Q) ((mid+m-1-c:Nat):Int)) (gt (P++L1++L2++Q) (c:Int))) r0 s0
  (by
   intro n s r q0 hlt hR;have hm' :(W ((U (W ((s:Int)+r))).fdiv 2)) =(((s+r) / 2:Nat):Int):=by rw[y4t (by omega) (by omega)];omega
   have hm1:W ((((s+r) / 2:Nat):Int)+1) =(((s+r) / 2+1:Nat):Int):=by rw[W_id (by omega) (by omega)];simp
   have hpc:W (((mid+m-1:Nat):Int)-(((s+r) / 2:Nat):Int)) =((mid+m-1-(s+r) / 2:Nat):Int):=by rw[W_id (by omega) (by omega)];omega
   obtain⟨w,hw1,hw2⟩:=hy (gt (P++L1++L2++Q) ((mid+m-1-(s+r) / 2:Nat):Int)) (gt (P++L1++L2++Q) (((s+r) / 2:Nat):Int))
    (by rw[g2 _ (by omega) (by omega)];exact hD2 _ (zf5 (by omega) (by omega))) (by rw[g1 _ (by omega) (by omega)];exact hD1 _ (zf5 (by omega) (by omega)))
   show zak φ k0 (n+1) _ _ _ _ _ _ _ _ _ _=_;rw[zak,if_pos (by simp;omega),if_pos (by decide),p21,hm',hm1,hpc,hlen,zg ⟨by omega,by omega⟩,zg ⟨by omega,by omega⟩,hw1];simp only[w04,hw2])
  (by intro n s;show zak φ k0 (n+1) _ _ _ _ _ _ _ _ _ _=_;rw[zak,if_neg (by simp)];rfl) φ s0 r0 (w0s _) (by omega) (w0s _) (by omega)
 obtain⟨A,B,rfl,hA⟩:∃A B,L1=A++B/\A.length=c-a:=⟨L1.take (c-a),L1.drop (c-a),(w14 _ _).symm,by simp;omega⟩;obtain⟨C,E,rfl,hC⟩:∃C E,L2=C++E/\C.length=mid-c:=⟨L2.take (mid-c),L2.drop (mid-c),(w14 _ _).symm,by simp;omega⟩;simp only[w0d] at hm hb g1 g2;refine⟨A,B,C,E,rfl,rfl,by omega,?_,?_,?_⟩
 .intro x hx z hz;rcases zc6 C with rfl|⟨S,w,rfl⟩
  .cases hz
  .cases B with
   |nil=>cases hx
   |cons x0 B=>
    simp only[w0d,w0k,w1u] at hC hm hb g1 g2 hA;have hp:lt w x0=true:=by
     rcases h6 with h6|h6
     .omega
     .rw[g1 c (by omega) (by omega),g2 (mid+m-1-c) (by omega) (by omega)] at h6;have e:S++[w]++E=S++w::E:=by simp
      rw[e,zfb (by omega),zfb (by omega)] at h6;simpa using h6
    have hz1:lt w z=false:=by
     rcases w0m.1 hz with h|h
     .exact hS2.parts.1.parts.2.2 z h w (by simp)
     .simp at h;rw[h];exact hs.irr _
    have hx1:lt x x0=false:=by
     rcases w08.1 hx with h|h
     .rw[h];exact hs.irr _
     .exact(w0o.1 hS1.parts.2.1).1 x h
    exact zl1 hs hz1 hp hx1
 .intro x hx z hz;rcases zc6 A with rfl|⟨S,w,rfl⟩
  .cases hx
  .cases E with
   |nil=>cases hz
   |cons e0 E=>
    simp only[w0d,w0k,w1u] at hC hm hb g1 g2 hA;have hp:lt e0 w=false:=by
     rcases h5 with h5|h5
     .omega
     .have e1:mid+m-1-(c-1)=mid+m-c:=by omega
      rw[e1,g1 (c-1) (by omega) (by omega),g2 (mid+m-c) (by omega) (by omega)] at h5;have e:S++[w]++B=S++w::B:=by simp
      rw[e,zfb (by omega),zfb (by omega)] at h5;simpa using h5
    have hz1:lt z e0=false:=by
     rcases w08.1 hz with h|h
     .rw[h];exact hs.irr _
     .exact(w0o.1 hS2.parts.2.1).1 z h
    have hx1:lt w x=false:=by
     rcases w0m.1 hx with h|h
     .exact hS1.parts.1.parts.2.2 x h w (by simp)
     .simp at h;rw[h];exact hs.irr _
    exact zxq hs hz1 hp hx1
 .refine h7.trans ?_;have e :(c:Int) =((a+A.length:Nat):Int):=by omega
  show y3z φ k0 _ _ _ _ _ _ _ _=_;rw[e]
theorem zv4(hs:Swo lt)(hy:Cmp D y lt)(φ:Nat):∀(d:Nat)(P L1 L2 Q:List α),(∀z∈L1,D z)->(∀z∈L2,D z)->Srt lt L1->Srt lt L2->L1≠[]->L2≠[]->
  P.length+L1.length+L2.length+Q.length<=999998->P.length+L1.length+L2.length+3<φ->L1.length+L2.length<=d->
  ∃R,Srt lt R/\Stb lt (L1++L2) R/\gsym φ d (P++L1++L2++Q) (P.length:Int) ((P.length:Int)+L1.length) ((P.length:Int)+L1.length+L2.length) y=some (P++R++Q):=by
 intro d
 induction d with
 |zero=>intro P L1 L2 Q _ _ _ _ h1 _ _ _ h;have:=List.length_pos_iff.2 h1;omega
 |succ d ih=>
  intro P L1 L2 Q hD1 hD2 hS1 hS2 hn1 hn2 hl hφ hd;have hp1:=List.length_pos_iff.2 hn1;have hp2:=List.length_pos_iff.2 hn2;rw[gsym];have w1:W ((P.length:Int)+L1.length-P.length) =(L1.length:Int):=by rw[W_id (by omega) (by omega)];omega
  have w2:W ((P.length:Int)+L1.length+L2.length-((P.length:Int)+L1.length)) =(L2.length:Int):=by rw[W_id (by omega) (by omega)];omega
  rw[w1,w2];by_cases q1:L1.length=1
  .rw[if_pos (by simp[q1])]
   match L1,q1 with
   | [x],_=>obtain⟨R,r1,r2,r3⟩:=zxf hs hy φ P L2 Q x (hD1 x (by simp)) hD2 hS2 (by simp at hl;omega) (by simp at hφ;omega);refine⟨R,r1,r2,?_⟩;rw[<- r3];simp
  .rw[if_neg (by simp;omega)];by_cases q2:L2.length=1
   .rw[if_pos (by simp[q2])]
    match L2,q2 with
    | [x],_=>obtain⟨R,r1,r2,r3⟩:=y0t hs hy φ P L1 Q x (hD2 x (by simp)) hD1 hS1 (by simp at hl;omega) (by simp at hφ;omega);refine⟨R,r1,r2,?_⟩;rw[<- r3];simp
   .rw[if_neg (by simp;omega)];obtain⟨a,ha⟩:∃a,a=P.length:=⟨_,rfl⟩;obtain⟨m,hm⟩:∃m,m=a+L1.length:=⟨_,rfl⟩;obtain⟨b,hb⟩:∃b,b=m+L2.length:=⟨_,rfl⟩;obtain⟨mid,hmid⟩:∃mid,mid =(a+b) / 2:=⟨_,rfl⟩;have ea :(P.length:Int) =(a:Int):=by omega
    have em :(P.length:Int)+L1.length =(m:Int):=by omega
    have eb :(P.length:Int)+L1.length+L2.length =(b:Int):=by omega
    rw[eb,em,ea];have hW:W ((U (W ((a:Int)+b))).fdiv 2) =(mid:Int):=by rw[y4t (by omega) (by omega)];omega
    have hn:W ((mid:Int)+m) =((mid+m:Nat):Int):=by rw[W_id (by omega) (by omega)];simp
    rw[if_pos (show (0:Int)<=1 by decide),p21,hW,hn];have key:∃s0 r0:Nat,((mid<m/\s0=mid+m-b/\r0=mid)\/(m<=mid/\s0=a/\r0=m))/\
      (if decide ((mid:Int)<m)=true then zh2 φ (gsym φ d) (a:Int) (m:Int) (b:Int) y (mid:Int) ((mid+m:Nat):Int) (W (((mid+m:Nat):Int)-b)) (mid:Int) (P++L1++L2++Q)
       else zh2 φ (gsym φ d) (a:Int) (m:Int) (b:Int) y (mid:Int) ((mid+m:Nat):Int) (a:Int) (m:Int) (P++L1++L2++Q)) =
      zh2 φ (gsym φ d) (a:Int) (m:Int) (b:Int) y (mid:Int) ((mid+m:Nat):Int) (s0:Int) (r0:Int) (P++L1++L2++Q):=by
     by_cases q:mid<m
     .refine⟨mid+m-b,mid,.inl ⟨q,rfl,rfl⟩,?_⟩;have:W (((mid+m:Nat):Int)-b) =((mid+m-b:Nat):Int):=by rw[W_id (by omega) (by omega)];omega
      rw[if_pos (by simp;omega),this]
     .refine⟨a,m,.inr ⟨by omega,rfl,rfl⟩,?_⟩;rw[if_neg (by simp;omega)]
    obtain⟨s0,r0,hk,e⟩:=key;rw[e];unfold zh2;have hp:W (((mid+m:Nat):Int)-1) =((mid+m-1:Nat):Int):=by rw[W_id (by omega) (by omega)];omega
    rw[hp];obtain⟨A,B,C,E,rfl,rfl,hc,hA,hB,hL⟩:=yct hs hy φ (gsym φ d) P L1 L2 Q hD1 hD2 hS1 hS2 a m b mid s0 r0 ha hm hb hmid (by omega) (by omega) (by omega) (by omega) hk;rw[hL];simp only[w0d] at hm hb hl hφ hp1 hp2 q1 q2;have hcm:mid=a+A.length+C.length:=by omega
    have hend:W (((mid+m:Nat):Int)-((a+A.length:Nat):Int)) =((m+C.length:Nat):Int):=by rw[W_id (by omega) (by omega)];omega
    have step1:y3z φ (gsym φ d) (a:Int) (m:Int) (b:Int) y (mid:Int) ((mid+m:Nat):Int) ((a+A.length:Nat):Int) (P++(A++B)++(C++E)++Q) =
      zeo φ (gsym φ d) (a:Int) (b:Int) y (mid:Int) ((a+A.length:Nat):Int) ((m+C.length:Nat):Int) (P++A++C++B++E++Q):=by
     unfold y3z;rw[hend];by_cases hBC:B = []\/C = []
     .rw[if_neg (by
       rcases hBC with rfl|rfl
       .simp at hm⊢;omega
       .simp)]
      rcases hBC with rfl|rfl<;>simp
     .obtain⟨hB0,hC0⟩:=not_or.1 hBC;have b0:=List.length_pos_iff.2 hB0;have c0:=List.length_pos_iff.2 hC0;rw[if_pos (by simp;omega)];have:=ycr φ (P++A) B C (E++Q) y hB0 hC0 (by simp;omega) (by omega);have e1:P++(A++B)++(C++E)++Q=P++A++B++C++(E++Q):=by simp
      have e2 :((a+A.length:Nat):Int) =((P++A).length:Nat):=by simp;omega
      have e3 :(m:Int) =((P++A).length:Nat)+(B.length:Int):=by simp;omega
      have e4 :((m+C.length:Nat):Int) =((P++A).length:Nat)+(B.length:Int)+C.length:=by simp;omega
      rw[e1]
      conv=>lhs;arg 1;rw[e4,e2,e3]
      rw[this];simp only[w04];congr 1;simp
    rw[step1];have step2:∃R1,Srt lt R1/\Stb lt (A++C) R1/\zeo φ (gsym φ d) (a:Int) (b:Int) y (mid:Int) ((a+A.length:Nat):Int) ((m+C.length:Nat):Int) (P++A++C++B++E++Q) =
      zjb φ (gsym φ d) (b:Int) y (mid:Int) ((m+C.length:Nat):Int) (P++R1++B++E++Q):=by
     unfold zeo;by_cases hAC:A = []\/C = []
     .refine⟨A++C,?_,Stb.refl _,?_⟩
      .rcases hAC with rfl|rfl
       .simpa using hS2.parts.1
       .simpa using hS1.parts.1
      .rw[if_neg (by
        rcases hAC with rfl|rfl
        .simp
        .simp at hcm⊢;omega)]
       simp
     .obtain⟨hA0,hC0⟩:=not_or.1 hAC;have a0:=List.length_pos_iff.2 hA0;have c0:=List.length_pos_iff.2 hC0;obtain⟨R1,r1,r2,r3⟩:=ih P A C (B++E++Q) (λz hz=>hD1 z (by simp[hz])) (λz hz=>hD2 z (by simp[hz])) hS1.parts.1 hS2.parts.1 hA0 hC0 (by simp;omega) (by omega) (by omega);refine⟨R1,r1,r2,?_⟩;rw[if_pos (by simp;omega)];have e1:P++A++C++B++E++Q=P++A++C++(B++E++Q):=by simp
      have e2 :((a+A.length:Nat):Int) =(P.length:Int)+A.length:=by simp;omega
      have e3 :(mid:Int) =(P.length:Int)+A.length+C.length:=by omega
      rw[e1]
      conv=>lhs;arg 1;rw[e3,e2,<- ea]
      rw[r3];simp
    obtain⟨R1,r1,r2,e2⟩:=step2;rw[e2];have hR1:R1.length=A.length+C.length:=by rw[r2.len];simp
    have step3:∃R2,Srt lt R2/\Stb lt (B++E) R2/\zjb φ (gsym φ d) (b:Int) y (mid:Int) ((m+C.length:Nat):Int) (P++R1++B++E++Q)=some (P++(R1++R2)++Q):=by
     unfold zjb;by_cases hBE:B = []\/E = []
     .refine⟨B++E,?_,Stb.refl _,?_⟩
      .rcases hBE with rfl|rfl
       .simpa using hS2.parts.2.1
       .simpa using hS1.parts.2.1
      .rw[if_neg (by
        rcases hBE with rfl|rfl
        .simp at hm⊢;omega
        .simp at hb⊢;omega)]
       simp
     .obtain⟨hB0,hE0⟩:=not_or.1 hBE;have b0:=List.length_pos_iff.2 hB0;have c0:=List.length_pos_iff.2 hE0;obtain⟨R2,p1,p2,p3⟩:=ih (P++R1) B E Q (λz hz=>hD1 z (by simp[hz])) (λz hz=>hD2 z (by simp[hz])) hS1.parts.2.1 hS2.parts.2.1 hB0 hE0 (by simp;omega) (by simp;omega) (by omega);refine⟨R2,p1,p2,?_⟩;rw[if_pos (by simp;omega)];have e1 :(mid:Int) =((P++R1).length:Nat):=by simp;omega
      have e3 :((m+C.length:Nat):Int) =((P++R1).length:Nat)+(B.length:Int):=by simp;omega
      have e4 :(b:Int) =((P++R1).length:Nat)+(B.length:Int)+E.length:=by simp;omega
      conv=>lhs;arg 1;rw[e4,e3,e1]
      rw[p3];simp
    obtain⟨R2,p1,p2,e3⟩:=step3;rw[e3];have hm':=zi2 hs hS1 hS2 hA hB r1 r2 p1 p2;exact⟨R1++R2,hm'.1,hm'.2,rfl⟩
theorem y0s(hs:Swo lt)(hy:Cmp D y lt)(φ N:Nat)(hN:N<=900000)(hφ:N<φ):
  ∀(n:Nat)(X Y:List α),(∀z∈Y,D z)->X.length+Y.length=N->Y.length<n->
  ∃Y1 Y2 Y1',Y=Y1++Y2/\Runs lt 20 (Y1'++[])/\Y2.length<20/\Stb lt Y1 Y1'/\(∀T,Runs lt 20 T->Runs lt 20 (Y1'++T))/\
   zg9 φ n (N:Int) y 20 (X.length:Int) ((X.length:Int)+20) (X++Y) =((gins φ (X++Y1'++Y2) ((X.length:Int)+Y1.length) (N:Int) y).bind λy12=>z9f φ φ (N:Int) y 20 y12):=by
 intro n
 induction n with
 |zero=>intro X Y _ _ h;omega
 |succ n ih=>
  intro X Y hD hl hn;rw[zg9];by_cases h:Y.length<20
  .refine⟨[],Y,[],rfl,.last (by simp) List.Pairwise.nil,h,Stb.refl _,λT hT=>hT,?_⟩;rw[if_neg (by simp;omega)];simp
  .obtain⟨B,Z,rfl,hB⟩:∃B Z,Y=B++Z/\B.length=20:=⟨Y.take 20,Y.drop 20,(w14 _ _).symm,by simp;omega⟩;simp only[w0d] at hl hn h;rw[if_pos (by simp;omega)];obtain⟨B',b1,b2,b3⟩:=y3x hs hy φ X B Z (λz hz=>hD z (by simp[hz])) (by omega) (by omega);rw[hB] at b3;have e1:X++(B++Z)=X++B++Z:=by simp
   have e2 :((20:Nat):Int)=20:=rfl;rw[e2] at b3;rw[e1,b3];simp only[w04];have hB':B'.length=20:=by rw[b2.len,hB]
   have w1:W ((X.length:Int)+20+20) =(X.length:Int)+20+20:=W_id (by omega) (by omega);have e3 :(X.length:Int)+20 =((X++B').length:Nat):=by simp[hB']
   rw[w1];obtain⟨Y1,Y2,Y1',q1,q2,q3,q4,q5,q6⟩:=ih (X++B') Z (λz hz=>hD z (by simp[hz])) (by simp;omega) (by omega);rw[<- e3] at q6;refine⟨B++Y1,Y2,B'++Y1',by rw[q1];simp,?_,q3,b2.app q4,λT hT=>?_,?_⟩
   .rw[w0t];exact .cons hB' b1 q2
   .rw[w0t];exact .cons hB' b1 (q5 T hT)
   .rw[q6];have e4 :(X.length:Int)+20+Y1.length =(X.length:Int)+((B++Y1).length:Nat):=by simp;omega
    rw[e4];simp
theorem yh5(hs:Swo lt)(hy:Cmp D y lt)(φ N bs:Nat)(k:Int->(α->α->Option Int)->Int->List α->Option (List α))(hN:N<=900000)(hφ:2*N+3<φ)(hb0:0<bs)(hb:bs<=900000):
  ∀(n:Nat)(X Y:List α),(∀z∈Y,D z)->Runs lt bs Y->X.length+Y.length=N->Y.length<n->
  ∃Y',Runs lt (bs*2) Y'/\Stb lt Y Y'/\zja φ k n (N:Int) y (bs:Int) (X.length:Int) ((X.length:Int)+2*bs) (X++Y)=k (N:Int) y ((bs*2:Nat):Int) (X++Y'):=by
 intro n
 induction n with
 |zero=>intro X Y _ _ _ h;omega
 |succ n ih=>
  intro X Y hD hR hl hn;have w1:W ((X.length:Int)+bs) =(X.length:Int)+bs:=W_id (by omega) (by omega);have w2:W ((bs:Int)*2) =((bs*2:Nat):Int):=by rw[W_id (by omega) (by omega)];simp
  have w3:W (2*(bs:Int))=2*(bs:Int):=W_id (by omega) (by omega);have w4:W ((X.length:Int)+2*bs+2*bs) =(X.length:Int)+2*bs+2*bs:=W_id (by omega) (by omega);rw[zja,w1,w3,w4];by_cases h:2*bs<=Y.length
  .rw[if_pos (by simp;omega)];obtain⟨B1,r,rfl,h1,s1,hr,hne⟩:=hR.big (by omega);simp only[w0d] at hl hn h;obtain⟨B2,Z,rfl,h2,s2,hZ⟩:∃B2 Z,r=B2++Z/\B2.length=bs/\Srt lt B2/\Runs lt bs Z:=by
    by_cases q:r.length=bs
    .exact⟨r,[],by simp,q,hr.small (by omega),.last (by simp) List.Pairwise.nil⟩
    .obtain⟨b,r',e,q1,q2,q3,_⟩:=hr.big (by omega);exact⟨b,r',e,q1,q2,q3⟩
   simp only[w0d] at hl hn h;obtain⟨R,r1,r2,r3⟩:=zv4 hs hy φ φ X B1 B2 Z (λz hz=>hD z (by simp[hz])) (λz hz=>hD z (by simp[hz])) s1 s2 (by intro e;subst e;simp at h1;omega) (by intro e;subst e;simp at h2;omega) (by omega) (by omega) (by omega);have hRl:R.length=2*bs:=by rw[r2.len];simp;omega
   have e1:X++(B1++(B2++Z))=X++B1++B2++Z:=by simp
   have e2 :(X.length:Int)+bs =(X.length:Int)+B1.length:=by omega
   have e3 :(X.length:Int)+2*bs =(X.length:Int)+B1.length+B2.length:=by omega
   have e4 :(X.length:Int)+2*bs =((X++R).length:Nat):=by simp;omega
   obtain⟨Y',p1,p2,p3⟩:=ih (X++R) Z (λz hz=>hD z (by simp[hz])) hZ (by simp;omega) (by omega);refine⟨R++Y',.cons (by omega) r1 p1,?_,?_⟩
   .have:=r2.app p2
    simpa using this
   .rw[e1]
    conv=>lhs;arg 1;rw[e2,e3]
    rw[r3];simp only[w04];rw[e4,p3];simp
  .rw[if_neg (by simp;omega)];rw[w2];by_cases q:bs<Y.length
   .rw[if_pos (by simp;omega)];obtain⟨B1,B2,rfl,h1,s1,hr,hne⟩:=hR.big q;simp only[w0d] at hl hn h;obtain⟨R,r1,r2,r3⟩:=zv4 hs hy φ φ X B1 B2 [] (λz hz=>hD z (by simp[hz])) (λz hz=>hD z (by simp[hz])) s1 (hr.small (by omega)) (by intro e;subst e;simp at h1;omega) hne (by simp;omega) (by omega) (by omega);have e1:X++(B1++B2)=X++B1++B2++[]:=by simp
    have e2 :(X.length:Int)+bs =(X.length:Int)+B1.length:=by omega
    have e3 :(N:Int) =(X.length:Int)+B1.length+B2.length:=by omega
    refine⟨R,.last (by rw[r2.len];simp;omega) r1,r2,?_⟩;rw[e1,e2,e3,r3];simp
   .rw[if_neg (by simp;omega)];exact⟨Y,.last (by omega) (hR.small (by omega)),Stb.refl _,rfl⟩
theorem ycq(hs:Swo lt)(hy:Cmp D y lt)(φ N:Nat)(hN:N<=400000)(hφ:2*N+3<φ):
  ∀(n bs:Nat)(Y:List α),(∀z∈Y,D z)->Runs lt bs Y->Y.length=N->0<bs->bs<=900000->N-bs<n->
  ∃Y',Srt lt Y'/\Stb lt Y Y'/\z9f φ n (N:Int) y (bs:Int) Y=some Y':=by
 intro n
 induction n with
 |zero=>intro bs Y _ _ _ _ _ h;omega
 |succ n ih=>
  intro bs Y hD hR hl hb0 hb hn;rw[z9f];by_cases h:bs<N
  .rw[if_pos (by simp;omega),W_id (x:=2*(bs:Int)) (by omega) (by omega)];obtain⟨Y',p1,p2,p3⟩:=yh5 hs hy φ N bs (z9f φ n) (by omega) hφ hb0 hb φ [] Y hD hR (by simpa using hl) (by omega);obtain⟨Y'',q1,q2,q3⟩:=ih (bs*2) Y' (λz hz=>hD z (p2.mem.1 hz)) p1 (by rw[p2.len,hl]) (by omega) (by omega) (by omega);refine⟨Y'',q1,p2.trans q2,?_⟩;rw[<- q3];simpa using p3
  .rw[if_neg (by simp;omega)];exact⟨Y,hR.small (by omega),Stb.refl _,rfl⟩
theorem zzd(hs:Swo lt)(hy:Cmp D y lt)(φ:Nat)(v:List α)(hD:∀z∈v,D z)(hN:v.length<=400000)(hφ:2*v.length+3<φ):
  ∃r,Srt lt r/\Stb lt v r/\ycs φ v y=some r:=by
 unfold ycs yff;obtain⟨Y1,Y2,Y1',q1,q2,q3,q4,q5,q6⟩:=y0s hs hy φ v.length (by omega) (by omega) φ [] v hD (by simp) (by omega);have q6':zg9 φ φ (v.length:Int) y 20 0 20 v =((gins φ (Y1'++Y2) (Y1.length:Int) (v.length:Int) y).bind λy12=>z9f φ φ (v.length:Int) y 20 y12):=by simpa using q6
 rw[q6'];have hl:v.length=Y1.length+Y2.length:=by rw[q1];simp
 have hl1:Y1'.length=Y1.length:=q4.len;obtain⟨Y2',p1,p2,p3⟩:=y3x hs hy φ Y1' Y2 [] (λz hz=>hD z (by rw[q1];simp[hz])) (by simp;omega) (by omega);simp only[w0b] at p3;have e1 :(Y1.length:Int)=Y1'.length:=by omega
 have e2 :(v.length:Int) =(Y1'.length:Int)+Y2.length:=by omega
 have p3':gins φ (Y1'++Y2) (Y1.length:Int) (v.length:Int) y=some (Y1'++Y2'):=by rw[e1,e2];exact p3
 have hst:Stb lt v (Y1'++Y2'):=by rw[q1];exact q4.app p2
 obtain⟨r,r1,r2,r3⟩:=ycq hs hy φ v.length hN hφ φ 20 (Y1'++Y2') (λz hz=>hD z (hst.mem.1 hz)) (q5 _ (.last (by rw[p2.len];omega) p1)) hst.len (by omega) (by omega) (by omega);refine⟨r,r1,hst.trans r2,?_⟩;rw[p3'];simp only[w04];have r3':z9f φ φ (v.length:Int) y 20 (Y1'++Y2')=some r:=r3;rw[r3'];rfl
end
end Px
end
section
namespace Px
open Go
set_option maxRecDepth 100000
theorem zus{n b:Nat}(h:n<=100000)(hb:b<=1000):fits n b:=by unfold fits;exact w26 (Nat.mul_le_mul h hb) (by omega)
theorem y0e(φ:Nat)(v:List z6)(y:z6->z6->Option Int):z0p φ v y=ycs φ v y:=by kernel_rfl
def y93(a b:Ref):Bool:=decide (a.railway<b.railway)||(decide (a.railway=b.railway)&&decide (a.no<b.no))
def zql(a b:z6):Bool:=decide (a.item.to<b.item.to)||(decide (a.item.to=b.item.to)&&y93 a.ref b.ref)
theorem zvf{a b:Ref}: y93 a b=true↔a.railway<b.railway\/(a.railway=b.railway/\a.no<b.no):=by simp[y93]
theorem zoz{a b:z6}: zql a b=true↔a.item.to<b.item.to\/(a.item.to=b.item.to/\(a.ref.railway<b.ref.railway\/(a.ref.railway=b.ref.railway/\a.ref.no<b.ref.no))):=by simp[zql,zvf]
theorem zzp{a b:z6}: zql a b=false↔¬(a.item.to<b.item.to\/(a.item.to=b.item.to/\(a.ref.railway<b.ref.railway\/(a.ref.railway=b.ref.railway/\a.ref.no<b.ref.no)))):=by rw[<- zoz];simp
theorem zgs:Swo zql where
 asym:=λa b h=>by rw[zzp];rw[zoz] at h;omega
 ntr:=λa b c h1 h2=>by rw[zzp] at *;omega
theorem yeu{α:Type}{lt:α->α->Bool}(h:Swo lt):Sort.SWO lt where
 irrefl:=λa=>h.irr a
 trans:=λa b c h1 h2=>by
  cases h3:lt a c with
  |true=>rfl
  |false=>have h4:=h.asym _ _ h2;rw[h.ntr a c b h3 h4] at h1;cases h1
 ntrans:=λa b c h1 h2=>h.ntr a b c h1 h2
theorem y7k(φ:Nat)(h:3<=φ)(a b:z6):zcr φ a b=some (or2 (cmpI a.ref.railway b.ref.railway) (cmpI a.ref.no b.ref.no),()):=by unfold zcr;simp only[zgv,w04];rw[yge φ h];rfl
theorem yc6(φ:Nat)(h:3<=φ):Cmp (λ_=>True) (λa b=>(z3z φ a b).bind λr=>(some r.1)) zql:=by
 intro a b _ _;refine⟨or2 (cmpI a.item.to b.item.to) (or2 (cmpI a.ref.railway b.ref.railway) (cmpI a.ref.no b.ref.no)),?_,?_⟩
 .simp only[z3z,zgv,y7k φ h,w04];rw[yge φ h];rfl
 .rw[w2n,decide_eq_true_eq,zrh,zrh,ze6,ze6,ze6,zkg,zkg,zoz]
section
variable{α:Type}{lt:α->α->Bool}
theorem yci(hs:Swo lt){a x y:α}(h1:eqv2 lt a x=true)(h2:eqv2 lt a y=true):lt y x=false:=by simp only[eqv2,w03,w0z] at h1 h2;exact hs.ntr y a x h2.2 h1.1
theorem zzg(hs:Swo lt)(a x:α):∀r:List α,(insL lt x r).filter (eqv2 lt a) =(x::r).filter (eqv2 lt a)
 | []=>rfl
 |y::r=>by
  simp only[insL];cases h:lt y x with
  |false=>rfl
  |true=>simp only[cond_true];rw[w1o,zzg hs a x r];cases h1:eqv2 lt a x<;>cases h2:eqv2 lt a y<;>simp[w1o,h1,h2];rw[yci hs h1 h2] at h;cases h
theorem zjd(hs:Swo lt):∀l:List α,Stb lt l (zdr lt l)
 | []=>Stb.refl _
 |x::l=>by refine⟨z16 _ _,λa=>?_⟩;show (insL lt x (zdr lt l)).filter _=_;rw[zzg hs,w1o,w1o,(zjd hs l).2 a]
theorem zot(hs:Swo lt)(l:List α):Srt lt (zdr lt l):=z52 (yeu hs) l
theorem zk1(hs:Swo lt){l r:List α}(h1:Srt lt r)(h2:Stb lt l r):r=zdr lt l:=by refine Srt.unique hs h1 (zot hs l) ⟨(z16 _ _).trans h2.1.symm,λa=>?_⟩;rw[(zjd hs l).2 a,h2.2 a]
end
def zos(at_:Int)(r:z6):Bool:=((r.item.kind:Int)==9)&&decide ((r.item.to:Int)<=at_)
def hist(l:List z6)(at_:Int):List z6:=zdr zql (l.filter (zos at_))
theorem zzf(l:List z6)(at_:Int):(hist l at_).length<=l.length:=by unfold hist;rw[(z16 _ _).length_eq];exact List.length_filter_le _ _
theorem zne{l:List z6}{at_:Int}{r:z6}: r∈hist l at_↔r∈l/\zos at_ r=true:=by unfold hist;rw[(z16 _ _).mem_iff,w0i]
abbrev Cmps:=List (z7×List (Int×Bool))
def ofP(p:Part):z7:=⟨p.kind,p.serial⟩
def zpw(w:Int)(M:Cmps)(p:Part):Cmps:=
 if p.fitted=false then(match cget z4i M (ofP p) with
  |some s=>cset z4i M (ofP p) (cdel kl_0 s w)
  |none=>M)
 else(match cget z4i M (ofP p) with
  |some s=>cset z4i M (ofP p) (cset kl_0 s w true)
  |none=>cset z4i (cset z4i M (ofP p) (default:List (Int×Bool))) (ofP p) (cset kl_0 ([]:List (Int×Bool)) w true))
def zye(M:Cmps)(r:z6):Cmps:=r.item.parts.foldl (zpw r.item.wagon) M
def zty(rs:List z6):Cmps:=rs.foldl zye []
theorem zx9{α:Type}(p:α->Bool)(l:List α):∀acc:List α,l.foldl (λs r=>if p r=true then s++[r] else s) acc=acc++l.filter p:=by
 induction l with
 |nil=>intro acc;simp
 |cons a l ih=>intro acc;rw[w2f,ih,w1o];cases p a<;>simp
theorem znr(φ:Nat)(k14)(at1 i1:Int)(r:z6)(rs:List z6)(hp:r.item.parts.length<=1000)(n:Nat)(hn:r.item.parts.length<n)(M:Cmps):
  z02 φ k14 n at1 i1 r.item.parts (r.item.parts.length:Int) 0 M r rs=k14 at1 (W (i1+1)) (zye M r) rs:=by
 refine(zgi (λn i M=>z02 φ k14 n at1 i1 r.item.parts (r.item.parts.length:Int) i M r rs) (λM=>k14 at1 (W (i1+1)) M rs) r.item.parts (zpw r.item.wagon) (λ_ _=>True) ?_ ?_ n M trivial hn).1
 .intro n i M hi _;refine⟨?_,trivial⟩;rw[z02,if_pos (by simp;omega),zg ⟨by omega,by omega⟩,W_id (x:=(i:Int)+1) (by omega) (by omega)];simp only[zdw,w04];show _=z02 φ k14 n at1 i1 r.item.parts (r.item.parts.length:Int) ((i:Int)+1) (zpw r.item.wagon M (gt r.item.parts (i:Int))) r rs;unfold zpw ofP;cases hf :(gt r.item.parts (i:Int)).fitted with
  |false=>
   simp only[w3f,if_true];cases hc:cget z4i M (⟨(gt r.item.parts (i:Int)).kind,(gt r.item.parts (i:Int)).serial⟩:z7) with
   |none=>simp[ck,rg,rg]
   |some s=>simp[ck,rg,rg]
  |true=>
   simp only[w2o,w0q,if_false];cases hc:cget z4i M (⟨(gt r.item.parts (i:Int)).kind,(gt r.item.parts (i:Int)).serial⟩:z7) with
   |none=>simp[ck,rg,rg]
   |some s=>simp[ck,rg,rg]
 .intro n M _;rw[z02,if_neg (by simp)]
theorem znq(φ:Nat)(hφ:1000<φ)(rs:List z6)(hl:rs.length<=1000)(hp:∀r∈rs,r.item.parts.length<=1000)(n:Nat)(hn:rs.length<n):
  z0n φ n (rs.length:Int) 0 [] rs=some (zty rs,()):=by
 refine(zgi (λn i M=>z0n φ n (rs.length:Int) i M rs) (λM=>some (M,())) rs zye (λ_ _=>True) ?_ ?_ n [] trivial hn).1
 .intro n i M hi _;refine⟨?_,trivial⟩;rw[z0n,if_pos (by simp;omega),zg ⟨by omega,by omega⟩];have hg:=zf5 (l:=rs) (i:=(i:Int)) (by omega) (by omega);rw[znr φ _ _ _ _ rs (hp _ hg) φ (by have:=hp _ hg;omega),W_id (x:=(i:Int)+1) (by omega) (by omega)]
 .intro n M _;rw[z0n,if_neg (by simp)]
theorem zwt(φ:Nat)(hφ:10000<φ)(l:List z6)(at_:Int)(hl:l.length<=1000)(hp:∀r∈l,r.item.parts.length<=1000):z3y φ l at_=some (zty (hist l at_),()):=by
 unfold z3y;refine(zgi (λn i acc=>z1g φ n at_ l (l.length:Int) i acc) (λacc=>(z0p φ acc (λa b=>(z3z φ a b).bind λr=>(some r.1))).bind λy9=>(z0n φ φ (y9.length:Int) 0 (([] :(List (z7×(List (Int×Bool)))))) y9)) l (λs r=>if zos at_ r=true then s++[r] else s) (λi s=>s.length<=i) ?_ ?_ φ [] (by simp) (by omega)).1.trans ?_
 .intro n i acc hi ha;refine⟨?_,?_⟩
  .rw[z1g,if_pos (by simp;omega),zg ⟨by omega,by omega⟩,W_id (x:=(i:Int)+1) (by omega) (by omega)];show (if zos at_ (gt l (i:Int))=true then _ else _)=_;cases h:zos at_ (gt l (i:Int)) with
   |false=>simp
   |true=>simp only[if_true];rw[zg (zus (by simp;omega) (by omega))]
  .show (if zos at_ (gt l (i:Int))=true then _ else _:List z6).length<=_;split
   .simp;omega
   .omega
 .intro n acc _;rw[z1g,if_neg (by simp)]
 .rw[zx9,w2u,y0e];have hfl :(l.filter (zos at_)).length<=1000:=w26 (List.length_filter_le _ _) hl;obtain⟨r,h1,h2,h3⟩:=zzd zgs (yc6 φ (by omega)) φ (l.filter (zos at_)) (λ_ _=>trivial) (by omega) (by omega);have hr:r=hist l at_:=zk1 zgs h1 h2;subst hr;rw[h3,w04];have hlen:=zzf l at_;exact znq φ (by omega) _ (by omega) (λr hr=>hp r (zne.1 hr).1) φ (by omega)
end Px
end
section
namespace Px
open Go
set_option maxRecDepth 100000
def ltT(a b:z6):Bool:=decide (a.item.from_<b.item.from_)||(decide (a.item.from_=b.item.from_)&&y93 a.ref b.ref)
theorem zxn{a b:z6}: ltT a b=true↔a.item.from_<b.item.from_\/(a.item.from_=b.item.from_/\(a.ref.railway<b.ref.railway\/(a.ref.railway=b.ref.railway/\a.ref.no<b.ref.no))):=by simp[ltT,zvf]
theorem yb4{a b:z6}: ltT a b=false↔¬(a.item.from_<b.item.from_\/(a.item.from_=b.item.from_/\(a.ref.railway<b.ref.railway\/(a.ref.railway=b.ref.railway/\a.ref.no<b.ref.no)))):=by rw[<- zxn];simp
theorem zpz:Swo ltT where
 asym:=λa b h=>by rw[yb4];rw[zxn] at h;omega
 ntr:=λa b c h1 h2=>by rw[yb4] at *;omega
theorem yh2(φ:Nat)(h:6<=φ):Cmp (λ_=>True) (λa b=>(z4e φ a b).bind λr=>(some r.1)) ltT:=by
 intro a b _ _;refine⟨or2 (cmpI a.item.from_ b.item.from_) (or2 (cmpI a.ref.railway b.ref.railway) (cmpI a.ref.no b.ref.no)),?_,?_⟩
 .simp only[z4e,zgv,w04];rw[ybd φ h];rfl
 .rw[w2n,decide_eq_true_eq,zrh,zrh,ze6,ze6,ze6,zkg,zkg,zxn]
def sT(l:List z6):List z6:=zdr ltT l
theorem ygm(l:List z6):(sT l).length=l.length:=(z16 _ _).length_eq
theorem ybg{l:List z6}{r:z6}: r∈sT l↔r∈l:=(z16 _ _).mem_iff
theorem ygr(φ:Nat)(hφ:5000<φ)(l:List z6)(hl:l.length<=1000):z0p φ l (λa b=>(z4e φ a b).bind λr=>(some r.1))=some (sT l):=by rw[y0e];obtain⟨r,h1,h2,h3⟩:=zzd zpz (yh2 φ (by omega)) φ l (λ_ _=>trivial) (by omega) (by omega);rw[h3,zk1 zpz h1 h2];rfl
theorem zvv(q:z6->Bool)(L:List z6):(sT L).filter q=sT (L.filter q):=by
 refine zk1 zpz ((zot zpz L).filter q) ⟨(z16 ltT L).filter q,λa=>?_⟩;have h:=(zjd zpz L).2 a;rw[List.filter_filter,List.filter_filter];have e:∀M:List z6,M.filter (λx=>eqv2 ltT a x&&q x) =(M.filter (eqv2 ltT a)).filter q:=λM=>by rw[List.filter_filter];exact w2c λx _=>Bool.and_comm _ _
 show (sT L).filter (λx=>eqv2 ltT a x&&q x)=L.filter (λx=>eqv2 ltT a x&&q x);rw[e,e];exact congrArg (List.filter q) h
def yh8(at_:Int)(r:z6):Bool:=((r.item.kind:Int)==15)&&decide ((at_:Int)<=r.item.to)
def ordR(r:z6):z17:=⟨r.item.number,r.item.class_,r.item.place,r.item.from_,r.item.to,r.item.weight,r.item.amount⟩
def wanted(l:List z6)(at_:Int):List z17:=(sT (l.filter (yh8 at_))).map ordR
end Px
end
section
namespace Px
open Go
set_option maxRecDepth 100000
abbrev StkM:=List (zc×Int)
theorem zzl{a b:zc}(h:zkz a=zkz b):a=b:=by obtain⟨a1,a2,a3⟩:=a;obtain⟨b1,b2,b3⟩:=b;have h : [a1,a2,a3] = [b1,b2,b3]:=h;cases h;rfl
instance:DecidableEq zc:=λa b=>decidable_of_iff (a.kind=b.kind/\a.class_=b.class_/\a.place=b.place) ⟨λh=>by cases a;cases b;cases h.1;cases h.2.1;cases h.2.2;rfl,λh=>by rw[h];exact⟨rfl,rfl,rfl⟩⟩
def cntK(ks:List zc)(k:zc):Nat:=(ks.filter (λx=>decide (x=k))).length
def incK(m:StkM)(k:zc):StkM:=cset zkz m k (W ((cget zkz m k).getD (default:Int)+1))
theorem y2t(ks:List zc)(k:zc):cntK ks k<=ks.length:=List.length_filter_le _ _
theorem y2u(ks:List zc)(k k':zc):cntK (ks++[k]) k'=cntK ks k'+if k=k' then 1 else 0:=by unfold cntK;rw[w1g,w0d];by_cases h:k=k'<;>simp[w1o,h]
structure zq5(ks:List zc)(m:StkM):Prop where
 srt:Srt' zkz m
 get:∀k,cget zkz m k=if cntK ks k=0 then none else some (cntK ks k:Int)
theorem zq5.nil:zq5 [] []:=⟨List.Pairwise.nil,λk=>rfl⟩
theorem zq5.inc{ks:List zc}{m:StkM}(h:zq5 ks m)(k:zc)(hl:ks.length<=100000):zq5 (ks++[k]) (incK m k) where
 srt:=h.srt.set _ _
 get:=λk'=>by
  have hle:=y2t ks k;have hv:W ((cget zkz m k).getD (default:Int)+1) =(cntK ks k:Int)+1:=by
   rw[h.get k];by_cases e:cntK ks k=0
   .rw[if_pos e,e];show W (0+1)=_;rw[W_id (by omega) (by omega)];rfl
   .rw[if_neg e];show W ((cntK ks k:Int)+1)=_;rw[W_id (by omega) (by omega)]
  unfold incK;rw[zs2 h.srt,hv,y2u];by_cases e:k=k'
  .subst e;simp
  .have :(zkz k'==zkz k)=false:=by rw[beq_eq_false_iff_ne];exact λq=>e (zzl q).symm
   rw[this,if_neg e,cond_false,h.get k'];rfl
theorem zq5.mem{ks:List zc}{m:StkM}(h:zq5 ks m)(k:zc)(c:Int):(k,c)∈m↔c =(cntK ks k:Int)/\1<=c:=by
 constructor
 .intro hm;have h1:=znt h.srt.ndp hm rfl;rw[h.get k] at h1;split at h1
  .cases h1
  .have:=w0c h1;omega
 .rintro⟨e,h1⟩;have h2:=h.get k;rw[if_neg (by omega),<- e] at h2;obtain⟨a,ha,hk⟩:=zab h2;rw[zzl hk];exact ha
def supE(at_:Int)(e:zc×Int):zf:=⟨e.1.kind,e.1.class_,e.1.place,at_,e.2⟩
def keyS(x:zf):zc:=⟨x.type_,x.class_,x.place⟩
theorem yb0{a b:zf}: keyS a=keyS b↔¬z9p a b<0/\¬z9p b a<0:=by
 rw[z6x,z6x];constructor
 .intro h;have h1:=congrArg zc.kind h;have h2:=congrArg zc.class_ h;have h3:=congrArg zc.place h;simp only[keyS] at h1 h2 h3;omega
 .intro h;have h1:a.type_=b.type_:=by omega
  have h2:a.class_=b.class_:=by omega
  have h3:a.place=b.place:=by omega
  unfold keyS;rw[h1,h2,h3]
theorem yf0(a:zf):¬z9p a a<0:=by rw[z6x];omega
theorem yh1{a b c:zf}(h:z9p a b<0)(k:z9p b c<0):z9p a c<0:=by rw[z6x] at *;omega
structure zq6(at_:Int)(ks:List zc)(out:List zf):Prop where
 srt:out.Pairwise λa b=>z9p a b<0
 mem:∀x,x∈out↔x.at_=at_/\x.count =(cntK ks (keyS x):Int)/\1<=x.count
theorem ztl{at_:Int}{ks:List zc}{m:StkM}(h:zq5 ks m)(hl:m.length<=100000):∃out,zln (m.map (supE at_))=some out/\zq6 at_ ks out:=by
 have hd :(m.map (supE at_)).Pairwise λa b=>z9p a b<0\/z9p b a<0:=by
  refine w2s.2 (h.srt.ndp.imp λ{a b}hn=>?_);by_cases e:keyS (supE at_ a)=keyS (supE at_ b)
  .exact absurd (congrArg zkz (show a.1=b.1 from e)) hn
  .rw[yb0] at e;omega
 have hs:Sort.SWO (λa b:zf=>decide (z9p a b<0)):=⟨λa=>by simpa using yf0 a,λa b c h1 h2=>by simp at *;exact yh1 h1 h2,λa b c h1 h2=>by simp only[decide_eq_false_iff_not] at *;rw[z6x] at *;omega⟩;refine⟨zdr (λa b=>decide (z9p a b<0)) (m.map (supE at_)),y0c (λ_ _=>rfl) (by simp;omega) hd,?_,λx=>?_⟩
 .have h1:=z52 hs (m.map (supE at_));have h2 :(zdr (λa b=>decide (z9p a b<0)) (m.map (supE at_))).Pairwise λa b=>z9p a b<0\/z9p b a<0:=((z16 _ _).pairwise_iff (λ{a b}h=>h.symm)).2 hd
  refine(h1.and h2).imp λ{a b} ⟨q1,q2⟩=>?_
  simp only[decide_eq_false_iff_not] at q1;exact q2.resolve_right q1
 .rw[(z16 _ _).mem_iff,w0a];constructor
  .rintro⟨⟨k,c⟩,hm,rfl⟩;obtain⟨q1,q2⟩:=(h.mem k c).1 hm;exact⟨rfl,q1,q2⟩
  .rintro⟨q1,q2,q3⟩;refine⟨(keyS x,x.count),(h.mem _ _).2 ⟨q2,q3⟩,?_⟩;subst q1;rfl
theorem zni(φ:Nat)(at_:Int):∀(m:StkM)(n:Nat)(acc:List zf),m.length<n->acc.length+m.length<=10000->zq φ n at_ acc m =(zln (acc++m.map (supE at_))).bind λy=>some (y,0,())
 | [],n,acc,hn,hl=>by obtain⟨n,rfl⟩:∃k,n=k+1:=⟨n-1,by simp at hn;omega⟩;rw[zq,z0e];simp
 |e::m,n,acc,hn,hl=>by obtain⟨n,rfl⟩:∃k,n=k+1:=⟨n-1,by simp at hn;omega⟩;rw[zq,z0e];simp only[w0k] at hn hl;rw[zg (zus (by simp;omega) (by omega)),zni φ at_ m n _ (by omega) (by simp;omega),w0e,<- List.append_cons];rfl
end Px
end
