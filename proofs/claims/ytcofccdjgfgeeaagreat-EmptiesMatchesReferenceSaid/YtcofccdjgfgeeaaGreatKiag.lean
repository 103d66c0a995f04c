/- A part of the proof of emptiesMatchesReference_holds. Conditions: none. -/
import Derived.Test.YtcofccdjgfgeeaaGreatKiaf
import Derived.Test.YtcofccdjgfgeeaaGreatProg
import Derived.Ground.SlsfProg
import Derived.Ground.NamesProg
import Derived.Shelf.SlIterI.Nil
import Derived.Ground.GgzProg
import Derived.KernelRfl
set_option linter.unusedVariables false
set_option linter.unusedSimpArgs false
section
namespace Go.Proofs
open Go.Shelf
def Tryz.sortEv_ren:Go.Shelf.Ren:=⟨fun|6=>38|15=>81|14=>80|28=>129|29=>130|20=>121|21=>122|22=>123|23=>124|24=>125|25=>126|26=>127|27=>128|46=>166|47=>167|48=>168|49=>169|50=>170|57=>194|n=>n,fun|22=>37|24=>64|25=>107|3=>3|39=>175|0=>0|53=>216|55=>130|4=>4|46=>210|45=>209|50=>120|5=>5|9=>9|66=>245|70=>191|76=>268|77=>269|n=>n,fun|n=>n⟩
theorem Tryz.sortEv:Go.Proofs.SlLaysF0.n6 Tryz.prog Tryz.sortEv_ren:={
 mixed:=by kernel_rfl
 f6:=⟨Tryz.f38.name,by decide,Tryz.func38.trans (congrArg some (by kernel_rfl))⟩
 f14:=⟨Tryz.f80.name,by decide,Tryz.func80.trans (congrArg some (by kernel_rfl))⟩
 f15:=Tryz.func81.trans (congrArg some (by kernel_rfl))
 f20:=⟨Tryz.f121.name,by decide,Tryz.func121.trans (congrArg some (by kernel_rfl))⟩
 f21:=⟨Tryz.f122.name,by decide,Tryz.func122.trans (congrArg some (by kernel_rfl))⟩
 f22:=⟨Tryz.f123.name,by decide,Tryz.func123.trans (congrArg some (by kernel_rfl))⟩
 f23:=⟨Tryz.f124.name,by decide,Tryz.func124.trans (congrArg some (by kernel_rfl))⟩
 f24:=⟨Tryz.f125.name,by decide,Tryz.func125.trans (congrArg some (by kernel_rfl))⟩
 f25:=⟨Tryz.f126.name,by decide,Tryz.func126.trans (congrArg some (by kernel_rfl))⟩
 f26:=⟨Tryz.f127.name,by decide,Tryz.func127.trans (congrArg some (by kernel_rfl))⟩
 f27:=⟨Tryz.f128.name,by decide,Tryz.func128.trans (congrArg some (by kernel_rfl))⟩
 f28:=Tryz.func129.trans (congrArg some (by kernel_rfl))
 f29:=Tryz.func130.trans (congrArg some (by kernel_rfl))
 f46:=⟨Tryz.f166.name,by decide,Tryz.func166.trans (congrArg some (by kernel_rfl))⟩
 f47:=Tryz.func167.trans (congrArg some (by kernel_rfl))
 f48:=Tryz.func168.trans (congrArg some (by kernel_rfl))
 f49:=⟨Tryz.f169.name,by decide,Tryz.func169.trans (congrArg some (by kernel_rfl))⟩
 f50:=⟨Tryz.f170.name,by decide,Tryz.func170.trans (congrArg some (by kernel_rfl))⟩
 f57:=⟨Tryz.f194.name,by decide,Tryz.func194.trans (congrArg some (by kernel_rfl))⟩
 t0:=Tryz.underlying0
 a0:=Tryz.isAgg0
 z0:=Tryz.sizeOf0
 v0:=Tryz.zeroValue0
 t3:=Tryz.underlying3
 a3:=Tryz.isAgg3
 z3:=Tryz.sizeOf3
 v3:=Tryz.zeroValue3
 t4:=Tryz.underlying4
 a4:=Tryz.isAgg4
 z4:=Tryz.sizeOf4
 v4:=Tryz.zeroValue4
 t5:=Tryz.underlying5
 a5:=Tryz.isAgg5
 z5:=Tryz.sizeOf5
 v5:=Tryz.zeroValue5
 t9:=Tryz.underlying9
 a9:=Tryz.isAgg9
 z9:=Tryz.sizeOf9
 v9:=Tryz.zeroValue9
 t22:=Tryz.underlying37
 a22:=Tryz.isAgg37
 z22:=Tryz.sizeOf37
 v22:=Tryz.zeroValue37
 t25:=Tryz.underlying107
 a25:=Tryz.isAgg107
 z25:=Tryz.sizeOf107
 v25:=Tryz.zeroValue107
 t39:=Tryz.underlying175
 a39:=Tryz.isAgg175
 z39:=Tryz.sizeOf175
 v39:=Tryz.zeroValue175
 t45:=Tryz.underlying209
 a45:=Tryz.isAgg209
 z45:=Tryz.sizeOf209
 v45:=Tryz.zeroValue209
 t46:=Tryz.underlying210
 a46:=Tryz.isAgg210
 z46:=Tryz.sizeOf210
 v46:=Tryz.zeroValue210
 t50:=Tryz.underlying120
 a50:=Tryz.isAgg120
 z50:=Tryz.sizeOf120
 v50:=Tryz.zeroValue120
 t53:=Tryz.underlying216
 a53:=Tryz.isAgg216
 z53:=Tryz.sizeOf216
 v53:=Tryz.zeroValue216
 t55:=Tryz.underlying130
 a55:=Tryz.isAgg130
 z55:=Tryz.sizeOf130
 v55:=Tryz.zeroValue130
 t66:=Tryz.underlying245
 a66:=Tryz.isAgg245
 z66:=Tryz.sizeOf245
 v66:=Tryz.zeroValue245
 t70:=Tryz.underlying191
 a70:=Tryz.isAgg191
 z70:=Tryz.sizeOf191
 v70:=Tryz.zeroValue191
 t76:=Tryz.underlying268
 a76:=Tryz.isAgg268
 z76:=Tryz.sizeOf268
 v76:=Tryz.zeroValue268
 t77:=Tryz.underlying269
 a77:=Tryz.isAgg269
 z77:=Tryz.sizeOf269
 v77:=Tryz.zeroValue269 }
def Tryz.lays189_ren:Go.Shelf.Ren:=⟨fun|189=>111|125=>81|257=>162|128=>129|129=>130|294=>180|295=>181|296=>182|297=>183|298=>184|299=>185|216=>186|300=>187|301=>188|328=>195|329=>167|330=>168|331=>196|332=>197|215=>82|343=>200|n=>n,fun|28=>40|3=>3|46=>175|0=>0|51=>216|53=>130|4=>4|183=>210|182=>209|131=>120|5=>5|9=>9|218=>245|222=>191|228=>268|229=>269|n=>n,fun|n=>n⟩
theorem Tryz.lays189:Go.Proofs.Lays.n189 Tryz.prog Tryz.lays189_ren:={
 mixed:=by kernel_rfl
 f125:=Tryz.func81.trans (congrArg some (by kernel_rfl))
 f128:=Tryz.func129.trans (congrArg some (by kernel_rfl))
 f129:=Tryz.func130.trans (congrArg some (by kernel_rfl))
 f189:=Tryz.func111.trans (congrArg some (by kernel_rfl))
 f215:=Tryz.func82.trans (congrArg some (by kernel_rfl))
 f216:=Tryz.func186.trans (congrArg some (by kernel_rfl))
 f257:=Tryz.func162.trans (congrArg some (by kernel_rfl))
 f294:=Tryz.func180.trans (congrArg some (by kernel_rfl))
 f295:=Tryz.func181.trans (congrArg some (by kernel_rfl))
 f296:=Tryz.func182.trans (congrArg some (by kernel_rfl))
 f297:=Tryz.func183.trans (congrArg some (by kernel_rfl))
 f298:=Tryz.func184.trans (congrArg some (by kernel_rfl))
 f299:=Tryz.func185.trans (congrArg some (by kernel_rfl))
 f300:=Tryz.func187.trans (congrArg some (by kernel_rfl))
 f301:=Tryz.func188.trans (congrArg some (by kernel_rfl))
 f328:=Tryz.func195.trans (congrArg some (by kernel_rfl))
 f329:=Tryz.func167.trans (congrArg some (by kernel_rfl))
 f330:=Tryz.func168.trans (congrArg some (by kernel_rfl))
 f331:=Tryz.func196.trans (congrArg some (by kernel_rfl))
 f332:=Tryz.func197.trans (congrArg some (by kernel_rfl))
 f343:=Tryz.func200.trans (congrArg some (by kernel_rfl))
 t0:=Tryz.underlying0
 a0:=Tryz.isAgg0
 z0:=Tryz.sizeOf0
 v0:=Tryz.zeroValue0
 t3:=Tryz.underlying3
 a3:=Tryz.isAgg3
 z3:=Tryz.sizeOf3
 v3:=Tryz.zeroValue3
 t4:=Tryz.underlying4
 a4:=Tryz.isAgg4
 z4:=Tryz.sizeOf4
 v4:=Tryz.zeroValue4
 t5:=Tryz.underlying5
 a5:=Tryz.isAgg5
 z5:=Tryz.sizeOf5
 v5:=Tryz.zeroValue5
 t9:=Tryz.underlying9
 a9:=Tryz.isAgg9
 z9:=Tryz.sizeOf9
 v9:=Tryz.zeroValue9
 t28:=Tryz.underlying40
 a28:=Tryz.isAgg40
 z28:=Tryz.sizeOf40
 v28:=Tryz.zeroValue40
 t46:=Tryz.underlying175
 a46:=Tryz.isAgg175
 z46:=Tryz.sizeOf175
 v46:=Tryz.zeroValue175
 t51:=Tryz.underlying216
 a51:=Tryz.isAgg216
 z51:=Tryz.sizeOf216
 v51:=Tryz.zeroValue216
 t53:=Tryz.underlying130
 a53:=Tryz.isAgg130
 z53:=Tryz.sizeOf130
 v53:=Tryz.zeroValue130
 t131:=Tryz.underlying120
 a131:=Tryz.isAgg120
 z131:=Tryz.sizeOf120
 v131:=Tryz.zeroValue120
 t182:=Tryz.underlying209
 a182:=Tryz.isAgg209
 z182:=Tryz.sizeOf209
 v182:=Tryz.zeroValue209
 t183:=Tryz.underlying210
 a183:=Tryz.isAgg210
 z183:=Tryz.sizeOf210
 v183:=Tryz.zeroValue210
 t218:=Tryz.underlying245
 a218:=Tryz.isAgg245
 z218:=Tryz.sizeOf245
 v218:=Tryz.zeroValue245
 t222:=Tryz.underlying191
 a222:=Tryz.isAgg191
 z222:=Tryz.sizeOf191
 v222:=Tryz.zeroValue191
 t228:=Tryz.underlying268
 a228:=Tryz.isAgg268
 z228:=Tryz.sizeOf268
 v228:=Tryz.zeroValue268
 t229:=Tryz.underlying269
 a229:=Tryz.isAgg269
 z229:=Tryz.sizeOf269
 v229:=Tryz.zeroValue269 }
def Tryz.sortedK_ren:Go.Shelf.Ren:=⟨fun|6=>63|8=>110|9=>111|11=>161|13=>81|12=>162|23=>129|24=>130|14=>180|15=>181|16=>182|17=>183|18=>184|19=>185|20=>186|21=>187|22=>188|25=>195|26=>167|27=>168|28=>196|29=>197|30=>82|31=>200|n=>n,fun|26=>3|28=>146|24=>40|0=>0|3=>3|37=>175|48=>216|50=>130|4=>4|40=>210|39=>209|45=>120|5=>5|9=>9|51=>245|55=>191|57=>268|58=>269|33=>176|n=>n,fun|n=>n⟩
theorem Tryz.sortedK:Go.Proofs.SlLaysZI.n6 Tryz.prog Tryz.sortedK_ren:={
 mixed:=by kernel_rfl
 f6:=⟨Tryz.f63.name,by decide,Tryz.func63.trans (congrArg some (by kernel_rfl))⟩
 f8:=⟨Tryz.f110.name,by decide,Tryz.func110.trans (congrArg some (by kernel_rfl))⟩
 f11:=⟨Tryz.f161.name,by decide,Tryz.func161.trans (congrArg some (by kernel_rfl))⟩
 t0:=Tryz.underlying0
 a0:=Tryz.isAgg0
 z0:=Tryz.sizeOf0
 v0:=Tryz.zeroValue0
 t24:=Tryz.underlying40
 a24:=Tryz.isAgg40
 z24:=Tryz.sizeOf40
 v24:=Tryz.zeroValue40
 t26:=Tryz.underlying3
 a26:=Tryz.isAgg3
 z26:=Tryz.sizeOf3
 v26:=Tryz.zeroValue3
 t28:=Tryz.underlying146
 a28:=Tryz.isAgg146
 z28:=Tryz.sizeOf146
 v28:=Tryz.zeroValue146
 i26:=by kernel_rfl }
def Tryz.keysK_ren:Go.Shelf.Ren:=⟨fun|10=>112|n=>n,fun|33=>176|23=>137|0=>0|4=>4|26=>3|3=>4|n=>n,fun|n=>n⟩
theorem Tryz.keysK:Go.Proofs.SlLaysZI.n10 Tryz.prog Tryz.keysK_ren:={
 mixed:=by kernel_rfl
 f10:=⟨Tryz.f112.name,by decide,Tryz.func112.trans (congrArg some (by kernel_rfl))⟩
 t0:=Tryz.underlying0
 a0:=Tryz.isAgg0
 z0:=Tryz.sizeOf0
 v0:=Tryz.zeroValue0
 t4:=Tryz.underlying4
 a4:=Tryz.isAgg4
 z4:=Tryz.sizeOf4
 v4:=Tryz.zeroValue4
 t23:=Tryz.underlying137
 a23:=Tryz.isAgg137
 z23:=Tryz.sizeOf137
 v23:=Tryz.zeroValue137
 t26:=Tryz.underlying3
 a26:=Tryz.isAgg3
 z26:=Tryz.sizeOf3
 v26:=Tryz.zeroValue3
 t33:=Tryz.underlying176
 a33:=Tryz.isAgg176
 z33:=Tryz.sizeOf176
 v33:=Tryz.zeroValue176 }
end Go.Proofs
end
section
namespace Px
open Go
theorem y9r{σ ρ:Type}(L:Nat->Int->σ->Option ρ)(len:Nat)(d:Nat->σ->Prop)(G:Option ρ->Prop)
  (step:∀n i s,i<len->d i s->(∀s',d (i+1) s'->G (L n ((i:Int)+1) s'))->G (L (n+1) i s))
  (f:∀n s,d len s->G (L (n+1) len s)):∀n i s,i<=len->d i s->len-i<n->G (L n i s):=by
 intro n
 induction n with
 |zero=>intro i s _ _ h;omega
 |succ n u=>
  intro i s z j hn;by_cases h:i=len
  .subst h;exact f n s j
  .refine step n i s (by omega) j λs' g=>?_
   have:=u (i+1) s' (by omega) g (by omega);simpa using this
theorem zu{σ ρ:Type}(L:Nat->Int->σ->Option ρ)(len:Nat)(d:Nat->σ->Prop)(G:Option ρ->Prop)
  (step:∀n i s,i<len->d i s->(∀s',d (i+1) s'->G (L n ((i:Int)+1) s'))->G (L (n+1) i s))
  (f:∀n s,d len s->G (L (n+1) len s)) (n:Nat) (s:σ) (h:d 0 s) (g:len<n):G (L n 0 s):=by
 simpa using y9r L len d G step f n 0 s (w30 _) h (by omega)
theorem zn6(x:Int):W x=if x % 18446744073709551616 >= 9223372036854775808 then x % 18446744073709551616-18446744073709551616 else x % 18446744073709551616:=by simp[W,IntKind.wrap,IntKind.bits,IntKind.signed]
theorem y5s(x:Int):U x=x % 18446744073709551616:=by simp[U,IntKind.wrap,IntKind.bits,IntKind.signed]
theorem W_id{x:Int}(h : -9223372036854775808<=x)(d:x<=9223372036854775807):W x=x:=by rw[zn6];split<;>omega
theorem U_id{x:Int}(h:0<=x)(d:x<=18446744073709551615):U x=x:=by rw[y5s];omega
theorem zeb{α:Type}[Inhabited α](d:α->Bool)(l:List α)(i:Nat)(h:i<l.length):(l.take (i+1)).all d =((l.take i).all d&&d (gt l (i:Int))):=by rw[w32 h,w4e];simp[gt,h]
theorem zec{α:Type}[Inhabited α](ok:α->Bool)(l:List α)(i:Nat)(h:i<l.length):(l.take (i+1)).any ok =((l.take i).any ok||ok (gt l (i:Int))):=by rw[w32 h,List.any_append];simp[gt,h]
theorem z03{α:Type}[Inhabited α](l:List α)(i:Nat)(h:i<l.length):l.take (i+1)=l.take i++[gt l (i:Int)]:=by rw[w32 h];simp[gt,h]
theorem z80{α:Type}[Inhabited α]{l:List α}{i:Int}(f:0<=i)(h:i<(l.length:Int)):gt l i∈l:=by
 have d:i.toNat<l.length:=by omega
 simp[gt,d]
theorem z68{α:Type}[Inhabited α]{l:List α}{i:Nat}(h:i<l.length):gt l (i:Int)=l[i]:=by simp[gt,h]
theorem y8h{α:Type}[Inhabited α](l:List α)(i:Nat)(h:i<l.length):l.drop i=gt l (i:Int)::l.drop (i+1):=by rw[z68 h,List.getElem_cons_drop]
theorem zyb{α:Type}[Inhabited α]{l:List α}{x:α}(h:x∈l):∃i:Nat,i<l.length/\gt l (i:Int)=x:=by obtain⟨i,d,e⟩:=w3d h;exact⟨i,d,by rw[z68 d,e]⟩
theorem z0b{α:Type}[Inhabited α](l:List α)(i j:Int)(x:α)(d:0<=i)(h:i<(l.length:Int))(f:0<=j):gt (zo l i x) j=if j=i then x else gt l j:=by
 unfold gt zo;by_cases e:j=i
 .subst e;have:j.toNat<l.length:=by omega
  simp[List.getD,w2a,this]
 .have:i.toNat≠j.toNat:=by omega
  simp[List.getD,w2a,this,e]
theorem zd7{α:Type}[Inhabited α](n:Nat)(x:α)(j:Int)(d:0<=j)(h:j<n):gt (List.replicate n x) j=x:=by
 have:j.toNat<n:=by omega
 simp[gt,List.getD,w4i,this]
theorem zxx{α:Type}[Inhabited α](l m:List α)(j:Int)(h :(l.length:Int)<=j):gt (l++m) j=gt m (j-l.length):=by
 have:¬j.toNat<l.length:=by omega
 have e :(j-l.length).toNat=j.toNat-l.length:=by omega
 simp[gt,List.getD,w2g,this,e]
theorem znz{α ρ:Type}[Inhabited α](L:Nat->Int->Int->Option ρ)(k:Int->Option ρ)(l:List α)(d:α->Bool)
  (step:∀(n i:Nat)(s:Int),i<l.length->L (n+1) i s=L n ((i:Int)+1) (bif d (gt l i) then s else 1)) (f:∀n s,L (n+1) l.length s=k s) :
  ∀n s,l.length<n->L n 0 s=k (bif l.all d then s else 1):=by
 intro n s u;refine y9r L l.length (λi t=>t=bif (l.take i).all d then s else 1) (λo=>o=k (bif l.all d then s else 1)) ?_ ?_ n 0 s (w30 _) (by simp) (by omega)
 .intro n i t h g j;rw[step n i t h];refine j _ ?_;rw[zeb d l i h,g];cases (l.take i).all d<;>cases d (gt l (i:Int))<;>simp
 .intro n t g;rw[f,g,w11]
theorem y9q{α ρ:Type}[Inhabited α](L:Nat->Int->Option ρ)(k:Option ρ)(l:List α)(p:α->Bool)(g:α->Option ρ)
  (step:∀n i:Nat,i<l.length->L (n+1) i=bif p (gt l i) then g (gt l i) else L n ((i:Int)+1)) (d:∀n,L (n+1) l.length=k) :
  ∀n,l.length<n->L n 0=match l.find? p with|some x=>g x|none=>k:=by
 intro n z;refine zu (λn i(_:Unit)=>L n i) l.length (λi _=>∀x∈l.take i,p x=false) (λo=>o=match l.find? p with|some x=>g x|none=>k) ?_ ?_ n () (by simp) z
 .intro n i _ j f hs;simp only[step n i j];cases e:p (gt l (i:Int)) with
  |false=>
   refine hs () ?_;rw[z03 l i j];intro x hx;rcases w0j.1 hx with h|h
   .exact f x h
   .simp at h;rw[h];exact e
  |true=>
   have:l.find? p=some (gt l (i:Int)):=by
    have u:l=l.take i++(gt l (i:Int)::l.drop (i+1)):=by rw[z68 j,List.getElem_cons_drop,w2l]
    generalize gt l (i:Int)=y at *;rw[u,List.find?_append,w59.2 (λx hx=>by simp[f x hx])];simp[w3w,e]
   rw[this];rfl
 .intro n _ f;simp only[d];rw[w11] at f;rw[w59.2 (λx hx=>by simp[f x hx])]
theorem ydd{α ρ:Type}(l:List α)(p:α->Bool)(r k:ρ):(match l.find? p with|some _=>r|none=>k)=bif l.any p then r else k:=by
 induction l with
 |nil=>rfl
 |cons x l d=>
  rw[w3w,w49];cases p x
  .simpa using d
  .rfl
theorem z79{α ρ:Type}[Inhabited α](L:Nat->Int->Option ρ)(k r:Option ρ)(l:List α)(p:α->Bool)
  (step:∀n i:Nat,i<l.length->L (n+1) i=bif p (gt l i) then r else L n ((i:Int)+1)) (d:∀n,L (n+1) l.length=k)
  (n:Nat) (f:l.length<n):L n 0=bif l.any p then r else k:=by
 rw[y9q L k l p (λ_=>r) step d n f,ydd]
theorem z3c{α σ ρ:Type}[Inhabited α](L:Nat->Int->σ->Option ρ)(k:σ->Option ρ)(l:List α)(f:σ->α->σ)(d:Nat->σ->Prop)
  (step:∀(n i:Nat)(s:σ),i<l.length->d i s->L (n+1) i s=L n ((i:Int)+1) (f s (gt l i))/\d (i+1) (f s (gt l i))) (g:∀n s,d l.length s->L (n+1) l.length s=k s)
  (n:Nat) (s:σ) (z:d 0 s) (hn:l.length<n):L n 0 s=k (l.foldl f s)/\d l.length (l.foldl f s):=by
 refine zu L l.length (λi t=>t =(l.take i).foldl f s/\d i t) (λo=>o=k (l.foldl f s)/\d l.length (l.foldl f s)) ?_ ?_ n s ⟨by simp,z⟩ hn
 .intro n i t u ⟨j,h⟩ hs;rw[(step n i t u h).1];refine hs _ ⟨?_,(step n i t u h).2⟩;rw[z03 l i u,w4n,<- j];rfl
 .intro n t ⟨j,h⟩;rw[w11] at j;subst j;exact⟨g n _ h,h⟩
def bet(a b c:Int):Bool:=decide (b<=a)&&decide (a<=c)
theorem z4n{a b c:Int}: bet a b c=true↔b<=a/\a<=c:=by simp[bet]
theorem zth{a b c:Int}(h:bet a b c=true):b<=a/\a<=c:=z4n.1 h
theorem mk_t(n:Int)(b:Nat)(d:0<=n)(h:n<=100000)(f:b<=1000000):zd n b:=by refine⟨d,?_,by omega⟩;have :(b:Int)*n<=1000000*100000:=Int.mul_le_mul (by omega) h d (by omega);omega
theorem yio{x y z:Int}: min2 x y<z↔x<z\/y<z:=by unfold min2;split<;>omega
end Px
end
section
namespace Px
open Go
theorem zej{a b:Int}: cmpI a b<0↔a<b:=by unfold cmpI;(repeat' split)<;>omega
theorem zkz{a b:Int}: cmpI a b=0↔a=b:=by unfold cmpI;(repeat' split)<;>omega
theorem zt0{a b:Int}: or2 a b<0↔a<0\/(a=0/\b<0):=by unfold or2;split<;>omega
theorem z6c{a b:za}: z2z a b<0↔a.type_<b.type_\/(a.type_=b.type_/\(a.class_<b.class_\/(a.class_=b.class_/\a.place<b.place))):=by unfold z2z;rw[zt0,zt0,zej,zej,zej,zkz,zkz]
theorem ybl:Sort.SWO (Proofs.ltOf λa b : {y:za //(λ_:za=>true) y=true}=>z2z a.1 b.1) where
 irrefl:=λx=>by simp only[Proofs.ltOf,decide_eq_false_iff_not];rw[z6c];omega
 trans:=λx y z d f=>by simp only[Proofs.ltOf,decide_eq_true_eq] at *;rw[z6c] at *;omega
 ntrans:=λx y z d f=>by simp only[Proofs.ltOf,decide_eq_false_iff_not] at *;rw[z6c] at *;omega
theorem zgr(φ:Nat)(a b:Int):z3j φ a b=some (cmpI a b,()):=by
 unfold z3j cmpI;simp only[bne_self_eq_false,w09,if_false,decide_eq_true_eq];split
 .rfl
 .split<;>rfl
theorem yly(φ:Nat)(h:3<=φ)(a b:Int):ziw φ [a,b]=some (or2 a b,()):=by
 obtain⟨n,rfl⟩:∃n,φ=n+3:=⟨φ-3,by omega⟩;show _=some (if a≠0 then a else b,());unfold ziw;rw[z89,if_pos (by simp),z6 ⟨by omega,by simp⟩];show (if(a !=0)=true then _ else _)=_;by_cases d:a=0
 .rw[if_neg (by simp[d]),if_neg (by simp[d]),z89,if_pos (by simp[zn6]),z6 ⟨by simp[zn6],by simp[zn6]⟩];show (if(b !=0)=true then _ else _)=_;by_cases f:b=0
  .rw[if_neg (by simp[f]),z89,if_neg (by simp[zn6]),f]
  .rw[if_pos (by simp[f])];rfl
 .rw[if_pos (by simp[d]),if_pos (by simp[d])];rfl
theorem ygi(φ:Nat)(h:6<=φ)(a b c:Int):ziw φ [a,b,c]=some (or2 a (or2 b c),()):=by
 obtain⟨n,rfl⟩:∃n,φ=n+6:=⟨φ-6,by omega⟩;show _=some (if a≠0 then a else if b≠0 then b else c,());unfold ziw;rw[z89,if_pos (by simp),z6 ⟨by omega,by simp⟩];show (if(a !=0)=true then _ else _)=_;by_cases d:a=0
 .rw[if_neg (by simp[d]),if_neg (by simp[d]),z89,if_pos (by simp[zn6]),z6 ⟨by simp[zn6],by simp[zn6]⟩];show (if(b !=0)=true then _ else _)=_;by_cases f:b=0
  .rw[if_neg (by simp[f]),if_neg (by simp[f]),z89,if_pos (by simp[zn6]),z6 ⟨by simp[zn6],by simp[zn6]⟩];show (if(c !=0)=true then _ else _)=_;by_cases g:c=0
   .rw[if_neg (by simp[g]),z89,if_neg (by simp[zn6]),g]
   .rw[if_pos (by simp[g])];rfl
  .rw[if_pos (by simp[f]),if_pos (by simp[f])];rfl
 .rw[if_pos (by simp[d]),if_pos (by simp[d])];rfl
theorem y7i(a b:za):zdg 10 a b=some (z2z a b,()):=by unfold zdg z2z;simp only[zgr,w00];rw[ygi 10 (by omega)];rfl
theorem y76{α:Type}{g:α->Bool}{d:α->α->Int}(ho:∀a b c,d a b >= 0->d b c >= 0->d a c >= 0)(hi:∀a,d a a >= 0)(ht:∀a b c,d a b<0->d b c<0->d a c<0){l f:List α}(p:l.Perm f):znp g d l=znp g d f:=by
 have hs:Sort.SWO (λa b:α=>decide (d a b<0)):=⟨λa=>by have:=hi a;simp;omega,λa b c j u=>by simp at *;exact ht a b c j u,λa b c j u=>by simp at *;exact ho a b c j u⟩;have key:∀l f r:List α,l.Perm f->znp g d l=some r->znp g d f=some r:=by
  intro l f r p h;obtain⟨j,u,h3,rfl⟩:=zzd h;have z:l.Pairwise λa b=>d a b<0\/d b a<0:=h3.imp λh=>by simpa using h
  rw[y5g (λy hy=>j y (p.mem_iff.2 hy)) (by rw[<- p.length_eq];exact u) ((p.pairwise_iff (λ{a b}h=>h.symm)).1 z)];rw[zt7 (l:=l) h3 ((z0w _ _).trans p.symm) (z0w _ _) (z7h hs _) (z7h hs _)]
 cases h:znp g d l with
 |some r=>exact(key l f r p h).symm
 |none=>
  cases h':znp g d f with
  |none=>rfl
  |some r=>rw[key f l r p.symm h'] at h;cases h
theorem zzf{l u:List za}(p:l.Perm u):zmb l=zmb u:=by
 have f:∀a b:za,z2z a b >= 0->¬(a.type_<b.type_\/(a.type_=b.type_/\(a.class_<b.class_\/(a.class_=b.class_/\a.place<b.place)))):=λa b h q=>by have:=z6c.2 q;omega
 have d:∀a b:za,¬(a.type_<b.type_\/(a.type_=b.type_/\(a.class_<b.class_\/(a.class_=b.class_/\a.place<b.place))))->z2z a b >= 0:=λa b h=>Int.not_lt.1 λq=>h (z6c.1 q)
 refine y76 (λa b c g j=>?_) (λa=>d a a (by omega)) (λa b c g j=>?_) p
 .have:=f _ _ g
  have:=f _ _ j;exact d _ _ (by omega)
 .rw[z6c] at *;omega
theorem zsf(φ:Nat):∀(n:Nat)(w:Int)(p d:List za)(rem:List (zc×Int)),p.Perm d->z00 φ n w p rem=z00 φ n w d rem
 |0,w,p,d,rem,h=>rfl
 |n+1,w,p,d,[],h=>by simp only[z00,z0q,zzf h]
 |n+1,w,p,d,e::r,h=>by simp only[z00,z0q,h.length_eq];rw[zsf φ n w _ _ r (h.append_right [_])]
theorem zte(φ:Nat){f d:List (zc×Int)}(h:f.Perm d):∀(n:Nat)(w:Int)(p:List za),z00 φ n w p f=z00 φ n w p d:=by
 induction h with
 |nil=>intros;rfl
 |cons e h u=>
  intro n w p;cases n with
  |zero=>rfl
  |succ n=>simp only[z00,z0q];rw[u n w (p++_)]
 |swap a b r=>
  intro n w p
  match n with
  |0=>rfl
  |1=>
   simp only[z00,z0q,ck]
   repeat' split
   all_goals rfl
  |n+2=>simp only[z00,z0q,w0m,w2j,w1z,w0h,w0o,w2h];rw[zsf φ n w _ _ r (List.Perm.append_left p (List.Perm.swap _ _ _))]
 |trans z h2 g j=>intro n w p;rw[g,j]
theorem zik(φ:Nat){u j:List (Int×Bool)}(h:u.Perm j)(hd:Ndp kl_0 u)(a0):∀(n:Nat)(a b c d e f g i)(m:List (Int×Bool)),Srt' kl_0 m->z0g φ a0 n a b c d e f g i m u=z0g φ a0 n a b c d e f g i m j:=by
 induction h with
 |nil=>intros;rfl
 |cons x h ih=>
  intro n a b c d e f g i m z;cases n with
  |zero=>rfl
  |succ n=>simp only[z0g,z2a];exact ih (w13.1 hd).2 n _ _ _ _ _ _ _ _ _ (z.set _ _)
 |swap x y r=>
  intro n a b c d e f g i m z;have a1:kl_0 y.1≠kl_0 x.1:=(w13.1 hd).1 x (by simp)
  match n with
  |0=>rfl
  |1=>rfl
  |n+2=>simp only[z0g,z2a];rw[y87 z a1]
 |trans h1 h2 a2 a3=>intro n a b c d e f g i m z;rw[a2 hd n _ _ _ _ _ _ _ _ m z,a3 (hd.perm h1) n _ _ _ _ _ _ _ _ m z]
end Px
end
section
namespace Px
open Go Go.RowKit
section
variable{κ ν:Type}{e:κ->List Int}{num:κ->Int}
theorem ybf(j:∀k,e k = [num k]){m:List (κ×ν)}(h:Srt' e m):(m.map λp=>num p.1).Pairwise λa b=>a<b:=by
 rw[w2x];refine List.Pairwise.imp (λ{a b}d=>?_) h;rw[j,j] at d;simp only[ltI] at d;cases g:decide (num a.1<num b.1) with
 |true=>exact of_decide_eq_true g
 |false=>
  rw[g] at d;simp only[cond_false] at d;cases f :(num a.1==num b.1) with
  |true=>rw[f] at d;simp at d
  |false=>rw[f] at d;simp at d
theorem y9v{d l:List Int}(u:d.Perm l)(j:l.Pairwise λa b=>a<b):d.mergeSort (λx y=>decide (x<=y))=l:=by refine List.Perm.eq_of_pairwise (le:=λa b:Int=>a<=b) (λa b _ _ f g=>by omega) ?_ (j.imp λh=>by omega) ((List.mergeSort_perm _ _).trans u);have:=List.pairwise_mergeSort (le:=λx y:Int=>decide (x<=y)) (by intro a b c f g;simp at *;omega) (by intro a b;simp;omega) d;exact this.imp λh=>by simpa using h
theorem yhd{P:Program}{z:TypeId}{eK:κ->Value}{eV:ν->Value}{w:World}{b:Nat}{m:List (κ×ν)}(hk:P.underlying z=some (.int .i64))(he:∀k,e k = [num k])(hK:∀k,eK k = .int .i64 (num k))
  (a1:∀p∈m,-9223372036854775808<=num p.1/\num p.1<9223372036854775808) (hl:m.length<=17592186044416) (h:CM w b e eK eV m) :
  ∃D0:DataW Unit,w.ownsMap P z (λ_=>some (.lit (.bool false),[])) b m.length D0/\Maps.size D0=m.length/\(intKeys D0).Perm (m.map λp=>num p.1):=by
 obtain⟨hs,es,clock,m',h1,h2,h3,h4⟩:=h;have g:es.toList.length=m.length:=by have:=congrArg List.length h4;simp only[w0q] at this;rw[this,h3.length_eq]
 have d:es.toList.map (·.key)=m'.map λp=>Value.int .i64 (num p.1):=by have:=congrArg (List.map (·.1)) h4;simpa[Function.comp_def,hK] using this
 have j:∀x∈es.toList,∃n,x.key = .int .i64 n/\-9223372036854775808<=n/\n<9223372036854775808:=by intro x hx;have:x.key∈es.toList.map (·.key):=w0b.2 ⟨x,hx,rfl⟩;rw[d] at this;obtain⟨p,hp,f⟩:=w0b.1 this;exact⟨_,f.symm,a1 p (h3.mem_iff.1 hp)⟩
 have a2:∀n:Int,-9223372036854775808<=n->n<9223372036854775808->keyOf P z (.int .i64 n)=some (.int .i64 n):=by
  intro n ha hb;have hw :(Lit.int .i64 n).wf=true:=by simp only[Lit.wf,w02,decide_eq_true_eq];have f:IntKind.i64.min=-9223372036854775808:=rfl;have e2:IntKind.i64.max=9223372036854775807:=rfl;rw[f,e2];omega
  simp[keyOf,hk,mapKey,hw]
 have u:∀x∈es.toList,∀n,x.key = .int .i64 n->WideElems.rd P z (λ_=>some ((.lit (.bool false):DataW Unit),[])) x=some (.int .i64 n,.lit (.bool false)):=by intro x hx n hn;obtain⟨n',f,ha,hb⟩:=j x hx;rw[hn] at f;cases f;simp[WideElems.rd,hn,a2 n ha hb]
 have a0:es.toList.map (λx=>Go.intOf (WideElems.rg P z (λ_=>some ((.lit (.bool false):DataW Unit),[])) x).1)=m'.map λp=>num p.1:=by
  have f:es.toList.map (λx=>Go.intOf (WideElems.rg P z (λ_=>some ((.lit (.bool false):DataW Unit),[])) x).1) =(es.toList.map (·.key)).map λv=>match v with | .int _ n=>n|_=>0:=by
   rw[w2n];refine w52 λx hx=>?_
   obtain⟨n,f,_⟩:=j x hx;simp only[WideElems.rg,u x hx n f,w1b,Function.comp,f,Go.intOf]
  rw[f,d,w2n];rfl
 refine⟨.map ((es.toList.map (WideElems.rg P z λ_=>some (.lit (.bool false),[]))).foldr DataW.insert []),⟨es,clock,h1,⟨?_,⟨h2.lt,h2.nd,?_⟩,λx hx=>?_⟩,?_,rfl⟩,?_,?_⟩
 .have:es.size=m.length:=by simpa using g
  unfold maxLen;omega
 .rw[d];have h5:=ybf (num:=num) he hs;have h6 :(m'.map λp=>num p.1).Nodup:=(h3.map (λp:κ×ν=>num p.1)).nodup_iff.2 (List.Pairwise.imp (λ{a b}h=>by omega) h5);have h7 :(m'.map λp=>Value.int .i64 (num p.1)) =(m'.map λp=>num p.1).map (Value.int .i64):=by rw[w2n];rfl
  rw[h7];exact w2x.2 (List.Pairwise.imp (λ{a b}h q=>h (by cases q;rfl)) h6)
 .obtain⟨n,f,_⟩:=j x hx;exact⟨_,u x hx n f⟩
 .have:es.size=m.length:=by simpa using g
  omega
 .rw[Maps.size_eq,(WideShapes.sorted_perm _).length_eq];simpa using g
 .show (List.map (λp:Lit×DataW Unit=>Go.intOf p.1) _).Perm _;refine((WideShapes.sorted_perm _).map _).trans ?_;rw[w2n];show (es.toList.map (λx=>Go.intOf (WideElems.rg P z (λ_=>some ((.lit (.bool false):DataW Unit),[])) x).1)).Perm _;rw[a0];exact h3.map _
end
open Proofs in
theorem ynj{V:TE}{P:Program}{ρ σ τ:Shelf.Ren}(L:SlLaysZI.n6 P ρ)(K:SlLaysZI.n10 P σ)(S:Lays.n189 P τ){kc vc E:Nat}(num:V.T kc->Int)(hl:∀k,V.kl kc k = [num k])(hv:∀k,V.kv kc k = .int .i64 (num k))(am:∀k,V.ev kc k = [iv .i64 (num k)])(ag:V.sz kc=1)
  (h9:ρ.f 9=τ.f 189) (ai:ρ.t 26=E) (e9:∀args w,(callFunc (ρ.f 9) args).run P w = .ok (.enter (ρ.f 9) args) w) (eg:∀args w,(callFunc (σ.f 10) args).run P w = .ok (.enter (σ.f 10) args) w):SoOK V P (ρ.f 6) ⟨σ.f 10,kc,vc,E⟩:=by
 intro m hm;simp only[soK,w02,w0a] at hm;obtain⟨a6,a2⟩:=hm;have a2:=w0s a2;have a6:∀p∈m,-9223372036854775808<=num p.1/\num p.1<9223372036854775808:=by intro p hp;have:=a6 p hp;rw[hl] at this;simpa[inI] using this
 intro r w vs hr a8 hA;obtain⟨caps,ao,aj,ak⟩:=hA 0 _ rfl;obtain⟨Bm,ac,ar,a5⟩:=ak 0 _ rfl;obtain⟨u,hu,ad,_⟩:=a5 0 _ rfl;have a4:caps = #[.pointer (some ⟨Bm,0,none⟩)]:=by
  refine Array.ext (by simpa using aj) λi f h2=>?_
  have:i=0:=by simp at h2;omega
  subst this;rw[<- ac];simp[w07,f]
 subst a4;have av:vs = #[.func (.func (σ.f 10)) #[] #[.pointer (some ⟨Bm,0,none⟩)]]:=by
  refine Array.ext (by simpa using a8) λi f h2=>?_
  have:i=0:=by simp at h2;omega
  subst this;rw[<- ao];simp[w07,f]
 subst av;have a9:=hr Bm ar;have hsorts:AnyZI.SortsIn P ρ Fence.wide 4:=by
  refine⟨λah off a0 z W hH hb hs=>callsIn_wide.2 ?_,λp a0 W=>callsIn_wide.2 ?_⟩
  .rw[h9];exact Any.slices_Sort_int S ah off a0 z W hH hb hs
  .rw[h9];exact Any.slices_Sort_int_none S p a0 W
 have fin:∀(Sq:List Int->Prop),(∀z,Sq z->z.Perm (m.map λp=>num p.1))->(m.map λp=>num p.1).Pairwise (λa b=>a<b)->SeqGives Fence.wide 2 P (σ.f 10) #[.pointer (some ⟨Bm,0,none⟩)] encZ Sq m.length w->
   Calls P (ρ.f 6) #[.func (.func (σ.f 10)) #[] #[.pointer (some ⟨Bm,0,none⟩)]] w (retR w w.heap.size r w λx news=>∃sv,x=eqv sv/\news = [row E (V.ev kc) (V.sz kc) (m.map (·.1)) sv]):=by
  intro Sq ab ap ae;have cS:=AnyZI.sorted_in L Fence.wide 5 trivial trivial trivial trivial rfl (by omega) hsorts e9 (σ.f 10) #[.pointer (some ⟨Bm,0,none⟩)] trivial eg Sq m.length (by unfold maxLen;omega) (by omega) w ae;refine(callsIn_wide.1 cS).mono ?_;rintro e w' ⟨v,z,rfl,hS,a1,aw,hb⟩;have aq:=y9v (ab z hS) ap;have af:z.length=m.length:=by rw[(ab z hS).length_eq,w0q]
  rw[aq] at a1;refine⟨v,eqv v,[row E (V.ev kc) (V.sz kc) (m.map (·.1)) v],r,λj b=>j=0/\v.ownBlock=some b,rfl,⟨λ_ h=>h,λb d=>hb.block b (hr b d),λ_ h=>.inl h⟩,⟨⟨hb,λh=>(h:False).elim⟩,hb.size,?_,?_,?_,λb d=>w2t (hr b d) hb.size⟩,rfl,v,rfl,rfl⟩
  .intro i H hi;cases i with
   |succ i=>simp at hi
   |zero=>
    simp only[w2f,w01] at hi;subst hi;rcases a1.2 with⟨f,h2⟩|⟨g,a0,cur,f,h2,h3,h4,h5,h6,h7⟩
    .exact .inl ⟨f,by rw[List.map_eq_nil_iff];exact List.length_eq_zero_iff.1 (by omega)⟩
    .refine .inr ⟨g,a0,cur,?_,⟨rfl,by rw[f];rfl⟩,?_,?_,h5,?_,?_⟩
     .rw[f,w0q,af]
     .rw[<- ai];exact h3
     .rw[w0q];omega
     .rw[ag];exact h6
     .rw[w0q,ag,<- af,h7];have e1 :(m.map (·.1)).flatMap (V.ev kc) =((m.map λp=>num p.1).map encZ).map eqv:=by
       rw[w2n,w2n,w5l];have:∀l:List (V.T kc×V.T vc),l.flatMap (λa=>V.ev kc a.1)=l.map ((eqv ∘ encZ) ∘ λp=>num p.1):=by
        intro l
        induction l with
        |nil=>rfl
        |cons a l ih=>rw[w0u,ih,am];rfl
       exact this m
      rw[e1];exact zl6 λv hv=>by obtain⟨n,_,rfl⟩:=w0b.1 hv;rfl
  .rintro i b ⟨rfl,d⟩;rcases a1.2 with⟨f,_⟩|⟨g,a0,cur,f,h2,h3,_⟩
   .rw[f] at d;cases d
   .rw[f] at d;cases d;exact⟨by simp,h2,(w1c.1 h3).1,λq=>Nat.lt_irrefl _ (w2t (hr _ q) h2)⟩
  .rintro i j b ⟨rfl,_⟩ ⟨rfl,_⟩;rfl
 rcases ad with⟨rfl,rfl⟩|⟨b,t,rfl,a7,ax,aa,_⟩
 .refine fin (λz=>z = []) (λz h=>by subst h;exact List.Perm.refl _) List.Pairwise.nil ?_;exact AnyZI.keys_gives_nil { K with } Fence.wide _ trivial rfl Bm w a9 hu
 .have a3 :(t.map λp=>num p.1)=m.map λp=>num p.1:=by rw[<- a7,w2n];rfl
  have au:t.length=m.length:=by rw[<- a7,w0q]
  obtain⟨D0,f,h2,h3⟩:=yhd (num:=num) K.t26 hl hv (λp hp=>a6 (p.1,p.2.1) (by rw[<- a7];exact w0b.2 ⟨p,hp,rfl⟩)) (by omega) aa;refine fin (λz=>z.Perm (intKeys D0)) (λz h=>by rw[<- a3];exact h.trans h3) (by rw[<- a3];exact ybf hl aa.1) ?_;have:=AnyZI.keys_gives { K with } Fence.wide 2 trivial rfl (by omega) Bm b _ D0 w a9 hu f;rw[h2,au] at this;exact this
end Px
end
section
set_option maxHeartbeats 4000000
set_option maxRecDepth 100000
namespace Px
open Go Go.RowKit Go.Proofs
theorem zmq[Dr](φ:Nat):zz TV Tryz.prog 27 (zy2 φ):=fnC2 (φ:=φ) [] [] .x Tryz.func27 rfl (λ_=>by kernel_rfl) (by repeat' first|exact trivial|refine⟨?_,?_⟩|intro _|kernel_rfl)
theorem zpo[Dr](φ:Nat):zz TV Tryz.prog 116 (zpp φ):=fnC2 (φ:=φ) [] [] .x Tryz.func116 rfl (λ_=>by kernel_rfl) (by repeat' first|exact trivial|refine⟨?_,?_⟩|intro _|kernel_rfl)
def ybc:Msp TV:=⟨3,0,[],λl _=>zw9 l⟩
theorem ybb[Dr]:zn4 TV Tryz.prog 111 ybc:=λl _ d sv h=>zze (ρ:=Tryz.lays189_ren) Tryz.lays189 h
theorem zg9[Dr](φ:Nat):zz TV Tryz.prog 73 (zpl φ):=fnC2 (φ:=φ) [ctF (zpo φ)] [] (.sn 3 (.seq (.lo ⟨[(84,[A16,A1r,(20,.val 4),(21,A00),(22,A00)])],[A0s]⟩ (λn=>kq5 (z4o φ n))) (.seq (.lo ⟨[(84,[A1r,(31,.val 6),(32,A00),(33,A00)])],[]⟩ (λn=>kq4 (z2n φ n))) .x))) Tryz.func73 rfl (λ_=>by kernel_rfl) (by repeat' first|exact trivial|refine⟨?_,?_⟩|intro _|kernel_rfl)
theorem z8t[Dr](φ:Nat):zz TV Tryz.prog 75 (zow φ):=fnC2 (φ:=φ) [] [] .x Tryz.func75 rfl (λ_=>by kernel_rfl) (by repeat' first|exact trivial|refine⟨?_,?_⟩|intro _|kernel_rfl)
theorem zen[Dr](φ:Nat):zz TV Tryz.prog 74 (zu5 φ):=fnC2 (φ:=φ) [ctF (z8t φ)] [] (.sn 4 (.seq (.lp ⟨[(206,[A16,A3z,A2q,(41,.val 10),(42,A00),(43,A00)])],[A0r,A3b]⟩ (λn=>kq5 (z5b φ n)) (λd=>(.sn 2 (.seq (.body (.seq .x (.seq (.lo ⟨[(206,[A16,A3z,A2q,(6,A0u),(41,.val 10),(42,A00),(43,A00),(55,A2v),(56,A00),(57,A00)])],[A0r,A3b,.box 155 [.val 9],A01]⟩ (λn=>kq9 (z37 φ (uu5 d) n))) .x))) .x)))) (.seq (.lo ⟨[(206,[A16,A3z,A2q,(83,.val 12),(84,A00),(85,A00)])],[A0r,A3b]⟩ (λn=>kq5 (z0r φ n))) (.seq (.lo ⟨[(206,[A16,A3z,A2q,(120,.val 14),(121,A00),(122,A00)])],[A0r,A3b]⟩ (λn=>kq5 (z16 φ n))) (.seq .x (.seq (.lo ⟨[(206,[A1h,(4,.func 117 [A02]),(13,A09),(158,.val 16),(159,A00),(160,A00)])],[A3b,.box 204 [.val 29]]⟩ (λn=>kq5 (z05 φ n))) .x)))))) Tryz.func74 rfl (λ_=>by kernel_rfl) (by repeat' first|exact trivial|refine⟨?_,?_⟩|intro _|kernel_rfl)
theorem zn7[Dr](φ:Nat):zz TV Tryz.prog 76 (zn8 φ):=fnC2 (φ:=φ) [] [] (.seq .x (.seq (.lo ⟨[(45,[A16,(9,.val 23),A1y])],A3l⟩ (λn=>kq3 (z40 φ n))) (.seq .x (.seq (.lo ⟨[(45,[A27,(30,A2b),(31,A00),(32,A00)])],[]⟩ (λn=>kq4 (z3g φ n))) .x)))) Tryz.func76 rfl (λ_=>by kernel_rfl) (by repeat' first|exact trivial|refine⟨?_,?_⟩|intro _|kernel_rfl)
theorem zww[Dr](φ:Nat):zz TV Tryz.prog 191 (zwx φ):=fnC2 (φ:=φ) [] [] .x Tryz.func191 rfl (λ_=>by kernel_rfl) (by repeat' first|exact trivial|refine⟨?_,?_⟩|intro _|kernel_rfl)
theorem zfs[Dr](φ:Nat):zz TV Tryz.prog 199 (zft φ):=fnC2 (φ:=φ) [] [] (.seq .x (.seq (.ins 1 130 (.seq .x (.seq (.join A23 (kq2 (z2i φ)) (.seq .x .x)) (.seq (.join A23 (kq2 (z2j φ)) (.seq .x .x)) (.seq (.join A23 (kq2 (z1m φ)) (.seq .x .x)) .x)))) .x) .x)) Tryz.func199 rfl (λ_=>by kernel_rfl) (by repeat' first|exact trivial|refine⟨?_,?_⟩|intro _|kernel_rfl)
theorem zwu[Dr](φ:Nat):zz TV Tryz.prog 192 (zwv φ):=fnC2 (φ:=φ) [ctF (zfs φ)] [] (.sn 14 (.seq (.join ⟨[(135,[(2,A10),(8,A10),(9,A10),(10,A10),(11,A10),(13,A10),(14,A10),(15,A10)])],[]⟩ (kq8 (z87 φ)) (.body (.loop ⟨[(135,[(2,A10),(8,A10),(9,A10),(10,A10),(11,A10),(13,A10),(14,A10),(15,A10),(16,A10)])],[]⟩ (λn=>kq9 (z86 φ n)) (λzk40=>.x)))) (.sn 3 (.seq (.join ⟨[(135,[(2,A10),(8,A10),(14,A10),(15,A10),(17,A10),(18,A10)])],[]⟩ (kq6 (z88 φ)) (.body (.loop ⟨[(135,[(2,A10),(8,A10),(9,A10),(10,A10),(14,A10),(15,A10),(16,A10),(17,A10),(18,A10)])],[]⟩ (λn=>kq9 (z85 φ n)) (λzk30=>.x)))) .x)))) Tryz.func192 rfl (λ_=>by kernel_rfl) (by repeat' first|exact trivial|refine⟨?_,?_⟩|intro _|kernel_rfl)
theorem y73[Dr](φ:Nat):zz TV Tryz.prog 118 (y74 φ):=fnC2 (φ:=φ) [ctF (zww φ),ctF (zwu φ)] [] (.sn 3 (.seq (.seq (.ins 1 130 (.seq .x (.seq (.join A0l (kq6 (zcy φ)) (.seq .x .x)) (.seq (.join A0l (kq6 (zai φ)) (.seq .x .x)) (.seq (.join A0l (kq6 (zaj φ)) (.seq .x .x)) .x)))) .x) (.body (.loop ⟨[(33,[(0,A10),(1,A10),(5,.func 190 [A02]),(6,A10),A1y,A3a])],[.box 130 [A10]]⟩ (λn=>kq6 (z12 φ n)) (λzk30=>(.sn 2 (.seq (.body (.sn 2 (.seq (.ins 2 130 (.seq .x (.seq (.join A0c (kq10 (z4z φ (uu6 zk30))) (.seq .x .x)) (.seq (.join A0c (kq10 (zak φ (uu6 zk30))) (.seq .x .x)) (.seq (.join A0c (kq10 (zal φ (uu6 zk30))) (.seq .x .x)) .x)))) .x) .x))) .x)))))) .x)) Tryz.func118 rfl (λ_=>by kernel_rfl) (by repeat' first|exact trivial|refine⟨?_,?_⟩|intro _|kernel_rfl)
theorem zza[Dr](φ:Nat):zz TV Tryz.prog 77 (zzb φ):=fnC2 (φ:=φ) [ctF (y73 φ)] [] .x Tryz.func77 rfl (λ_=>by kernel_rfl) (by repeat' first|exact trivial|refine⟨?_,?_⟩|intro _|kernel_rfl)
theorem z5q[Dr](φ:Nat):zz TV Tryz.prog 34 (zl9 φ):=fnC2 (φ:=φ) [ctF (zg9 φ),ctF (zen φ),ctF (z8t φ),ctF (zn7 φ),ctF (zza φ)] [] (.sn 6 (.seq (.lo ⟨[(193,[A16,(5,.val 4),A0v,(7,A22),(57,.val 19),(58,A00),(59,A00)])],[A03]⟩ (λn=>kq7 (z2l φ n))) (.seq (.lo ⟨[(193,[A16,(5,.val 4),A0v,(7,A22),(92,.val 21),(93,A00),(94,A00)])],[A03]⟩ (λn=>kq7 (z19 φ n))) (.seq (.lo ⟨[(193,[A16,(5,.val 4),A0v,(7,A22),(120,.val 12),(121,A00),(122,A00)])],[A03]⟩ (λn=>kq7 (z1a φ n))) (.seq (.lo ⟨[(193,[A16,A0v,(7,A22),(135,.val 4),(136,A00),(137,A00)])],[A03]⟩ (λn=>kq6 (z1b φ n))) (.seq (.lo ⟨[(193,[A16,A0v,(7,A22),(157,.val 6),(158,A00),(159,A00)])],[A03]⟩ (λn=>kq6 (z1c φ n))) (.seq (.lo ⟨[(193,[(7,A22),(172,.val 27),(173,A00),(174,A00)])],[]⟩ (λn=>kq4 (z1d φ n))) .x))))))) Tryz.func34 rfl (λ_=>by kernel_rfl) (by repeat' first|exact trivial|refine⟨?_,?_⟩|intro _|kernel_rfl)
theorem zdy[Dr](φ:Nat):zz TV Tryz.prog 94 (zl1 φ):=fnC2 (φ:=φ) [] [] .x Tryz.func94 rfl (λ_=>by kernel_rfl) (by repeat' first|exact trivial|refine⟨?_,?_⟩|intro _|kernel_rfl)
theorem zao[Dr](φ:Nat):zz TV Tryz.prog 48 (znc φ):=fnC2 (φ:=φ) [ctF (zdy φ)] [] .x Tryz.func48 rfl (λ_=>by kernel_rfl) (by repeat' first|exact trivial|refine⟨?_,?_⟩|intro _|kernel_rfl)
theorem zbo[Dr](φ:Nat):zz TV Tryz.prog 49 (zon φ):=fnC2 (φ:=φ) [ctF (zdy φ)] [] .x Tryz.func49 rfl (λ_=>by kernel_rfl) (by repeat' first|exact trivial|refine⟨?_,?_⟩|intro _|kernel_rfl)
theorem zpm[Dr](φ:Nat):zz TV Tryz.prog 149 (zpn φ):=fnC2 (φ:=φ) [ctF (zg9 φ)] [ctM (ybb)] (.sn 2 (.seq (.lo ⟨[(77,[A2l,A3n,(19,A2b),(20,A00),(21,A00)])],[A0s,.box 231 [A25,.raw (.map none)],.row 40 24]⟩ (λn=>kq5 (z18 φ n))) (.sn 2 (.seq (.lp ⟨[A26],[.box 231 A1l,A0s,A04,A4a]⟩ (λn=>kq6 (z0c φ n)) (λzk16=>(.sn 2 (.seq (.body (.seq .x (.seq (.ins 6 179 (.sn 2 (.seq (.join ⟨[A2y,(77,[A45,(8,.func 179 [A02,A09]),A3o,(10,A13),(44,.val 6),(45,A00),(46,A00)])],[.box 231 [.own 4,.own 5],A0s,.box 252 [.val 32],.box 153 [.val 5],A04,A4a]⟩ (kq12 (z5t φ (uu6 zk16))) (.seq .x (.cond (.foc (3,some 0) (0,none) .x) .x))) .x)) .x) (.ins 6 179 (.sn 2 (.seq (.join ⟨[A2y,A26],[.box 231 [A2v,.own 4],A0s,.box 252 [.val 32],A04,A4a]⟩ (kq10 (z5v φ (uu6 zk16))) (.seq .x (.cond (.foc (3,some 0) (0,none) .x) .x))) .x)) .x)))) .x)))) (.seq (.lp ⟨[(77,[A45,(67,A0m),(68,A00),(69,A00)])],[.box 231 [A0m,A25],A04,A4a]⟩ (λn=>kq4 (z2o φ n)) (λzk56=>(.sn 2 (.seq (.body (.seq (.foc (67,none) (69,none) .x) .x)) .x)))) .x))))) Tryz.func149 rfl (λ_=>by kernel_rfl) (by repeat' first|exact trivial|refine⟨?_,?_⟩|intro _|kernel_rfl)
theorem zpq[Dr](φ:Nat):zz TV Tryz.prog 150 (zpr φ):=fnC2 (φ:=φ) [] [] (.sn 3 (.seq (.lo ⟨[(118,[A1n,A1h,A3n,(7,A25),(8,A2v),A3j,A3v])],A1b⟩ (λn=>kq7 (z44 φ n))) (.lp ⟨[(118,[A1h,A3n,(7,A25),(8,A2v)])],A1b⟩ (λn=>kq4 (z0d φ n)) (λzk16=>(.body (.seq .x (.seq (.lo ⟨[(118,[A1h,A3n,(7,A25),(8,A2v),A1y,(35,A00),(36,A00)])],A1b⟩ (λn=>kq7 (z2p φ (uu4 zk16) n))) (.sn 2 (.lo ⟨[(118,[A1h,A3n,(7,A25),(8,A2v),A1y,(78,A2b),(79,A00),(80,A00)])],A1b⟩ (λn=>kq8 (z2q φ (uu4 zk16) n))))))))))) Tryz.func150 rfl (λ_=>by kernel_rfl) (by repeat' first|exact trivial|refine⟨?_,?_⟩|intro _|kernel_rfl)
theorem zlk[Dr](φ:Nat):zz TV Tryz.prog 100 (zll φ):=fnC2 (φ:=φ) [ctF (zpm φ),ctF (zpq φ)] [] .x Tryz.func100 rfl (λ_=>by kernel_rfl) (by repeat' first|exact trivial|refine⟨?_,?_⟩|intro _|kernel_rfl)
theorem zou[Dr](φ:Nat):ztc TV Tryz.prog 152 (zov φ):=clC (φ:=φ) [] [] [] [] .x Tryz.func152 rfl (λ_ _=>by kernel_rfl) (by repeat' first|exact trivial|refine⟨?_,?_⟩|intro _|kernel_rfl)
theorem zu6[Dr](φ:Nat):zz TV Tryz.prog 101 (zu7 φ):=fnC (φ:=φ) [ctF (zen φ),ctF (z8t φ)] [] [ctC (zou φ)] [] (.sn 3 (.seq (.ins 3 151 (.seq .x (.seq (.lo ⟨[(19,[(0,.val 16),(1,.func 152 [A02,A09]),A1t,A17]),(35,[A46])],[A2n,A2n,A0r]⟩ (λn=>kq6 (z5r φ n))) .x)) .x) .x)) Tryz.func101 rfl (λ_=>by kernel_rfl) (by repeat' first|exact trivial|refine⟨?_,?_⟩|intro _|kernel_rfl)
theorem zu8[Dr](φ:Nat):zz TV Tryz.prog 102 (zu9 φ):=fnC2 (φ:=φ) [ctF (zen φ),ctF (z8t φ)] [] (.sn 4 (.seq (.lo ⟨[(96,[A15,A2l,(7,A09),(27,A00)])],[A0r,A2x]⟩ (λn=>kq4 (z6n φ n))) (.seq .x (.seq (.lp ⟨[(96,[A15,A2l,(7,A09),(9,A22)])],[A0r,A2x]⟩ (λn=>kq4 (z38 φ n)) (λzk14=>(.seq .x (.body (.seq .x (.lo ⟨[(96,[A15,A2l,(7,A09),(9,A22),(37,.val 14),(38,A00),(39,A00)])],[A0r,A2x]⟩ (λn=>kq7 (z3a φ (uu4 zk14) n)))))))) (.seq .x (.seq (.lo ⟨[(96,[A15,(7,A02),(13,A0m),(77,A00),(78,A00)])],[A2x,.row 157 13]⟩ (λn=>kq5 (z3b φ n))) .x)))))) Tryz.func102 rfl (λ_=>by kernel_rfl) (by repeat' first|exact trivial|refine⟨?_,?_⟩|intro _|kernel_rfl)
theorem zl2[Dr](φ:Nat):ztc TV Tryz.prog 104 (zl3 φ):=clC (φ:=φ) [] [] [] [] .x Tryz.func104 rfl (λ_ _=>by kernel_rfl) (by repeat' first|exact trivial|refine⟨?_,?_⟩|intro _|kernel_rfl)
theorem zbp[Dr](φ:Nat):zz TV Tryz.prog 57 (zoo φ):=fnC (φ:=φ) [ctF (zlk φ),ctF (zu6 φ),ctF (zu8 φ)] [] [ctC (zl2 φ)] [] (.sn 3 (.seq (.join ⟨[(97,[A1h,A3n,(5,A0u),A17])],[A03,A0w,A35]⟩ (kq4 (z2b φ)) (.seq .x .x)) (.seq .x (.seq (.ins 2 103 (.seq .x (.seq (.lo ⟨[(19,[(0,.val 14),(1,.func 104 [A02]),A1t,A17]),(97,[A45,(5,A09),A17,(12,.val 14)])],[A0w,A35]⟩ (λn=>kq7 (z41 φ n))) .x)) .x) .x)))) Tryz.func57 rfl (λ_=>by kernel_rfl) (by repeat' first|exact trivial|refine⟨?_,?_⟩|intro _|kernel_rfl)
theorem zho[Dr](φ:Nat):zz TV Tryz.prog 20 (zrb φ):=fnC2 (φ:=φ) [ctF (z5q φ),ctF (zao φ),ctF (zbo φ),ctF (zbp φ)] [] .x Tryz.func20 rfl (λ_=>by kernel_rfl) (by repeat' first|exact trivial|refine⟨?_,?_⟩|intro _|kernel_rfl)
theorem zuk[Dr](φ:Nat):zz TV Tryz.prog 25 (zul φ):=fnC2 (φ:=φ) [ctF (zmq φ),ctF (zho φ)] [] .x Tryz.func25 rfl (λ_=>by kernel_rfl) (by repeat' first|exact trivial|refine⟨?_,?_⟩|intro _|kernel_rfl)
theorem ztz[Dr](φ:Nat):zz TV Tryz.prog 13 (zu0 φ):=fnC2 (φ:=φ) [ctF (z5q φ),ctF (zao φ),ctF (zbo φ),ctF (zbp φ)] [] (.sn 3 (.seq (.lo ⟨[(99,[A28,A2r,A1h,A47,A3o,A1y,(22,A4b),A3j,A3v])],[A03,A3t,A01,A05]⟩ (λn=>kq10 (z36 φ n))) (.seq (.lo ⟨[(99,[A28,A2r,A1h,A47,A3o,A1y,(45,.val 37),(46,A00),(47,A00)])],[A03,A3t,A01,A05]⟩ (λn=>kq10 (z1o φ n))) (.sn 2 (.seq (.join ⟨[A2z],[.box 54 [A0m,A25],A01,A05]⟩ (kq2 (z15 φ)) (.seq .x (.body (.rf 13 0 95 (.seq .x (.seq (.lp ⟨[(112,[A2f,(1,A09),(2,A0u),(3,A13),A27,A0v,(22,A4b),A3j,A3v]),(100,[(6,A0x),A1g])],[.emp,A42,.box 38 [.val 37],A03,A1c,A01,A05]⟩ (λn=>kq10 (z1p φ n)) (λzk42=>(.sn 2 (.seq (.body (.seq .x (.lp ⟨[(112,[A2f,(1,A09),(2,A0u),(3,A13),A27,A0v,A1t,(8,A0x),(22,A4b),A3j,A3v,(29,.val 37),(30,A00),(31,A00)]),A29],[.emp,A42,.box 38 [.val 37],A03,A0w,A0n,A01,A05]⟩ (λn=>kq15 (z14 φ (uu10 zk42) n)) (λzk58=>(.sn 2 (.seq (.body (.sn 2 (.seq (.yl 15 13 0 .x .x) .x))) .x)))))) .x)))) (.seq (.lp ⟨[(112,[A2f,(1,A09),A27,A0v,(63,.val 37),(64,A00),(65,A00)]),A2a],[.emp,A42,.box 54 [A2v,.own 4],A01,A05]⟩ (λn=>kq8 (z0y φ n)) (λzk68=>(.sn 2 (.seq (.body (.sn 2 (.seq (.yl 11 13 0 .x .x) .x))) .x)))) (.seq (.lp ⟨[(112,[A2f,A27,A0v,(88,A4b),(89,A00),(90,A00)]),(100,[A47,A1g])],[.emp,A3t,A01,A05]⟩ (λn=>kq7 (z1q φ n)) (λzk76=>(.sn 2 (.seq (.body (.seq .x (.seq (.yl 7 13 0 .x .x) .x))) .x)))) (.yl 6 13 0 .x .x))))))))) .x))))) Tryz.func13 rfl (λ_=>by kernel_rfl) (by repeat' first|exact trivial|refine⟨?_,?_⟩|intro _|kernel_rfl)
theorem zhp[Dr](φ:Nat):zz TV Tryz.prog 69 (zri φ):=fnC2 (φ:=φ) [] [] .x Tryz.func69 rfl (λ_=>by kernel_rfl) (by repeat' first|exact trivial|refine⟨?_,?_⟩|intro _|kernel_rfl)
theorem zmk[Dr](φ:Nat):zz TV Tryz.prog 67 (zxp φ):=fnC2 (φ:=φ) [ctF (zhp φ)] [] (.sn 3 (.seq (.lo ⟨[(79,[A16,A1r,(19,A2b),(20,A00),(21,A00)])],[A20]⟩ (λn=>kq5 (zep φ n))) (.seq (.lo ⟨[(79,[A16,A1r,(33,.val 39),(34,A00),(35,A00)])],[A20]⟩ (λn=>kq5 (zdi φ n))) .x))) Tryz.func67 rfl (λ_=>by kernel_rfl) (by repeat' first|exact trivial|refine⟨?_,?_⟩|intro _|kernel_rfl)
theorem zja(φ:Nat)(a5 :((List Int)->(List Arc)->(List Int)->(List Int)->(List Int)->(List (List Int))->(List (List Int))->(List Int)->(List Int)->Option (Flow×Int×Unit)))(d :(List Int))(f :(List Arc))(g :(List Int))(h :(List Int))(j :(List zn))(u :(List Int))(z :(List Int))(a0 :(List Int))(a1 :(List (List Int)))(a2 :(List (List Int)))(a3 :(List Int))(a4 :(List Int)):z8q (z8x φ a5 d f g h j u z a0 a1 a2 a3 a4) (zap φ a5 d f g h j u z a0 a1 a2 a3 a4):=by
 unfold z8x;unfold zap
 repeat' (first|exact z8q.one|exact z8q.nil|refine z8q.cons ?_ ?_|refine z8q.ck ?_|exact z8q.same (n:=2) rfl|exact z8q.same (n:=3) rfl|exact z8q.same (n:=4) rfl|exact z8q.same (n:=6) rfl|refine z8q.bind λ_=>?_)
theorem zjb(φ:Nat)(a7 :((List Int)->(List Arc)->(List Int)->(List Int)->(List Int)->(List (List Int))->(List (List Int))->(List Int)->(List Int)->Option (Flow×Int×Unit)))(d:Int)(f :(List Int))(g :(List Arc))(j :(List Int))(u :(List Int))(z :(List Int))(a0 :(List (List Int)))(a1 :(List (List Int)))(a2 :(List Int))(a3 :(List Int))(a4 :(List zn))(a5 :(List Int))(a6 :(List Int)):z8q (z8y φ a7 d f g j u z a0 a1 a2 a3 a4 a5 a6) (zaq φ a7 d f g j u z a0 a1 a2 a3 a4 a5 a6):=by
 refine⟨λr h=>?_⟩;unfold z8y at h;unfold zaq
 repeat (with_reducible (replace h:=ckS h);obtain⟨_,h⟩:=h)
 change Good r _
 repeat' (with_reducible first|assumption|exact Good.nil|refine Good.one ?_|refine Good.cons ?_ ?_|refine Good.ck ?_ ?_)
theorem zjc(φ:Nat)(d:Int)(f:zq)(g :(List Int))(j :(List Int)):z8q (z8z φ d f g j) (zar φ d f g j):=by
 refine⟨λr h=>?_⟩;unfold z8z at h;unfold zar
 repeat (first|unfold zb|unfold z0i|unfold zh|unfold z1e|unfold z7s|unfold z1f|unfold z0e|unfold z42|unfold z9o|unfold z04|unfold z43|unfold z1u|unfold z90|unfold z0u)
 repeat (with_reducible (replace h:=ckS h);obtain⟨_,h⟩:=h)
 change Good r _
 repeat' (with_reducible first|assumption|exact Good.nil|refine Good.one ?_|refine Good.cons ?_ ?_|refine Good.ck ?_ ?_)
theorem zxq[Dr](φ:Nat):zz TV Tryz.prog 65 (zxr φ):=fnC2 (φ:=φ) [ctF (zmk φ)] [] (.sn 2 (.seq (.ins 1 113 (.sn 2 (.seq (.join ⟨[(73,[A16,A3n]),(27,[(2,A0u)])],[A20,.box 200 [A2b,.val 39,A2v,.own 4,.own 5,.own 6,.own 7],.box 88 [.own 8,.own 9],A01,A01,A01,A04,A04,A01,A01]⟩ (kq10 (zdm φ)) (.alt ⟨[(73,A3w),(27,[A40])],[A20,.box 88 A1l,A01,A01]⟩ (kq4 (z8z φ)) (kq4 (zar φ)))) (.seq (.lp ⟨[(73,[A45,(28,.val 39),(29,A00),(30,A00)]),(27,[A40])],A0k⟩ (λn=>kq12 (zdj φ n)) (λzk26=>(.sn 2 (.seq (.body (.seq .x (.seq (.foc (4,some 5) (6,some 0) .x) (.foc (4,some 6) (6,some 1) .x)))) .x)))) .x))) .x) (.seq (.seq (.join ⟨[(27,[A2l,(5,A09),(16,A22)])],[.box 88 A1l,.box 200 [A2b,.val 39,.own 4,.own 5,.own 6,.own 7,.own 8],A01,A01,A01,A01,A01,A04,A04]⟩ (kq10 (zdn φ)) (.ins 1 114 (.seq .x (.seq (.body (.loop ⟨[A33,(27,[A40,A2s])],A0k⟩ (λn=>kq9 (zdk φ n)) (λzk47=>(.seq (.seq (.join ⟨[(19,[A11,(6,A22)]),(27,[A40,A2s])],A0k⟩ (kq10 (zdo φ (uu9 zk47))) (.ins 1 163 (.seq .x (.seq (.ins 1 189 (.seq .x (.body (.seq .x (.seq (.join A1f (kq13 (z06 φ (uu9 zk47))) (.alt A1f (kq13 (z8y φ (uu9 zk47))) (kq13 (zaq φ (uu9 zk47))))) (.seq (.lo ⟨[(121,[A11,A40,A46,(4,A13),A27,A3j,A3v]),(193,[A11]),A33,A3x],A08⟩ (λn=>kq15 (z8u φ (uu9 zk47) n))) (.sn 2 (.seq (.body (.loop ⟨[(121,[A11,A40,A46,(4,A13),A27,(7,.own 4)]),(193,[A11]),A33,(27,[(2,A19),A2s])],[.box 200 [A2b,.val 39,.own 6,.own 7,.own 8,.own 9,.own 10],.box 40 [.own 11],.box 40 [.own 12],.box 260 [.own 13],A3k,.box 88 [.own 14,.own 15],A01,A01,A01,A04,A04,A01,A01,A3c,A01,A01]⟩ (λn=>kq14 (zbu φ (uu9 zk47) n)) (λzk115=>(.body (.seq .x (.seq (.lo ⟨[(121,[A11,A40,A46,(4,A13),A27,(7,.own 4),(8,A19),(47,A00),(48,A00)]),(193,[A11]),A33,(27,[(2,.ptr 6 0),A2s])],[.box 200 [A2b,.val 39,.own 7,.own 8,.own 9,.own 10,.own 11],.box 40 [.own 12],.box 40 [.own 13],.box 260 [.own 14],A3k,A2n,.box 88 [.own 15,.own 16],A01,A01,A01,A04,A04,A01,A01,A3c,A01,A01]⟩ (λn=>kq17 (z8v φ (uu9 zk47) (uu14 zk115) n))) (.sn 3 (.body (.rf 189 0 201 (.seq (.seq (.foc (1,some 1005) (2,some 0) .x) (.body (.loop ⟨[(137,[A2f,(1,A09),(2,A0u),(17,A2v),(18,A00),(19,A00)]),A1k,(193,[(0,A0x)]),(19,[(0,A0x)]),A44],[.emp,.box 196 [A0x],A2n,A01,A2k,.box 40 [.own 16],.box 40 [.own 17],.box 260 [.own 18],A3k,A2n,.box 88 [.own 19,.own 20],A01,A01,A01,.nst 40 3 24 (some 3),A04,A01,A01,A3c,A01,A01]⟩ (λn=>kq20 (z7e φ (uu14 zk115) n)) (λzk257=>(.sn 2 (.seq (.body (.sn 3 (.seq (.yl 28 189 0 .x .x) .x))) .x)))))) (.seq (.foc (1,some 1006) (2,some 0) .x) (.body (.loop ⟨[(137,[A2f,(1,A09),(2,A0u),(79,A2v),(80,A00),(81,A00)]),A1k,(193,[(0,A0x)]),(19,[(0,A0x)]),A44],[.emp,.box 196 [A0x],A2n,A01,A2k,.box 40 [.own 16],.box 40 [.own 17],.box 260 [.own 18],A3k,A2n,.box 88 [.own 19,.own 20],A01,A01,A01,A04,.nst 40 3 24 (some 3),A01,A01,A3c,A01,A01]⟩ (λn=>kq20 (z7f φ (uu14 zk115) n)) (λzk278=>(.sn 2 (.seq (.body (.sn 2 (.seq (.yl 40 189 0 .x .x) .x))) .x)))))))))))))))) (.seq (.join A0b (kq12 (z17 φ (uu9 zk47))) (.alt A0b (kq12 (z8x φ (uu9 zk47))) (kq12 (zap φ (uu9 zk47))))) .x)))))))) .x) (.seq .x (.seq (.lo ⟨[(193,[A11,(3,A0m),(4,A25),(5,A2v),A0v,A1t,(21,A0m),(22,A00),A3j]),A33,A3x],[A2o,A01,A01,A3c,.box 88 A1z,A01,A01,A01,A04,A04,A01,A01]⟩ (λn=>kq16 (z7d φ (uu9 zk47) n))) (.seq .x (.seq (.lo ⟨[(193,[A11,(4,A0m),(5,A25),A0v,A1t,(57,A2v),(58,A00),(59,A00)]),A33,A3x],[A2o,A01,A3c,A01,.box 88 A1z,A01,A01,A01,A04,A04,A01,A01]⟩ (λn=>kq16 (zbv φ (uu9 zk47) n))) (.seq .x (.seq (.body (.loop ⟨[(193,[A11,(4,A0m),(5,A25),A0v,(12,A00),(13,A00)]),A33,(27,[(2,A13),A2s])],A0g⟩ (λn=>kq14 (zbw φ (uu9 zk47) n)) (λzk195=>.x))) (.sn 3 (.seq (.lp A1i (λn=>kq13 (z8w φ (uu9 zk47) n)) (λzk209=>(.seq .x (.seq (.join A1i (kq13 (zbx φ (uu13 zk209))) (.body .x)) .x)))) .x)))))))))) .x)) .x) .x)))) (.seq (.lo ⟨[(19,[(10,A0a),A3a,(12,A00)]),(27,[A40,(5,A0u)])],[A01,.box 88 [A2v,.own 4],.box 200 [A2b,.val 39,.own 5,A0a,.own 6,.own 7,.own 8],A01,A01,A01,A01,A04,A04]⟩ (λn=>kq11 (zdl φ n))) .x))) .x)) .x) .x))) Tryz.func65 rfl (λ_=>by kernel_rfl) (by repeat' first|exact trivial|refine⟨?_,?_⟩|intro _ |(as_aux_lemma=>kernel_rfl)|exact zja ..|exact zjb ..|exact zjc ..)
theorem zoy[Dr](φ:Nat):zz TV Tryz.prog 68 (zoz φ):=fnC2 (φ:=φ) [ctF (zhp φ)] [] (.sn 3 (.seq (.lo ⟨[(72,[A1h,(5,A0m),(22,.val 39),A3j,A3v])],[A36,A01]⟩ (λn=>kq5 (zas φ n))) (.seq (.lo ⟨[(72,[(63,A0a),(64,A00),(65,A00)])],[A01]⟩ (λn=>kq3 (z9p φ n))) .x))) Tryz.func68 rfl (λ_=>by kernel_rfl) (by repeat' first|exact trivial|refine⟨?_,?_⟩|intro _|kernel_rfl)
theorem y0t[Dr](φ:Nat):zz TV Tryz.prog 30 (y0u φ):=fnC2 (φ:=φ) [ctF (zmk φ),ctF (zoy φ)] [] (.sn 4 (.seq (.lo ⟨[(45,[A1h,A1t,(21,.val 39),(22,A00),A3j])],[A36]⟩ (λn=>kq5 (zeq φ n))) .x)) Tryz.func30 rfl (λ_=>by kernel_rfl) (by repeat' first|exact trivial|refine⟨?_,?_⟩|intro _|kernel_rfl)
def z4s(φ:Nat):H TV (RTup TT [.row 76 53]):=.x
def z2f(P:Program)(φ:Nat):Env TV:=⟨P,lk [],lk [],lk [],lk []⟩
theorem zno(φ:Nat)(a):(zfj φ).F a=fnX TV (z2f Tryz.prog φ) φ Tryz.f55 [54] [.row 76 53] (z4s φ) a:=by kernel_rfl
theorem zfi(φ:Nat):fnO TV (z2f Tryz.prog φ) φ Tryz.f55 [.row 76 53] (z4s φ):=by
 unfold fnO;show obl _ _ _ _ _ _ _ _;unfold z4s
 repeat' (first|exact trivial |(refine⟨?_,?_⟩) |(intro _)|kernel_rfl)
theorem znn[Dr](φ:Nat):zz TV Tryz.prog 55 (zfj φ):=ykw (N:=z2f Tryz.prog φ) (y3k trivial trivial trivial trivial) (z4s φ) Tryz.func55 (by kernel_rfl) (zno φ) (zfi φ)
theorem ynm[Dr](a:Tup TT [54]):vls TV [54] a = [Px.ro (TV.ev 53) (TV.sz 53) (a.1:List z7)]:=by kernel_rfl
def z9f:H TV (RTup TT [.row 76 53]):=.seq .x (.seq (.seq .x (.cond (.seq (.join ⟨[(8,[(2,.own 0)])],[.row 76 53]⟩ (λz=>some (z.1,())) .x) .x) .x)) .x)
theorem zqv(φ:Nat):fnO TV (z2f Tryz.prog φ) φ Tryz.f55 [.row 76 53] z9f:=by
 unfold fnO;show obl _ _ _ _ _ _ _ _;unfold z9f
 repeat' (first|exact trivial |(refine⟨?_,?_⟩) |(intro _)|kernel_rfl)
theorem zqw(φ d:Nat):fnV TV (z2f Tryz.prog φ) φ Tryz.f55 [.row 76 53] z9f [.val (.slice none 0 d)]=some (([]:List z7),()):=by kernel_rfl
theorem zqx(φ d:Nat)(q:Addr):fnV TV (z2f Tryz.prog φ) φ Tryz.f55 [.row 76 53] (z4s φ) [.val (.slice (some q) 0 d)]=some (([]:List z7),()):=by kernel_rfl
theorem zsa[Dr](φ:Nat):zz TV Tryz.prog 55 (zhz φ):=by
 intro a r h;have g:z8n φ a.1=some r:=h;unfold z8n at g;cases hl:List.isEmpty (α:=z7) a.1 with
 |false=>rw[if_neg (by rw[hl];exact Bool.false_ne_true)] at g;exact znn φ a r g
 |true=>
  rw[if_pos hl] at g;have hr:=w0f g;subst hr;have j :(a.1:List z7) = []:=w3s.1 hl;intro r0 w vs h1 h2 h3;have u:vls TV (zhz φ).args a = [Px.ro (TV.ev 53) (TV.sz 53) (a.1:List z7)]:=ynm a;rw[u] at h2 h3;have h4:=h3 0 _ rfl;have h5:∃f d,vs.getD 0 undef = .slice f 0 d:=by
   rw[j] at h4;rcases h4 with⟨⟨f,d,e⟩,_⟩|⟨b,o,d,e,_⟩
   .exact⟨f,d,e⟩
   .exact⟨some ⟨b,o,none⟩,_,e⟩
  obtain⟨f,d,e⟩:=h5;have a0:zdv Tryz.prog 55 [eqv (.slice f 0 d)] (Kres TV Tryz.prog [.row 76 53] (([]:List z7),())):=by
   cases f with
   |none=>exact y5b (N:=z2f Tryz.prog φ) (y3k trivial trivial trivial trivial) (us:=[.val (.slice none 0 d)]) z9f Tryz.func55 (w0s (by kernel_rfl)) (zqw φ d) (zqv φ)
   |some q=>exact y5b (N:=z2f Tryz.prog φ) (y3k trivial trivial trivial trivial) (us:=[.val (.slice (some q) 0 d)]) (z4s φ) Tryz.func55 (w0s (by kernel_rfl)) (zqx φ d q) (zfi φ)
  refine a0 r0 w vs h1 h2 λi A z=>?_
  cases i with
  |zero=>simp only[w2f,w01] at z;subst z;exact e
  |succ i=>simp at z
theorem zaw[Dr](φ:Nat):zn4 TV Tryz.prog 119 (zax φ):=msC (φ:=φ) [] [] [] [] (.lp ⟨[(53,[A2f,A15,A1n,(3,.cmp 53),A17]),(1,[A2f])],[A14]⟩ (λn=>kq5 (z2x φ n)) (λzk10=>(.seq .x (.seq (.body (.lo ⟨[(53,[A2f,A15,A1n,(3,.cmp 53),A17,A3o]),(1,[A2f])],[A14]⟩ (λn=>kq6 (z2y φ (uu5 zk10) n)))) .x)))) Tryz.func119 rfl (λ_ _=>by kernel_rfl) (by repeat' first|exact trivial|refine⟨?_,?_⟩|intro _|kernel_rfl)
theorem zfo[Dr](φ:Nat):zn4 TV Tryz.prog 78 (zfp φ):=msC (φ:=φ) [] [ctM (zaw φ)] [] [] (.sn 2 (.seq (.body (.loop ⟨[(63,[A2f,A15,(2,.cmp 53),A0v,A1t,A17]),(1,[A2f])],[A14]⟩ (λn=>kq6 (z65 φ n)) (λzk10=>.x))) (.lp ⟨[(63,[A2f,A15,(2,.cmp 53),A0v]),(1,[A2f])],[A14]⟩ (λn=>kq4 (z8o φ n)) (λzk17=>(.seq .x (.body (.seq .x (.seq (.body .no) .x)))))))) Tryz.func78 rfl (λ_ _=>by kernel_rfl) (by repeat' first|exact trivial|refine⟨?_,?_⟩|intro _|kernel_rfl)
theorem z6i[Dr](φ:Nat):zn4 TV Tryz.prog 35 (zf9 φ):=msC (φ:=φ) [] [ctM (zfo φ)] [] [] .x Tryz.func35 rfl (λ_ _=>by kernel_rfl) (by repeat' first|exact trivial|refine⟨?_,?_⟩|intro _|kernel_rfl)
theorem zb1[Dr](φ:Nat):zz TV Tryz.prog 41 (ztq φ):=fnC2 (φ:=φ) [] [] .x Tryz.func41 rfl (λ_=>by kernel_rfl) (by repeat' first|exact trivial|refine⟨?_,?_⟩|intro _|kernel_rfl)
theorem znt[Dr](φ:Nat):zz TV Tryz.prog 40 (ycx φ):=fnC2 (φ:=φ) [] [] (.sn 2 (.seq (.lo ⟨[(18,[A1r,(6,A2b),A1t,A17])],[]⟩ (λn=>kq4 (z89 φ n))) .x)) Tryz.func40 rfl (λ_=>by kernel_rfl) (by repeat' first|exact trivial|refine⟨?_,?_⟩|intro _|kernel_rfl)
theorem zfd[Dr](φ:Nat):zz TV Tryz.prog 36 (znb φ):=fnC2 (φ:=φ) [ctF (zb1 φ),ctF (znt φ)] [] .x Tryz.func36 rfl (λ_=>by kernel_rfl) (by repeat' first|exact trivial|refine⟨?_,?_⟩|intro _|kernel_rfl)
theorem zfc[Dr](φ:Nat):zz TV Tryz.prog 18 (zna φ):=fnC2 (φ:=φ) [ctF (zsa φ),ctF (zfd φ)] [ctM (z6i φ)] (.sn 3 (.seq (.lo ⟨[(49,[A15,(4,A0a),(12,A0m),(13,A00),A3y])],[A0h,A14]⟩ (λn=>kq5 (z1r φ n))) .x)) Tryz.func18 rfl (λ_=>by kernel_rfl) (by repeat' first|exact trivial|refine⟨?_,?_⟩|intro _|kernel_rfl)
theorem zy3[Dr](φ:Nat):zz TV Tryz.prog 6 (zy4 φ):=fnC2 (φ:=φ) [ctF (zuk φ),ctF (zmq φ),ctF (z5q φ),ctF (zao φ),ctF (zbo φ),ctF (zbp φ),ctF (zxq φ),ctF (y0t φ),ctF (zfc φ)] [] (.sn 4 (.seq (.join ⟨[(161,[(1,A0a),(2,A0m),A46,A12])],[A0j,A0h,.box 42 [A2v,A00,A2b],A07]⟩ (kq6 (za0 φ)) (.ins 3 26 (.seq .x (.seq (.join ⟨[A3d,A2g],[A0j,A0h,.box 42 [.own 4,A00,.own 5],A0n,A07,A01,A01,A05]⟩ (kq8 (z4c φ)) (.ins 3 13 (.sn 3 (.seq (.lo ⟨[A0e,A1m,A2g],A3m⟩ (λn=>kq12 (zce φ n))) (.seq (.lo ⟨[A0d,A1m,A2g],A3m⟩ (λn=>kq12 (zcf φ n))) (.sn 2 (.seq (.join ⟨[A2z,(93,[A3h,A3i,(6,A13)]),(161,[A3h,A3i])],[A2h,A0j,A0h,.box 42 [.own 6,A00,.own 7],A01,A05,A07,A01]⟩ (kq7 (z7l φ)) (.seq .x (.body (.rf 13 0 95 (.seq .x (.seq (.lp ⟨[A0f,A29,A48,(161,[A2c,A2d])],[.emp,A1o,A1p,A03,A0j,A2i,A0h,.box 42 [.own 10,A00,.own 11],A01,A05,A07,A01]⟩ (λn=>kq12 (zcg φ n)) (λzk549=>(.sn 2 (.seq (.body (.seq .x (.lp ⟨[A06,A2e,A3u,(161,[(1,.own 5),A2d])],[.emp,A3e,A1p,A03,A0w,A0j,A0h,A37,A43,A01,A05,A07,A01]⟩ (λn=>kq16 (z96 φ (uu12 zk549) n)) (λzk566=>(.sn 2 (.seq (.body (.sn 2 (.seq (.yl 15 13 0 .x .x) .x))) .x)))))) .x)))) (.seq (.lp ⟨[A0p,A2t,(93,[A2c,A3i,(6,A19)]),(161,[A2c,A3i])],[.emp,A1o,A0h,A0n,A0j,A1w,A01,A05,A07,A01]⟩ (λn=>kq11 (zch φ n)) (λzk579=>(.sn 2 (.seq (.body (.sn 2 (.seq (.yl 11 13 0 .x .x) .x))) .x)))) (.seq (.lp ⟨[A0z,A2a,A4d,(161,[A3h,(2,A2v)])],[.emp,A0j,A1c,A0h,A1v,A01,A05,A07,A01]⟩ (λn=>kq11 (zci φ n)) (λzk591=>(.sn 2 (.seq (.body (.seq .x (.seq (.yl 7 13 0 .x .x) .x))) .x)))) (.yl 6 13 0 .x .x))))))))) .x))))) .x)) (.sn 5 (.seq (.lo ⟨[A24,A2g],[A0j,A0h,A38,A36,A07]⟩ (λn=>kq9 (z95 φ n))) .x)))) .x)) (.seq .x (.seq (.join ⟨[(161,[(1,A0a),(2,A0m),A46,A12,(5,A13),A0v])],[A0j,A0h,A38,A1s,A07,A07]⟩ (kq10 (za1 φ)) (.ins 3 26 (.seq .x (.seq (.join ⟨[A3d,A3p],[A0j,A0h,.box 42 [.own 5,A00,.own 6],A1d,A0o,A07,A01,A01,A05,A07]⟩ (kq12 (z4b φ)) (.ins 3 13 (.sn 3 (.seq (.lo ⟨[A0e,A1m,A3q],A34⟩ (λn=>kq16 (zc9 φ n))) (.seq (.lo ⟨[A0d,A1m,A3q],A34⟩ (λn=>kq16 (zca φ n))) (.sn 2 (.seq (.join ⟨[A2z,(93,[A3h,A3i,(6,A13)]),(161,[A3h,A3i,(3,A0x),A12])],[A1c,A0j,A0h,A1v,A0o,A01,A05,A07,A01,A07]⟩ (kq11 (z7k φ)) (.seq .x (.body (.rf 13 0 95 (.seq .x (.seq (.lp ⟨[A0f,A29,A48,(161,[A2c,A2d,(3,.ptr 8 0),A12])],[.emp,A1o,A1p,A03,A0j,A37,A0h,A43,A1q,A01,A05,A07,A01,A07]⟩ (λn=>kq16 (zcb φ n)) (λzk423=>(.sn 2 (.seq (.body (.seq .x (.lp ⟨[A06,A2e,A3u,(161,[(1,.own 5),A2d,(3,.ptr 9 0),A12])],[.emp,A3e,A1p,A03,A0w,A0j,A0h,A4c,.box 42 [.own 12,A00,.own 13],.box 42 [.own 14,A00,A2b],A01,A05,A07,A01,A07]⟩ (λn=>kq20 (z94 φ (uu16 zk423) n)) (λzk444=>(.sn 2 (.seq (.body (.sn 2 (.seq (.yl 15 13 0 .x .x) .x))) .x)))))) .x)))) (.seq (.lp ⟨[A0p,A2t,(93,[A2c,A3i,(6,A19)]),(161,[A2c,A3i,(3,.ptr 6 0),A12])],[.emp,A1o,A0h,A1d,A0j,.box 42 [.own 9,A00,.own 10],A31,A01,A05,A07,A01,A07]⟩ (λn=>kq15 (zcc φ n)) (λzk461=>(.sn 2 (.seq (.body (.sn 2 (.seq (.yl 11 13 0 .x .x) .x))) .x)))) (.seq (.lp ⟨[A0z,A2a,A4d,(161,[A3h,(2,A2v),(3,A19),A12])],[.emp,A0j,A0n,A0h,A1w,A0y,A01,A05,A07,A01,A07]⟩ (λn=>kq15 (zcd φ n)) (λzk477=>(.sn 2 (.seq (.body (.seq .x (.seq (.yl 7 13 0 .x .x) .x))) .x)))) (.yl 6 13 0 .x .x))))))))) .x))))) .x)) (.sn 5 (.seq (.lo ⟨[A24,A3p],[A0j,A0h,A1s,A36,A39,A07,A07]⟩ (λn=>kq13 (z93 φ n))) .x)))) .x)) (.seq (.join ⟨[(161,[(1,A0a),(2,A0m),A46,A12,(5,A13),A0v,(7,A0x),A17])],[A0j,A0h,A1s,A39,A1d,A07,A07,A01,A05]⟩ (kq13 (z5c φ)) (.ins 3 13 (.sn 3 (.seq (.lo ⟨[A0e,A30],A3f⟩ (λn=>kq17 (zc4 φ n))) (.seq (.lo ⟨[A0d,A30],A3f⟩ (λn=>kq17 (zc5 φ n))) (.sn 2 (.seq (.join ⟨[A2z,(161,[A3h,A3i,(3,A13),A12,(5,A0x),A0v])],[A1c,A0j,A0h,.box 42 [.own 7,A00,A2b],A1e,A01,A05,A07,A07]⟩ (kq12 (z7j φ)) (.seq .x (.body (.rf 13 0 95 (.seq .x (.seq (.lp ⟨[A0f,A29,(161,[A2c,A2d,(3,.ptr 7 0),A12,(5,.ptr 8 0),A0v])],[.emp,A1o,A1p,A03,A0j,A37,A0h,A31,A32,A01,A05,A07,A07]⟩ (λn=>kq17 (zc6 φ n)) (λzk270=>(.sn 2 (.seq (.body (.seq .x (.lp ⟨[A06,A2e,(161,[(1,.own 5),A2d,(3,.ptr 8 0),A12,(5,.ptr 9 0),A0v])],[.emp,A3e,A1p,A03,A0w,A0j,A0h,A4c,A32,A1q,A01,A05,A07,A07]⟩ (λn=>kq21 (z92 φ (uu17 zk270) n)) (λzk292=>(.sn 2 (.seq (.body (.sn 2 (.seq (.yl 15 13 0 .x .x) .x))) .x)))))) .x)))) (.seq (.lp ⟨[A0p,A2t,(161,[A2c,A3i,(3,A19),A12,(5,.ptr 6 0),A0v])],[.emp,A1o,A0h,A1d,A0j,A0o,A0y,A01,A05,A07,A07]⟩ (λn=>kq16 (zc7 φ n)) (λzk310=>(.sn 2 (.seq (.body (.sn 2 (.seq (.yl 11 13 0 .x .x) .x))) .x)))) (.seq (.lp ⟨[A0z,A2a,(161,[A3h,(2,A2v),(3,A0x),A12,(5,A19),A0v])],[.emp,A0j,A0n,A0h,A1e,A0o,A01,A05,A07,A07]⟩ (λn=>kq16 (zc8 φ n)) (λzk327=>(.sn 2 (.seq (.body (.seq .x (.seq (.yl 7 13 0 .x .x) .x))) .x)))) (.yl 6 13 0 .x .x))))))))) .x))))) .x)) (.seq .x (.seq (.join ⟨[(161,[A1h,A12,(5,A09),A0v,(7,A0u),A17,(9,A13),A1y])],[A38,A1s,A0n,A2i,A07,A07,A01,A05,A01,A05]⟩ (kq14 (z5d φ)) (.ins 3 13 (.sn 3 (.seq (.lo ⟨[A0e,A1j],A1u⟩ (λn=>kq20 (zdp φ n))) (.seq (.lo ⟨[A0d,A1j],A1u⟩ (λn=>kq20 (zdq φ n))) (.sn 2 (.seq (.join ⟨[A2z,(161,[A3z,A12,(5,A0u),A0v,(7,A13),A17])],[A2h,A39,.box 42 [.own 7,A00,A2b],A2i,A01,A05,A07,A07,A01,A05]⟩ (kq13 (z7i φ)) (.seq .x (.body (.rf 13 0 95 (.seq .x (.seq (.lp ⟨[A0f,A29,(161,[(3,.ptr 6 0),A12,(5,.ptr 7 0),A0v,(7,.ptr 8 0),A17])],[.emp,A1o,.box 38 [.own 9],A03,A0j,A4c,A32,A1q,.box 54 [.own 14,.own 15],A0h,A01,A05,A07,A07,A01,A05]⟩ (λn=>kq20 (zc1 φ n)) (λzk134=>(.sn 2 (.seq (.body (.seq .x (.lp ⟨[A06,A2e,(161,[(3,.ptr 8 0),A12,(5,.ptr 9 0),A0v,(7,.ptr 10 0),A17])],[.emp,A3e,A1p,A03,A0w,A0j,A0h,.box 54 [.own 11,.own 12],A1q,.box 42 [.own 14,A00,A2b],.box 54 [.own 15,.own 16],A01,A05,A07,A07,A01,A05]⟩ (λn=>kq24 (z91 φ (uu20 zk134) n)) (λzk159=>(.sn 2 (.seq (.body (.sn 2 (.seq (.yl 15 13 0 .x .x) .x))) .x)))))) .x)))) (.seq (.lp ⟨[A0p,A2t,A1j],[.emp,.box 37 [.own 7],A0h,A2i,A0y,A31,.box 54 [.own 12,.own 13],A0j,A01,A05,A07,A07,A01,A05]⟩ (λn=>kq19 (zc2 φ n)) (λzk180=>(.sn 2 (.seq (.body (.sn 2 (.seq (.yl 11 13 0 .x .x) .x))) .x)))) (.seq (.lp ⟨[A0z,A2a,(161,[(3,A13),A12,(5,A0x),A0v,(7,A19),A17])],[.emp,A0j,A0n,A1e,A0o,A4c,A01,A05,A07,A07,A01,A05]⟩ (λn=>kq18 (zc3 φ n)) (λzk199=>(.sn 2 (.seq (.body (.seq .x (.seq (.yl 7 13 0 .x .x) .x))) .x)))) (.yl 6 13 0 .x .x))))))))) .x))))) .x)) .x))))))) Tryz.func6 rfl (λ_=>by kernel_rfl) (by repeat' first|exact trivial|refine⟨?_,?_⟩|intro _|kernel_rfl)
theorem zlx[Dr](φ:Nat):zz TV Tryz.prog 22 (zly φ):=fnC2 (φ:=φ) [] [] (.sn 2 (.seq (.lo ⟨[(65,A3w)],[A03]⟩ (λn=>kq2 (z3i φ n))) .x)) Tryz.func22 rfl (λ_=>by kernel_rfl) (by repeat' first|exact trivial|refine⟨?_,?_⟩|intro _|kernel_rfl)
theorem y1g[Dr](φ:Nat):zz TV Tryz.prog 7 (y1h φ):=fnC2 (φ:=φ) [ctF (zlx φ)] [] .x Tryz.func7 rfl (λ_=>by kernel_rfl) (by repeat' first|exact trivial|refine⟨?_,?_⟩|intro _|kernel_rfl)
theorem zco[Dr](φ:Nat):zz TV Tryz.prog 171 (zq7 φ):=fnC2 (φ:=φ) [] [] .x Tryz.func171 rfl (λ_=>by kernel_rfl) (by repeat' first|exact trivial|refine⟨?_,?_⟩|intro _|kernel_rfl)
theorem zva[Dr](φ:Nat):zz TV Tryz.prog 131 (zvb φ):=fnC2 (φ:=φ) [ctF (zco φ)] [] .x Tryz.func131 rfl (λ_=>by kernel_rfl) (by repeat' first|exact trivial|refine⟨?_,?_⟩|intro _|kernel_rfl)
theorem zyl[Dr](φ:Nat):zz TV Tryz.prog 132 (zym φ):=fnC2 (φ:=φ) [ctF (zco φ)] [] .x Tryz.func132 rfl (λ_=>by kernel_rfl) (by repeat' first|exact trivial|refine⟨?_,?_⟩|intro _|kernel_rfl)
theorem zk3[Dr](φ:Nat):zz TV Tryz.prog 83 (zv6 φ):=fnC2 (φ:=φ) [ctF (zva φ),ctF (zyl φ)] [] (.sn 2 (.seq (.lo ⟨[(46,A3w)],[A0s]⟩ (λn=>kq2 (z6q φ n))) (.seq (.lo ⟨[(46,[A16,A12])],[A0s]⟩ (λn=>kq2 (z5e φ n))) .x))) Tryz.func83 rfl (λ_=>by kernel_rfl) (by repeat' first|exact trivial|refine⟨?_,?_⟩|intro _|kernel_rfl)
theorem z5j[Dr](φ:Nat):zz TV Tryz.prog 135 (zry φ):=fnC2 (φ:=φ) [] [] .x Tryz.func135 rfl (λ_=>by kernel_rfl) (by repeat' first|exact trivial|refine⟨?_,?_⟩|intro _|kernel_rfl)
theorem zls[Dr](φ:Nat):zz TV Tryz.prog 133 (zlt φ):=fnC2 (φ:=φ) [ctF (z5j φ)] [] .x Tryz.func133 rfl (λ_=>by kernel_rfl) (by repeat' first|exact trivial|refine⟨?_,?_⟩|intro _|kernel_rfl)
theorem zk4[Dr](φ:Nat):zz TV Tryz.prog 134 (zk5 φ):=fnC2 (φ:=φ) [ctF (z5j φ)] [] .x Tryz.func134 rfl (λ_=>by kernel_rfl) (by repeat' first|exact trivial|refine⟨?_,?_⟩|intro _|kernel_rfl)
theorem zrw[Dr](φ:Nat):zz TV Tryz.prog 136 (zrx φ):=fnC2 (φ:=φ) [ctF (z5j φ)] [] (.sn 2 (.seq (.lo ⟨[(57,[(0,.val 16),(3,A0a),A12])],[A3k]⟩ (λn=>kq3 (z61 φ n))) .x)) Tryz.func136 rfl (λ_=>by kernel_rfl) (by repeat' first|exact trivial|refine⟨?_,?_⟩|intro _|kernel_rfl)
theorem zf1[Dr](φ:Nat):zz TV Tryz.prog 84 (zvc φ):=fnC2 (φ:=φ) [ctF (zls φ),ctF (zk4 φ),ctF (z5j φ),ctF (zrw φ)] [] (.sn 2 (.seq (.lo ⟨[(106,A3w)],[A0r]⟩ (λn=>kq2 (z6s φ n))) (.seq (.lo ⟨[(106,[A16,A12])],[A0r]⟩ (λn=>kq2 (z5f φ n))) (.seq (.lo ⟨[(106,[A16,A27])],[A0r]⟩ (λn=>kq2 (z4d φ n))) .x)))) Tryz.func84 rfl (λ_=>by kernel_rfl) (by repeat' first|exact trivial|refine⟨?_,?_⟩|intro _|kernel_rfl)
theorem zyn[Dr](φ:Nat):zz TV Tryz.prog 85 (zyo φ):=fnC2 (φ:=φ) [ctF (z5j φ)] [] (.sn 2 (.seq (.lo ⟨[(96,[A16,A1r,A12])],[A03]⟩ (λn=>kq3 (z7t φ n))) (.seq (.lo ⟨[(96,[A16,A1r,A0v])],[A03]⟩ (λn=>kq3 (z5g φ n))) (.seq (.lo ⟨[(96,[A16,A1r,A1t])],[A03]⟩ (λn=>kq3 (z5h φ n))) .x)))) Tryz.func85 rfl (λ_=>by kernel_rfl) (by repeat' first|exact trivial|refine⟨?_,?_⟩|intro _|kernel_rfl)
theorem zvi[Dr](φ:Nat):zz TV Tryz.prog 86 (zvj φ):=fnC2 (φ:=φ) [] [] (.sn 2 (.seq (.lo ⟨[(51,[A16,A1r,A12])],[A03]⟩ (λn=>kq3 (z6u φ n))) (.seq (.lo ⟨[(51,[A16,A1r,A0v])],[A03]⟩ (λn=>kq3 (z5i φ n))) .x))) Tryz.func86 rfl (λ_=>by kernel_rfl) (by repeat' first|exact trivial|refine⟨?_,?_⟩|intro _|kernel_rfl)
theorem zv4[Dr](φ:Nat):zz TV Tryz.prog 87 (zv5 φ):=fnC2 (φ:=φ) [] [] (.seq .x (.seq (.lo ⟨[(62,A3w)],A3l⟩ (λn=>kq2 (z6o φ n))) (.seq (.lo ⟨[(62,[A16,A27])],A3l⟩ (λn=>kq2 (z6p φ n))) .x))) Tryz.func87 rfl (λ_=>by kernel_rfl) (by repeat' first|exact trivial|refine⟨?_,?_⟩|intro _|kernel_rfl)
theorem zv0[Dr](φ:Nat):zz TV Tryz.prog 172 (zv1 φ):=fnC2 (φ:=φ) [] [] (.sn 2 (.seq (.body (.loop A2w (λn=>kq4 (z3x φ n)) (λd=>(.seq .x (.seq (.body (.seq (.join A2w (kq4 (z99 φ (uu4 d))) (.seq .x .x)) .x)) .x))))) .x)) Tryz.func172 rfl (λ_=>by kernel_rfl) (by repeat' first|exact trivial|refine⟨?_,?_⟩|intro _|kernel_rfl)
theorem y1y[Dr](φ:Nat):zz TV Tryz.prog 137 (y1z φ):=fnC2 (φ:=φ) [ctF (zv0 φ)] [] (.sn 2 (.seq (.lp A3g (λn=>kq3 (z69 φ n)) (λd=>(.seq .x (.seq (.body (.seq (.join A3g (kq3 (zb7 φ (uu3 d))) (.seq .x .x)) .x)) .x)))) .x)) Tryz.func137 rfl (λ_=>by kernel_rfl) (by repeat' first|exact trivial|refine⟨?_,?_⟩|intro _|kernel_rfl)
theorem zv2[Dr](φ:Nat):zz TV Tryz.prog 88 (zv3 φ):=fnC2 (φ:=φ) [ctF (y1y φ)] [] .x Tryz.func88 rfl (λ_=>by kernel_rfl) (by repeat' first|exact trivial|refine⟨?_,?_⟩|intro _|kernel_rfl)
theorem z9w[Dr](φ:Nat):zz TV Tryz.prog 42 (zlr φ):=fnC2 (φ:=φ) [ctF (zk3 φ),ctF (zf1 φ),ctF (zyn φ),ctF (zvi φ),ctF (zv4 φ),ctF (zv2 φ)] [] (.sn 7 (.seq (.lo ⟨[(70,[A16,A12])],[A03]⟩ (λn=>kq2 (z1y φ n))) .x)) Tryz.func42 rfl (λ_=>by kernel_rfl) (by repeat' first|exact trivial|refine⟨?_,?_⟩|intro _|kernel_rfl)
theorem zcw[Dr](φ:Nat):zz TV Tryz.prog 43 (zqk φ):=fnC2 (φ:=φ) [] [] .x Tryz.func43 rfl (λ_=>by kernel_rfl) (by repeat' first|exact trivial|refine⟨?_,?_⟩|intro _|kernel_rfl)
theorem zhx[Dr](φ:Nat):zz TV Tryz.prog 51 (zs6 φ):=fnC2 (φ:=φ) [ctF (zcw φ)] [] .x Tryz.func51 rfl (λ_=>by kernel_rfl) (by repeat' first|exact trivial|refine⟨?_,?_⟩|intro _|kernel_rfl)
theorem zkf[Dr](φ:Nat):zz TV Tryz.prog 52 (zvw φ):=fnC2 (φ:=φ) [ctF (zcw φ)] [] .x Tryz.func52 rfl (λ_=>by kernel_rfl) (by repeat' first|exact trivial|refine⟨?_,?_⟩|intro _|kernel_rfl)
theorem zht[Dr](φ:Nat):zz TV Tryz.prog 148 (zrp φ):=fnC2 (φ:=φ) [ctF (zco φ)] [] .x Tryz.func148 rfl (λ_=>by kernel_rfl) (by repeat' first|exact trivial|refine⟨?_,?_⟩|intro _|kernel_rfl)
theorem zrq[Dr](φ:Nat):zz TV Tryz.prog 178 (zrr φ):=fnC2 (φ:=φ) [] [] .x Tryz.func178 rfl (λ_=>by kernel_rfl) (by repeat' first|exact trivial|refine⟨?_,?_⟩|intro _|kernel_rfl)
theorem zv7[Dr](φ:Nat):zz TV Tryz.prog 147 (zv8 φ):=fnC2 (φ:=φ) [ctF (zk3 φ),ctF (zht φ),ctF (zrq φ)] [] (.sn 5 (.seq (.lo ⟨[(106,[A15,A2l,A49,A17])],[A0s,A01]⟩ (λn=>kq4 (z6r φ n))) (.sn 2 (.seq (.body (.loop ⟨[(106,[A2l,A49,(9,A22)])],[A0s,A01]⟩ (λn=>kq3 (z1w φ n)) (λzk13=>(.seq .x (.body (.seq .x (.lp ⟨[(106,[A2l,A49,(9,A22),A1y])],[A0s,A01]⟩ (λn=>kq4 (z0t φ (uu3 zk13) n)) (λzk18=>(.seq .x (.seq (.body (.sn 3 (.seq (.join A1a (kq7 (z7n φ (uu4 zk18))) (.seq .x .x)) (.seq (.join A1a (kq7 (z5x φ (uu4 zk18))) (.seq .x .x)) .x)))) .x)))))))))) .x)))) Tryz.func147 rfl (λ_=>by kernel_rfl) (by repeat' first|exact trivial|refine⟨?_,?_⟩|intro _|kernel_rfl)
theorem zq5[Dr](φ:Nat):zz TV Tryz.prog 96 (zq6 φ):=fnC2 (φ:=φ) [ctF (zv7 φ),ctF (zht φ)] [] .x Tryz.func96 rfl (λ_=>by kernel_rfl) (by repeat' first|exact trivial|refine⟨?_,?_⟩|intro _|kernel_rfl)
theorem zvd[Dr](φ:Nat):zz TV Tryz.prog 97 (zve φ):=fnC2 (φ:=φ) [ctF (zf1 φ),ctF (z5j φ)] [] (.sn 4 (.seq (.lo ⟨[(54,[A15,A1n,A1h,A3o])],[A0r]⟩ (λn=>kq4 (z5z φ n))) .x)) Tryz.func97 rfl (λ_=>by kernel_rfl) (by repeat' first|exact trivial|refine⟨?_,?_⟩|intro _|kernel_rfl)
theorem zvf[Dr](φ:Nat):zz TV Tryz.prog 98 (zvg φ):=fnC2 (φ:=φ) [ctF (zf1 φ),ctF (z5j φ)] [] (.sn 5 (.seq (.lo ⟨[(118,[A15,A2l,A49,A17])],[A0r,A01]⟩ (λn=>kq4 (z6t φ n))) (.seq .x (.seq (.lp ⟨[(118,[A15,A2l,A49,A3o])],[A0r,A01]⟩ (λn=>kq4 (z60 φ n)) (λzk14=>(.seq .x (.seq (.body (.lo ⟨[(118,[A15,A2l,A49,A3o,A1y])],[A0r,A01]⟩ (λn=>kq5 (z1z φ (uu4 zk14) n)))) .x)))) (.seq .x (.seq (.lo ⟨[(118,[A15,(7,A0a),(13,A0m),A3y])],[A01,.row 157 13]⟩ (λn=>kq4 (z3d φ n))) .x)))))) Tryz.func98 rfl (λ_=>by kernel_rfl) (by repeat' first|exact trivial|refine⟨?_,?_⟩|intro _|kernel_rfl)
theorem zkg[Dr](φ:Nat):zz TV Tryz.prog 53 (zvx φ):=fnC2 (φ:=φ) [ctF (zq5 φ),ctF (zvd φ),ctF (zvf φ)] [] (.sn 4 (.seq (.join ⟨[(103,[A1h,A3n,(5,A0u),A17,A1y])],[A03,A0w,A35]⟩ (kq5 (z4h φ)) (.seq .x .x)) (.seq .x (.seq (.lo ⟨[(103,[A45,(5,A09),A17,A1y,(13,.val 14),(15,A00)])],[A0w,A35]⟩ (λn=>kq6 (z4g φ n))) .x)))) Tryz.func53 rfl (λ_=>by kernel_rfl) (by repeat' first|exact trivial|refine⟨?_,?_⟩|intro _|kernel_rfl)
theorem y22[Dr](φ:Nat):zz TV Tryz.prog 14 (y23 φ):=fnC2 (φ:=φ) [ctF (z9w φ),ctF (zhx φ),ctF (zkf φ),ctF (zkg φ)] [] (.sn 6 (.seq (.lo ⟨[(221,[A28,A2r,A1h,A47,(9,A0u),A1y,A3a,(12,A00)])],A0q⟩ (λn=>kq10 (z4x φ n))) (.seq (.lo ⟨[(221,[A28,A2r,A1h,A47,(9,A0u),A1y,A3a,(13,A00)])],A0q⟩ (λn=>kq10 (z3t φ n))) (.sn 3 (.seq (.lp ⟨[(221,[A28,A2r,A1h,A47,(9,A0u),A3a,A3y,(15,A00)])],A0q⟩ (λn=>kq10 (z3u φ n)) (λzk39=>(.seq .x (.seq (.body (.lo ⟨[(221,[A28,A2r,A1h,A47,(9,A0u),A3a,A3y,(15,A00),(16,A00)])],A0q⟩ (λn=>kq11 (z32 φ (uu10 zk39) n)))) .x)))) (.seq (.lo ⟨[(221,[A28,A2r,(6,A02),(9,A09),A3a,A3y,(19,A00)])],[A3t,A2h,A01,A05,A01,A05]⟩ (λn=>kq9 (z20 φ n))) (.seq (.lo ⟨[(221,[A28,(6,A02),(9,A09),A3a,A3y,(20,A00)])],[A3t,A2h,A01,A05,A01,A05]⟩ (λn=>kq8 (z3v φ n))) .x))))))) Tryz.func14 rfl (λ_=>by kernel_rfl) (by repeat' first|exact trivial|refine⟨?_,?_⟩|intro _|kernel_rfl)
theorem zka[Dr](φ:Nat):zz TV Tryz.prog 10 (zkb φ):=fnC2 (φ:=φ) [] [] (.sn 2 (.seq (.lo ⟨[(34,[A3r,A27])],[]⟩ (λn=>kq2 (z2r φ n))) .x)) Tryz.func10 rfl (λ_=>by kernel_rfl) (by repeat' first|exact trivial|refine⟨?_,?_⟩|intro _|kernel_rfl)
theorem zol[Dr](φ:Nat):zz TV Tryz.prog 58 (zom φ):=fnC2 (φ:=φ) [] [] .x Tryz.func58 rfl (λ_=>by kernel_rfl) (by repeat' first|exact trivial|refine⟨?_,?_⟩|intro _|kernel_rfl)
theorem y0n[Dr](φ:Nat):zz TV Tryz.prog 160 (y0o φ):=fnC2 (φ:=φ) [] [] (.seq .x (.seq (.lo ⟨[(43,[(0,.val 51),(1,A22),(7,.val 51),A17,A3o])],[]⟩ (λn=>kq5 (z8l φ n))) .x)) Tryz.func160 rfl (λ_=>by kernel_rfl) (by repeat' first|exact trivial|refine⟨?_,?_⟩|intro _|kernel_rfl)
theorem zxh[Dr](φ:Nat):zz TV Tryz.prog 59 (zxi φ):=fnC2 (φ:=φ) [ctF (y0n φ)] [] (.sn 2 (.seq (.join ⟨[A41],[A2j]⟩ (kq1 (zf φ)) (.seq .x (.cond (.ins 0 105 (.sn 4 (.body (.seq .x (.cond .x (.seq .x (.cond (.seq (.ins 1 156 (.seq .x (.seq (.join ⟨[(66,[A11,A15,A3n]),(135,[A11]),A41],[A2j,.box 151 [.val 3]]⟩ (kq3 (z6d φ)) (.seq .x .x)) .x)) .x) .x) (.seq (.join ⟨[(135,[A11,(2,.ptr 0 9),(20,A00),(43,A22)]),A41],[A2j]⟩ (kq3 (z52 φ)) (.seq .x .x)) (.cond (.seq (.ins 1 156 (.seq .x (.seq (.join A0i (kq3 (z54 φ)) (.seq .x .x)) .x)) .x) .x) (.seq .x (.cond (.sn 2 (.seq (.ins 1 156 (.seq .x (.seq (.join A0i (kq3 (z56 φ)) (.seq .x .x)) .x)) .x) .x)) (.seq (.join ⟨[(135,[A11,(2,.ptr 0 9),(116,A22)]),A41],[A2j]⟩ (kq2 (z57 φ)) (.seq .x .x)) (.cond (.seq (.ins 1 156 (.seq .x (.seq (.join A0i (kq3 (z58 φ)) (.seq .x .x)) .x)) .x) .x) .x)))))))))))) .x) (.ins 0 106 (.sn 2 (.body (.seq .x (.cond .x (.seq .x (.cond (.seq .x (.seq (.ins 1 156 (.seq .x (.seq (.join A18 (kq3 (z59 φ)) (.seq .x .x)) .x)) .x) .x)) (.seq .x (.cond .x (.seq (.join ⟨[(168,[A11,(2,.ptr 0 9),A3o,(91,A22)]),A41],[A2j]⟩ (kq3 (z1l φ)) (.seq .x .x)) (.cond .x (.seq .x (.cond .x (.seq .x (.cond (.seq .x (.seq (.ins 1 156 (.seq .x (.seq (.join A18 (kq3 (z5a φ)) (.seq .x .x)) .x)) .x) .x)) .x)))))))))))))) .x)))) (.seq (.seq .x (.body (.unr 12 .x))) .x))) Tryz.func59 rfl (λ_=>by kernel_rfl) (by repeat' first|exact trivial|refine⟨?_,?_⟩|intro _|kernel_rfl)
theorem y0l[Dr](φ:Nat):zz TV Tryz.prog 23 (y0m φ):=fnC2 (φ:=φ) [ctF (z5q φ),ctF (zol φ),ctF (zxh φ)] [] .x Tryz.func23 rfl (λ_=>by kernel_rfl) (by repeat' first|exact trivial|refine⟨?_,?_⟩|intro _|kernel_rfl)
theorem zs8[Dr](φ:Nat):zz TV Tryz.prog 109 (zs9 φ):=fnC2 (φ:=φ) [ctF (zb1 φ),ctF (znt φ)] [] .x Tryz.func109 rfl (λ_=>by kernel_rfl) (by repeat' first|exact trivial|refine⟨?_,?_⟩|intro _|kernel_rfl)
theorem zig[Dr](φ:Nat):zz TV Tryz.prog 108 (zih φ):=fnC2 (φ:=φ) [ctF (zb1 φ),ctF (zs8 φ),ctF (znt φ)] [] .x Tryz.func108 rfl (λ_=>by kernel_rfl) (by repeat' first|exact trivial|refine⟨?_,?_⟩|intro _|kernel_rfl)
theorem zqp[Dr](φ:Nat):zz TV Tryz.prog 62 (y2c φ):=fnC2 (φ:=φ) [] [] .x Tryz.func62 rfl (λ_=>by kernel_rfl) (by repeat' first|exact trivial|refine⟨?_,?_⟩|intro _|kernel_rfl)
theorem zm4[Dr](φ:Nat):zz TV Tryz.prog 60 (zm5 φ):=fnC2 (φ:=φ) [ctF (zig φ),ctF (zqp φ)] [ctM (z6i φ)] (.sn 2 (.seq (.lo ⟨[(80,[A15,A3s,(14,A1x),(15,A00),(16,A00)])],[A14]⟩ (λn=>kq5 (z29 φ n))) (.sn 2 (.seq (.lp ⟨[(80,[(8,A0a),(39,A0m),(40,A00),(41,A00)])],[.map 56 57 0,A14]⟩ (λn=>kq4 (z10 φ n)) (λzk14=>(.sn 2 (.seq (.body (.seq .x (.lp ⟨[(80,[(8,A0a),(10,A09),(39,A25),(40,A00),(41,A00),(47,.val 51),(48,A00),(49,A00)])],[.map 56 57 0,.box 76 [.val 53],A14]⟩ (λn=>kq8 (z0a φ (uu4 zk14) n)) (λzk23=>(.sn 2 (.seq (.body (.sn 2 (.seq (.seq .x (.cond (.seq (.foc (8,none) (54,none) .x) .x) .x)) (.seq (.seq (.foc (8,none) (54,none) .x) .x) .x)))) .x)))))) .x)))) .x)))) Tryz.func60 rfl (λ_=>by kernel_rfl) (by repeat' first|exact trivial|refine⟨?_,?_⟩|intro _|kernel_rfl)
theorem ymc:SoOK TV Tryz.prog 63 ⟨112,0,2,3⟩:=ynj (V:=TV) (ρ:=Tryz.sortedK_ren) (σ:=Tryz.keysK_ren) (τ:=Tryz.lays189_ren) Tryz.sortedK Tryz.keysK Tryz.lays189 (kc:=0) (vc:=2) (E:=3) (λn:Int=>n) (λ_=>rfl) (λ_=>rfl) (λ_=>rfl) (by kernel_rfl) rfl rfl (enters_of Tryz.func111 (by kernel_rfl) rfl) (enters_of Tryz.func112 (by kernel_rfl) rfl)
theorem zki(φ:Nat)(z z':Sh.Z TT (⟨[(16,[(0,.own 0),(7,.own 1)]),(50,[(1,.val 0),(5,.val 58),(6,.own 0),(15,.val 54),(16,.val 0),(17,.val 0),(33,.val 51),(34,.val 0),(35,.val 0)])],[.map 0 2 0,.it 0 2]⟩:Sh))(h:Sh.eqZ TT (⟨[(16,[(0,.own 0),(7,.own 1)]),(50,[(1,.val 0),(5,.val 58),(6,.own 0),(15,.val 54),(16,.val 0),(17,.val 0),(33,.val 51),(34,.val 0),(35,.val 0)])],[.map 0 2 0,.it 0 2]⟩:Sh) z z')(j:∀o∈(Sh.enc TV (⟨[(16,[(0,.own 0),(7,.own 1)]),(50,[(1,.val 0),(5,.val 58),(6,.own 0),(15,.val 54),(16,.val 0),(17,.val 0),(33,.val 51),(34,.val 0),(35,.val 0)])],[.map 0 2 0,.it 0 2]⟩:Sh) z).ob,okO TV o):∀k n,z2a φ k (z0g φ k n) z'.1 z'.2.1 z'.2.2.1 z'.2.2.2.1 z'.2.2.2.2.1 z'.2.2.2.2.2.1 z'.2.2.2.2.2.2.1 z'.2.2.2.2.2.2.2.1 z'.2.2.2.2.2.2.2.2.1 z'.2.2.2.2.2.2.2.2.2.1=z2a φ k (z0g φ k n) z.1 z.2.1 z.2.2.1 z.2.2.2.1 z.2.2.2.2.1 z.2.2.2.2.2.1 z.2.2.2.2.2.2.1 z.2.2.2.2.2.2.2.1 z.2.2.2.2.2.2.2.2.1 z.2.2.2.2.2.2.2.2.2.1:=by obtain⟨a,b,c,d,e,f,g,i,m,x,u⟩:=z;obtain⟨a',b',c',d',e',f',g',i',m',x',u'⟩:=z';have h:a=a'/\b=b'/\c=c'/\d=d'/\e=e'/\f=f'/\g=g'/\i=i'/\m=m'/\x.Perm x'/\True:=h;obtain⟨rfl,rfl,rfl,rfl,rfl,rfl,rfl,rfl,rfl,hp,_⟩:=h;have j:∀o∈[(SO.x (.map 0 2 0 m none):SO TT),.x (.it 0 2 x none)],okO TV o:=j;have hm:Srt' kl_0 m:=j (.x (.map 0 2 0 m none)) (by simp);have hd:Ndp kl_0 x:=j (.x (.it 0 2 x none)) (by simp);exact λk n=>(zik φ hp hd k (n+1) a b c d e f g i m hm).symm
theorem zkh(φ:Nat):zz TV Tryz.prog 24 (zkj φ):=fnC (φ:=φ) [ctF (zm4 φ),ctF (zqp φ)] [] [] [ctS ymc] (.sn 3 (.seq (.lp ⟨[(50,[A15,(5,.val 58),(6,A0a),(15,A1x),(16,A00),(17,A00)])],[.map 0 2 0]⟩ (λn=>kq6 (z5o φ n)) (λzk10=>(.sn 2 (.seq (.body (.sn 2 (.lp ⟨[A0t],[.map 0 2 0]⟩ (λn=>kq9 (z84 φ (uu6 zk10) n)) (λzk20=>(.sn 2 (.seq (.body (.seq .x (.ins 5 61 (.lp A2u (λn=>kq10 (z0g φ (uu9 zk20) n)) (λzk32=>(.seq (.pk A2u (kq10 (z2a φ (uu9 zk20) (uu10 zk32)))) .x))) .x))) .x)))))) .x)))) .x)) Tryz.func24 rfl (λ_=>by kernel_rfl) (by repeat' first|exact trivial|refine⟨?_,?_⟩|intro _ |(rename_i d f;have q:=zki φ _ _ d f;exact q _ _)|kernel_rfl)
theorem zsb[Dr](φ:Nat):zz TV Tryz.prog 79 (zsc φ):=fnC2 (φ:=φ) [] [] (.seq .x (.seq (.lo ⟨[(19,[(0,A2b),A15,A1t,A17])],[]⟩ (λn=>kq4 (z64 φ n))) .x)) Tryz.func79 rfl (λ_=>by kernel_rfl) (by repeat' first|exact trivial|refine⟨?_,?_⟩|intro _|kernel_rfl)
theorem zm9[Dr](φ:Nat):zz TV Tryz.prog 37 (zma φ):=fnC2 (φ:=φ) [ctF (zsb φ)] [] .x Tryz.func37 rfl (λ_=>by kernel_rfl) (by repeat' first|exact trivial|refine⟨?_,?_⟩|intro _|kernel_rfl)
theorem zfb[Dr](φ:Nat):zz TV Tryz.prog 39 (zn9 φ):=fnC2 (φ:=φ) [ctF (zb1 φ),ctF (znt φ)] [] .x Tryz.func39 rfl (λ_=>by kernel_rfl) (by repeat' first|exact trivial|refine⟨?_,?_⟩|intro _|kernel_rfl)
def ybe:Msp TV:=⟨64,1,[.fn 39],λl _=>zmb l⟩
theorem ybd[Dr]:zn4 TV Tryz.prog 38 ybe:=
 yba (V:=TV) (c:=1) (ρ:=Tryz.sortEv_ren) Tryz.sortEv Tryz.isAgg64 (by rw[show TV.sz 1=5 by kernel_rfl];exact Tryz.sizeOf64) (by kernel_rfl) (by kernel_rfl) ⟨Tryz.f39,Tryz.func39,by kernel_rfl,by kernel_rfl⟩ ybl λa b h j=>
  @zdv.mono ⟨True⟩ _ _ _ _ _ (@zfb ⟨True⟩ 10 (a,b,()) (z2z a b,()) (y7i a b)) λx news ⟨B,g,d,f⟩=>by
   cases B with
   |nil=>exact⟨d,f⟩
   |cons y B=>cases g
end Px
end
section
set_option maxHeartbeats 4000000
set_option maxRecDepth 100000
namespace Px
open Go Go.RowKit Go.Proofs
theorem zrd(φ:Nat)(z z':Sh.Z TT (⟨[(203,[(2,.val 0),(6,.own 0),(182,.own 1)])],[.row 64 1,.it 59 0]⟩:Sh))(h:Sh.eqZ TT (⟨[(203,[(2,.val 0),(6,.own 0),(182,.own 1)])],[.row 64 1,.it 59 0]⟩:Sh) z z')(j:∀o∈(Sh.enc TV (⟨[(203,[(2,.val 0),(6,.own 0),(182,.own 1)])],[.row 64 1,.it 59 0]⟩:Sh) z).ob,okO TV o):∀n,z0q φ (z00 φ n) z'.1 z'.2.1 z'.2.2.1=z0q φ (z00 φ n) z.1 z.2.1 z.2.2.1:=by obtain⟨a,b,c,u⟩:=z;obtain⟨d,f,g,u'⟩:=z';have h:a=d/\b=f/\c.Perm g/\True:=h;obtain⟨rfl,rfl,hp,_⟩:=h;exact λn=>(zte φ hp (n+1) a b).symm
theorem zrc(φ:Nat):zz TV Tryz.prog 11 (zre φ):=fnC2 (φ:=φ) [ctF (z5q φ),ctF (y0l φ),ctF (zkh φ),ctF (zfd φ),ctF (zm9 φ),ctF (zfb φ)] [ctM (z6i φ),ctM (ybd)] (.sn 4 (.seq (.lo ⟨[(203,[A1n,A1h,A21,(9,A0m),(36,A1x),(37,A00),(38,A00)])],[A03,A14]⟩ (λn=>kq6 (z3k φ n))) (.seq .x (.seq (.frz [(3,none),(12,none)] .x) (.sn 3 (.seq (.lo ⟨[(203,[A1n,(3,.rop 28),A21,(9,A0a),(12,A2b),(13,A0m),(14,A25),(15,A2v),(73,A00),(74,A00)])],[A14,.row 74 52,A01,A3k]⟩ (λn=>kq9 (z3l φ n))) (.seq (.lo ⟨[(203,[A1n,(3,.rop 28),A21,(12,A2b),(13,A0a),(14,A0m),(15,A25),(81,A2v),(82,A00),(83,A00)])],[.row 74 52,A01,A3k,A14]⟩ (λn=>kq9 (z0p φ n))) (.seq .x (.seq (.lo ⟨[(203,[A1n,(3,.rop 28),A21,(12,A2b),(14,A0a),(15,A0m),(20,A25),(138,A2v),(139,A00),(140,A00)])],[A01,A3k,.map 59 0 0,.row 74 52]⟩ (λn=>kq9 (z07 φ n))) (.seq (.seq (.frz [(20,none)] .x) (.body (.loop A2p (λn=>kq3 (z00 φ n)) (λzk49=>(.seq (.pk A2p (kq3 (z0q φ (uu3 zk49)))) .x))))) .x)))))))))) Tryz.func11 rfl (λ_=>by kernel_rfl) (by repeat' first|exact trivial|refine⟨?_,?_⟩|intro _ |(rename_i d f;have q:=zrd φ _ _ d f;exact q _)|kernel_rfl)
theorem zyp[Dr](φ:Nat):zz TV Tryz.prog 138 (zyq φ):=fnC2 (φ:=φ) [] [] (.seq .x (.seq (.seq .x (.body (.seq .x (.cond .x (.seq .x (.cond .x (.seq (.join ⟨[(30,[A1r,(8,A22)])],[]⟩ (kq2 (zb8 φ)) (.seq .x .x)) (.cond .x (.seq .x (.cond .x (.seq .x (.cond .x (.seq .x (.cond .x (.seq .x (.cond .x (.seq .x (.cond .x (.seq .x (.cond .x (.seq (.join ⟨[(30,[A1r,(23,A22)])],[]⟩ (kq2 (zb9 φ)) (.seq .x .x)) .x))))))))))))))))))))) .x)) Tryz.func138 rfl (λ_=>by kernel_rfl) (by repeat' first|exact trivial|refine⟨?_,?_⟩|intro _|kernel_rfl)
theorem z3f[Dr](φ:Nat):zz TV Tryz.prog 139 (zq9 φ):=fnC2 (φ:=φ) [] [] .x Tryz.func139 rfl (λ_=>by kernel_rfl) (by repeat' first|exact trivial|refine⟨?_,?_⟩|intro _|kernel_rfl)
theorem zlv[Dr](φ:Nat):zz TV Tryz.prog 140 (zlw φ):=fnC2 (φ:=φ) [ctF (z3f φ)] [] .x Tryz.func140 rfl (λ_=>by kernel_rfl) (by repeat' first|exact trivial|refine⟨?_,?_⟩|intro _|kernel_rfl)
theorem y6t[Dr](φ:Nat):zz TV Tryz.prog 141 (y6u φ):=fnC2 (φ:=φ) [] [] (.seq .x (.seq (.lo ⟨[(17,[(0,.val 49),(1,.val 60),A27])],[]⟩ (λn=>kq3 (zcs φ n))) .x)) Tryz.func141 rfl (λ_=>by kernel_rfl) (by repeat' first|exact trivial|refine⟨?_,?_⟩|intro _|kernel_rfl)
theorem zvs[Dr](φ:Nat):zz TV Tryz.prog 173 (zvt φ):=fnC2 (φ:=φ) [ctF (z3f φ)] [] (.sn 3 (.seq (.seq .x (.body (.seq (.join ⟨[(34,[A27,A3v,(25,A22)])],[]⟩ (kq3 (za6 φ)) (.seq .x .x)) .x))) .x)) Tryz.func173 rfl (λ_=>by kernel_rfl) (by repeat' first|exact trivial|refine⟨?_,?_⟩|intro _|kernel_rfl)
theorem zvo[Dr](φ:Nat):zz TV Tryz.prog 174 (zvp φ):=fnC2 (φ:=φ) [ctF (z3f φ)] [] (.seq .x (.seq (.seq .x (.body (.seq .x (.cond .x (.seq (.join ⟨[(51,[A2l,A3z,A1t,(17,A22)])],[A03,A2m]⟩ (kq4 (za5 φ)) (.seq .x .x)) .x))))) .x)) Tryz.func174 rfl (λ_=>by kernel_rfl) (by repeat' first|exact trivial|refine⟨?_,?_⟩|intro _|kernel_rfl)
theorem zrz[Dr](φ:Nat):zz TV Tryz.prog 175 (zs0 φ):=fnC2 (φ:=φ) [ctF (z3f φ)] [] .x Tryz.func175 rfl (λ_=>by kernel_rfl) (by repeat' first|exact trivial|refine⟨?_,?_⟩|intro _|kernel_rfl)
theorem zyr[Dr](φ:Nat):zz TV Tryz.prog 176 (zys φ):=fnC2 (φ:=φ) [ctF (z3f φ)] [] (.seq .x (.seq (.seq .x (.body (.seq (.join ⟨[(24,[A16,A12,(5,A22)])],[A2m]⟩ (kq3 (zba φ)) (.seq .x .x)) .x))) .x)) Tryz.func176 rfl (λ_=>by kernel_rfl) (by repeat' first|exact trivial|refine⟨?_,?_⟩|intro _|kernel_rfl)
theorem zvu[Dr](φ:Nat):zz TV Tryz.prog 142 (zvv φ):=fnC2 (φ:=φ) [ctF (z3f φ),ctF (zvs φ),ctF (zvo φ),ctF (zrz φ),ctF (zyr φ)] [] .x Tryz.func142 rfl (λ_=>by kernel_rfl) (by repeat' first|exact trivial|refine⟨?_,?_⟩|intro _|kernel_rfl)
theorem zvk[Dr](φ:Nat):zz TV Tryz.prog 143 (zvl φ):=fnC2 (φ:=φ) [] [] .x Tryz.func143 rfl (λ_=>by kernel_rfl) (by repeat' first|exact trivial|refine⟨?_,?_⟩|intro _|kernel_rfl)
theorem zvq[Dr](φ:Nat):zz TV Tryz.prog 144 (zvr φ):=fnC2 (φ:=φ) [ctF (z3f φ)] [] (.sn 2 (.seq (.lo ⟨[(51,A3w)],[A2m]⟩ (λn=>kq2 (z6v φ n))) .x)) Tryz.func144 rfl (λ_=>by kernel_rfl) (by repeat' first|exact trivial|refine⟨?_,?_⟩|intro _|kernel_rfl)
theorem zvm[Dr](φ:Nat):zz TV Tryz.prog 89 (zvn φ):=fnC2 (φ:=φ) [ctF (zyp φ),ctF (z3f φ),ctF (zlv φ),ctF (y6t φ),ctF (zvu φ),ctF (zvk φ),ctF (zvq φ)] [] (.sn 3 (.seq (.lo ⟨[(77,[A2l,A3z,(5,.val 49),A0v])],[A03,A2m]⟩ (λn=>kq4 (z4e φ n))) .x)) Tryz.func89 rfl (λ_=>by kernel_rfl) (by repeat' first|exact trivial|refine⟨?_,?_⟩|intro _|kernel_rfl)
theorem zql[Dr](φ:Nat):zz TV Tryz.prog 44 (zqm φ):=fnC2 (φ:=φ) [ctF (zvm φ)] [] (.sn 2 (.seq (.lo ⟨[(29,[(1,A1x),A2l,(5,A0m),A0v])],[A03,A14]⟩ (λn=>kq4 (z3o φ n))) .x)) Tryz.func44 rfl (λ_=>by kernel_rfl) (by repeat' first|exact trivial|refine⟨?_,?_⟩|intro _|kernel_rfl)
theorem zs1[Dr](φ:Nat):zz TV Tryz.prog 177 (zs2 φ):=fnC2 (φ:=φ) [] [] .x Tryz.func177 rfl (λ_=>by kernel_rfl) (by repeat' first|exact trivial|refine⟨?_,?_⟩|intro _|kernel_rfl)
theorem zqe[Dr](φ:Nat):zz TV Tryz.prog 145 (zqf φ):=fnC2 (φ:=φ) [ctF (zs1 φ)] [] .x Tryz.func145 rfl (λ_=>by kernel_rfl) (by repeat' first|exact trivial|refine⟨?_,?_⟩|intro _|kernel_rfl)
theorem zqc[Dr](φ:Nat):zz TV Tryz.prog 90 (zqd φ):=fnC2 (φ:=φ) [ctF (zqe φ)] [] (.sn 2 (.seq (.lp ⟨[(77,[A3r,A15,A3s,A0v])],[A14]⟩ (λn=>kq4 (z2d φ n)) (λd=>(.seq .x (.seq (.body (.sn 2 (.lo ⟨[(77,[A3r,A15,A3s,A0v,A1t])],[A14]⟩ (λn=>kq5 (z48 φ (uu4 d) n))))) .x)))) .x)) Tryz.func90 rfl (λ_=>by kernel_rfl) (by repeat' first|exact trivial|refine⟨?_,?_⟩|intro _|kernel_rfl)
theorem zhu[Dr](φ:Nat):zz TV Tryz.prog 92 (zs3 φ):=fnC2 (φ:=φ) [] [] (.sn 2 (.seq (.lo ⟨[(52,[(0,A2b),A15,A3s,A0v])],[A01]⟩ (λn=>kq4 (z9c φ n))) (.seq .x (.seq (.lo ⟨[(52,[(0,A2b),A15,A3s,A1t])],[A01]⟩ (λn=>kq4 (z8d φ n))) .x)))) Tryz.func92 rfl (λ_=>by kernel_rfl) (by repeat' first|exact trivial|refine⟨?_,?_⟩|intro _|kernel_rfl)
theorem zm0[Dr](φ:Nat):zz TV Tryz.prog 146 (zm1 φ):=fnC2 (φ:=φ) [] [] (.sn 2 (.seq (.lo ⟨[(28,[(0,A2b),A15,A3s,A0v])],[A01]⟩ (λn=>kq4 (z7a φ n))) .x)) Tryz.func146 rfl (λ_=>by kernel_rfl) (by repeat' first|exact trivial|refine⟨?_,?_⟩|intro _|kernel_rfl)
theorem zng[Dr](φ:Nat):zz TV Tryz.prog 91 (znh φ):=fnC2 (φ:=φ) [ctF (zhu φ),ctF (zm0 φ)] [] (.sn 2 (.seq (.lp ⟨[(63,[A3r,A15,A1n,(7,A0a),A17])],[A01]⟩ (λn=>kq5 (z47 φ n)) (λd=>(.seq .x (.seq (.body (.seq .x (.lo ⟨[(63,[A3r,A15,A1n,(7,A0a),A17,(9,A09),A1y])],[A01,A2m]⟩ (λn=>kq7 (z0v φ (uu5 d) n))))) .x)))) .x)) Tryz.func91 rfl (λ_=>by kernel_rfl) (by repeat' first|exact trivial|refine⟨?_,?_⟩|intro _|kernel_rfl)
theorem zqa[Dr](φ:Nat):zz TV Tryz.prog 45 (zqb φ):=fnC2 (φ:=φ) [ctF (zqc φ),ctF (zng φ),ctF (zhu φ)] [] (.sn 3 (.seq (.lp ⟨[(83,[A3r,A15,(5,A1x),(6,A0a),A1t])],[A01]⟩ (λn=>kq5 (z3m φ n)) (λd=>(.seq .x (.seq (.body (.seq .x (.lp ⟨[(83,[A3r,A15,(5,A1x),(6,A0a),A1t,A17])],[A01]⟩ (λn=>kq6 (z2s φ (uu5 d) n)) (λzk16=>(.seq .x (.seq (.body (.seq .x (.lo ⟨[(83,[A3r,A15,(5,A1x),(6,A0a),A1t,A17,(9,A2b),A1y])],[A01]⟩ (λn=>kq8 (z2t φ (uu6 zk16) n))))) .x)))))) .x)))) .x)) Tryz.func45 rfl (λ_=>by kernel_rfl) (by repeat' first|exact trivial|refine⟨?_,?_⟩|intro _|kernel_rfl)
theorem zqn[Dr](φ:Nat):zz TV Tryz.prog 99 (zqo φ):=fnC2 (φ:=φ) [] [] .x Tryz.func99 rfl (λ_=>by kernel_rfl) (by repeat' first|exact trivial|refine⟨?_,?_⟩|intro _|kernel_rfl)
theorem zda[Dr](φ:Nat):zz TV Tryz.prog 56 (zke φ):=fnC2 (φ:=φ) [ctF (zqn φ)] [] (.sn 3 (.seq (.lo ⟨[(52,[A3s,A0v])],[A14]⟩ (λn=>kq2 (z2v φ n))) .x)) Tryz.func56 rfl (λ_=>by kernel_rfl) (by repeat' first|exact trivial|refine⟨?_,?_⟩|intro _|kernel_rfl)
theorem zyx[Dr](φ:Nat):zz TV Tryz.prog 46 (zyy φ):=fnC2 (φ:=φ) [ctF (zda φ)] [] (.sn 2 (.seq (.lo ⟨[(117,[(1,A1x),A1n,A1r,A45,(8,A09),(10,A25),A3a])],[A03,A0w,A14]⟩ (λn=>kq7 (z3y φ n))) (.sn 2 (.seq (.lo ⟨[(117,[A1n,A1r,A45,(8,A09),(10,A25),(13,A00),A3y])],[A03,A0w,A14]⟩ (λn=>kq7 (z3z φ n))) .x)))) Tryz.func46 rfl (λ_=>by kernel_rfl) (by repeat' first|exact trivial|refine⟨?_,?_⟩|intro _|kernel_rfl)
theorem zyz[Dr](φ:Nat):zz TV Tryz.prog 93 (zz0 φ):=fnC2 (φ:=φ) [] [] .x Tryz.func93 rfl (λ_=>by kernel_rfl) (by repeat' first|exact trivial|refine⟨?_,?_⟩|intro _|kernel_rfl)
theorem zqi[Dr](φ:Nat):zz TV Tryz.prog 47 (zqj φ):=fnC2 (φ:=φ) [ctF (zyz φ)] [] (.sn 3 (.seq (.lo ⟨[(67,[(0,A4b),A1h,(5,A0m),A0v])],[A0w,A0j]⟩ (λn=>kq4 (z2e φ n))) (.seq .x (.seq (.lo ⟨[(67,[(0,A4b),A1h,(5,A0m),A1t])],[A0w,A0j]⟩ (λn=>kq4 (z1i φ n))) .x)))) Tryz.func47 rfl (λ_=>by kernel_rfl) (by repeat' first|exact trivial|refine⟨?_,?_⟩|intro _|kernel_rfl)
theorem zyv[Dr](φ:Nat):zz TV Tryz.prog 12 (zyw φ):=fnC2 (φ:=φ) [ctF (z9w φ),ctF (zcw φ),ctF (zql φ),ctF (zqa φ),ctF (zyx φ),ctF (zqi φ)] [] (.sn 7 (.seq (.lp ⟨[(67,[A1n,A1h,(9,A1x),(10,A2b),(11,A0m),(12,A00)])],[A03,A0j]⟩ (λn=>kq6 (z6w φ n)) (λzk14=>(.seq .x (.seq (.body (.seq .x (.seq (.lo ⟨[(67,[A1n,A1h,(9,A1x),(10,A2b),(11,A0m),(12,A00),(13,A0u),(14,A22),(15,A00)])],[A03,A0j,A0w]⟩ (λn=>kq9 (z5l φ (uu6 zk14) n))) .x))) .x)))) .x)) Tryz.func12 rfl (λ_=>by kernel_rfl) (by repeat' first|exact trivial|refine⟨?_,?_⟩|intro _|kernel_rfl)
theorem zhk[Dr](φ:Nat):zz TV Tryz.prog 15 (zhl φ):=fnC2 (φ:=φ) [] [] (.sn 2 (.seq (.lo ⟨[(26,[(0,A4b),A28,A27])],[]⟩ (λn=>kq3 (z1h φ n))) .x)) Tryz.func15 rfl (λ_=>by kernel_rfl) (by repeat' first|exact trivial|refine⟨?_,?_⟩|intro _|kernel_rfl)
theorem zni[Dr](φ:Nat):zz TV Tryz.prog 54 (znj φ):=fnC2 (φ:=φ) [] [] (.sn 2 (.seq (.lo ⟨[(26,[(0,A2b),(1,A2b),A27])],[]⟩ (λn=>kq3 (z49 φ n))) .x)) Tryz.func54 rfl (λ_=>by kernel_rfl) (by repeat' first|exact trivial|refine⟨?_,?_⟩|intro _|kernel_rfl)
theorem zqg[Dr](φ:Nat):zz TV Tryz.prog 16 (zqh φ):=fnC2 (φ:=φ) [ctF (zni φ)] [] (.sn 2 (.seq (.lo ⟨[(39,[A2l,A3z,A27])],[A20,A20]⟩ (λn=>kq3 (z4r φ n))) .x)) Tryz.func16 rfl (λ_=>by kernel_rfl) (by repeat' first|exact trivial|refine⟨?_,?_⟩|intro _|kernel_rfl)
theorem zs4[Dr](φ:Nat):zz TV Tryz.prog 19 (zs5 φ):=fnC2 (φ:=φ) [ctF (zda φ)] [] (.sn 2 (.seq (.lo ⟨[(71,[A3r,A15,A3s,A0v])],[A14]⟩ (λn=>kq4 (z4f φ n))) (.seq .x (.seq (.lo ⟨[(71,[A3s,A49,A17])],[A14,A0h]⟩ (λn=>kq3 (z3n φ n))) .x)))) Tryz.func19 rfl (λ_=>by kernel_rfl) (by repeat' first|exact trivial|refine⟨?_,?_⟩|intro _|kernel_rfl)
theorem zkc[Dr](φ:Nat):zz TV Tryz.prog 17 (zkd φ):=fnC2 (φ:=φ) [] [] (.sn 2 (.seq (.lo ⟨[(26,[(0,.val 37),(1,.val 37),A27])],[]⟩ (λn=>kq3 (z2u φ n))) .x)) Tryz.func17 rfl (λ_=>by kernel_rfl) (by repeat' first|exact trivial|refine⟨?_,?_⟩|intro _|kernel_rfl)
theorem zyt[Dr](φ:Nat):zz TV Tryz.prog 21 (zyu φ):=fnC2 (φ:=φ) [ctF (z9w φ),ctF (zhx φ),ctF (zkf φ),ctF (zkg φ)] [] .x Tryz.func21 rfl (λ_=>by kernel_rfl) (by repeat' first|exact trivial|refine⟨?_,?_⟩|intro _|kernel_rfl)
theorem z9s(φ:Nat):zz TV Tryz.prog 4 (z2m φ):=fnC2 (φ:=φ) [ctF (zy3 φ),ctF (y1g φ),ctF (zka φ),ctF (zrc φ),ctF (zyv φ),ctF (ztz φ),ctF (y22 φ),ctF (zhk φ),ctF (zqg φ),ctF (zfc φ),ctF (zs4 φ),ctF (zkc φ),ctF (zho φ),ctF (zyt φ)] [] .x Tryz.func4 rfl (λ_=>by kernel_rfl) (by repeat' first|exact trivial|refine⟨?_,?_⟩|intro _|kernel_rfl)
end Px
end
section
namespace Px
open Go
structure Swo{α:Type}(lt:α->α->Bool):Prop where
 asym:∀a b,lt a b=true->lt b a=false
 ntr:∀a b c,lt a b=false->lt b c=false->lt a c=false
def Srt{α:Type}(lt:α->α->Bool)(l:List α):Prop:=l.Pairwise λa b=>lt b a=false
def eqv2{α:Type}(lt:α->α->Bool)(a b:α):Bool:=!lt a b&&!lt b a
def Stb{α:Type}(lt:α->α->Bool)(l r:List α):Prop:=r.Perm l/\∀a,r.filter (eqv2 lt a)=l.filter (eqv2 lt a)
section
variable{α:Type}{lt:α->α->Bool}
theorem Swo.irr(h:Swo lt)(a:α):lt a a=false:=by
 cases e:lt a a with
 |false=>rfl
 |true=>exact(h.asym a a e).symm.trans e |>.symm
theorem znw{a b:α}: eqv2 lt a b=true↔lt a b=false/\lt b a=false:=by simp[eqv2]
theorem Stb.refl(l:List α):Stb lt l l:=⟨.refl _,λ_=>rfl⟩
theorem Stb.trans{a b c:List α}(h:Stb lt a b)(d:Stb lt b c):Stb lt a c:=⟨d.1.trans h.1,λx=>(d.2 x).trans (h.2 x)⟩
theorem Stb.app{a b c d:List α}(h:Stb lt a b)(f:Stb lt c d):Stb lt (a++c) (b++d):=⟨h.1.append f.1,λx=>by simp only[w12,h.2 x,f.2 x]⟩
theorem Stb.mem{l r:List α}(h:Stb lt l r){x:α}: x∈r↔x∈l:=h.1.mem_iff
theorem Stb.len{l r:List α}(h:Stb lt l r):r.length=l.length:=h.1.length_eq
theorem zxm(a:α){X:List α}(h:∀x∈X,eqv2 lt a x=false):X.filter (eqv2 lt a) = []:=by rw[List.filter_eq_nil_iff];intro x hx;simp[h x hx]
theorem Stb.swap(j:Swo lt){X Y:List α}(h:∀x∈X,∀y∈Y,lt y x=true):Stb lt (X++Y) (Y++X):=by
 refine⟨w4q,λa=>?_⟩;simp only[w12];by_cases hx:∃x∈X,eqv2 lt a x=true
 .obtain⟨x,hx,ex⟩:=hx;have:Y.filter (eqv2 lt a) = []:=zxm a λy hy=>by
   cases e:eqv2 lt a y with
   |false=>rfl
   |true=>have f:=znw.1 e;have g:=znw.1 ex;have:=j.ntr y a x f.2 g.1;rw[h x hx y hy] at this;cases this
  rw[this];simp
 .have:X.filter (eqv2 lt a) = []:=zxm a λx d=>by
   cases e:eqv2 lt a x with
   |false=>rfl
   |true=>exact absurd ⟨x,d,e⟩ hx
  rw[this];simp
theorem Srt.app{a b:List α}(h:Srt lt a)(d:Srt lt b)(f:∀x∈a,∀y∈b,lt y x=false):Srt lt (a++b):=w47.2 ⟨h,d,f⟩
theorem Srt.parts{a b:List α}(h:Srt lt (a++b)):Srt lt a/\Srt lt b/\∀x∈a,∀y∈b,lt y x=false:=w47.1 h
theorem Srt.unique(j:Swo lt):∀{r d:List α},Srt lt r->Srt lt d->Stb lt r d->r=d
 | [],d,_,_,h=>by have:=h.len;simp at this;exact this.symm
 |x::r,d,hr,u,h=>by
  cases d with
  |nil=>have:=h.len;simp at this
  |cons y d=>
   have f:=w13.1 hr;have g:=w13.1 u;have h1:lt y x=false:=by
    rcases w05.1 (h.mem.1 (w0n (a:=y))) with e|e
    .rw[e];exact j.irr _
    .exact f.1 y e
   have h2:lt x y=false:=by
    rcases w05.1 (h.mem.2 (w0n (a:=x))) with e|e
    .rw[e];exact j.irr _
    .exact g.1 x e
   have e1:eqv2 lt x x=true:=znw.2 ⟨j.irr _,j.irr _⟩;have e2:eqv2 lt x y=true:=znw.2 ⟨h2,h1⟩;have hf:=h.2 x;rw[w2w e1,w2w e2] at hf;have z:y=x:=(List.cons.inj hf).1;subst z;congr 1;refine Srt.unique j f.2 g.2 ⟨(List.perm_cons _).1 h.1,λa=>?_⟩;have:=h.2 a;simp only[w15] at this;split at this
   .exact(List.cons.inj this).2
   .exact this
theorem y68(d:Swo lt){A B:List α}{x:α}(h:∀y∈B,lt x y=true):Stb lt (A++B++[x]) (A++[x]++B):=by have:=(Stb.refl (lt:=lt) A).app (Stb.swap d (X:=B) (Y:=[x]) λz f y hy=>by simp at hy;subst hy;exact h z f);simpa[w0m] using this
end
section arr
variable{α:Type}[Inhabited α]
theorem yl0{A B:List α}{x:α}{i:Int}(h:i=A.length):gt (A++x::B) i=x:=by subst h;rw[zxx _ _ _ (w2y _)];simp[gt]
omit [Inhabited α] in
theorem ygp{A B:List α}{x y:α}{i:Int}(h:i=A.length):zo (A++x::B) i y=A++y::B:=by subst h;simp[zo]
end arr
def Cmp{α:Type}(D:α->Prop)(y:α->α->Option Int)(lt:α->α->Bool):Prop:=∀a b,D a->D b->∃z,y a b=some z/\decide (z<0)=lt a b
theorem zpt{α:Type}(l:List α):l = []\/∃S w,l=S++[w]:=by
 rcases List.eq_nil_or_concat l with h|⟨S,w,h⟩
 .exact .inl h
 .exact .inr ⟨S,w,by rw[h,List.concat_eq_append]⟩
end Px
end
section
namespace Px
open Go
set_option maxHeartbeats 1000000
section
variable{α:Type}[Inhabited α]
def zjj(φ:Nat)(e :(Int->Int->(α->α->t11)->Int->(List α)->Option (List α))):Nat->Int->Int->(α->α->t11)->Int->Int->(List α)->Option (List α)
 |0,_,_,_,_,_,_=>none
 |h+1,c,f,d,g,a,b=>(ck (((decide (c<a))=true)->rg a b.length) (ck (((decide (c<a))=true)->rg (W (a-1)) b.length) ((zi (0:Int) ((decide (c<a))=true) (d (gt b a) (gt b (W (a-1))))).bind λi=>(if((decide (c<a))&&(decide (i<0)))=true then(ck (rg (W (a-1)) b.length) (ck (rg a b.length) (ck (rg a b.length) (ck (rg (W (a-1)) (((zo b a (gt b (W (a-1))))).length)) ((zjj φ e h) c f d g (W (a-1)) ((zo ((zo b a (gt b (W (a-1))))) (W (a-1)) (gt b a)))))))) else(e c f d (W (g+1)) b)))))
def zer(φ:Nat):Nat->Int->Int->(α->α->t11)->Int->(List α)->Option (List α)
 |0,_,_,_,_,_=>none
 |d+1,e,b,f,a,c=>(if(decide (a<b))=true then(zjj φ (zer φ d) φ e b f a a c) else(some c))
def gins(φ:Nat)(b :(List α))(a c:Int)(d :(α->α->t11)):Option (List α):=(zer φ φ a c d (W (a+1)) b)
def zp4(φ:Nat):Nat->Int->(α->α->t11)->Int->(List α)->Option (List α)
 |0,_,_,_,_=>none
 |d+1,a,e,b,c=>(if(decide (b<a))=true then none else(some c))
def zg2(φ:Nat):Nat->Int->(α->α->t11)->Int->Int->Int->(List α)->Option (List α)
 |0,_,_,_,_,_,_=>none
 |g+1,a,b,d,e,c,f=>(if(decide (c<=a))=true then((gins φ f e c b).bind λh=>((zg2 φ g) a b d c (W (c+d)) h)) else((gins φ f e a b).bind λi=>(zp4 φ φ a b d i)))
def ykz(φ:Nat)(a :(List α))(b:Int)(c :(α->α->t11)):Option (List α):=(zg2 φ φ b c 20 0 20 a)
def yi2(φ:Nat)(a :(List α))(b :(α->α->t11)):Option (List α):=((ykz φ a (a.length:Int) b).bind λc=>(some c))
theorem yhz{β:Type}{z:β}{p:Prop}[Decidable p]{x:Option β}(h:p):zi z p x=x:=if_pos h
theorem ymu{β:Type}{z:β}{p:Prop}[Decidable p]{x:Option β}(h:¬p):zi z p x=some z:=if_neg h
variable{D:α->Prop}{lt:α->α->Bool}{y:α->α->Option Int}
theorem yi0(hy:Cmp D y lt)(φ:Nat)(k:Int->Int->(α->α->Option Int)->Int->List α->Option (List α))(b i0:Int)(P:List α)(x:α)(hx:D x):∀(n:Nat)(f d:List α),(∀z∈f,D z)->P.length+f.length+d.length<=1000000->f.length<n->
  ∃A B,f=A++B/\(∀z∈B,lt x z=true)/\(A = []\/∃A' z,A=A'++[z]/\lt x z=false)/\
   zjj φ k n (P.length:Int) b y i0 ((P.length:Int)+f.length) (P++f++x::d)=k (P.length:Int) b y (W (i0+1)) (P++A++x::(B++d)):=by
 intro n
 induction n with
 |zero=>intro f d _ _ h;omega
 |succ n ih=>
  intro f d hD hl hn;rcases List.eq_nil_or_concat f with rfl|⟨S,z,rfl⟩
  .refine⟨[],[],rfl,by simp,.inl rfl,?_⟩;have h0:decide ((P.length:Int)<(P.length:Int)+(([]:List α).length:Int))=false:=by simp
   rw[zjj,h0];simp[ck,rg,rg,zi]
  .simp only[List.concat_eq_append] at hD hl hn⊢;simp only[w0h,w0o,w2h] at hl hn;have e1:P++(S++[z])++x::d =(P++S++[z])++x::d:=by simp
   have e2:P++(S++[z])++x::d =(P++S)++z::(x::d):=by simp
   have g1:gt (P++(S++[z])++x::d) ((P.length:Int)+((S++[z]).length:Int))=x:=by rw[e1];exact yl0 (by simp<;>omega)
   have hw:W ((P.length:Int)+((S++[z]).length:Int)-1) =(P.length:Int)+S.length:=by rw[W_id (by simp;omega) (by simp;omega)];simp;omega
   have g2:gt (P++(S++[z])++x::d) ((P.length:Int)+(S.length:Int))=z:=by rw[e2];exact yl0 (by simp)
   have h0:decide ((P.length:Int)<(P.length:Int)+((S++[z]).length:Int))=true:=by simp;omega
   have g :((P++(S++[z])++x::d).length:Int)=P.length+S.length+1+1+d.length:=by simp;omega
   obtain⟨w,a0,a1⟩:=hy x z hx (hD z (by simp));have s1:zo (P++(S++[z])++x::d) ((P.length:Int)+((S++[z]).length:Int)) z =(P++S)++z::(z::d):=by rw[e1,ygp (by simp<;>omega)];simp
   have s2:zo ((P++S)++z::(z::d)) ((P.length:Int)+(S.length:Int)) x=P++S++x::(z::d):=ygp (by simp);rw[zjj,hw,h0,g1,g2,a0,g];rw[z6 (λ_=>⟨by omega,by simp;omega⟩),z6 (λ_=>⟨by omega,by omega⟩),yhz rfl];simp only[w00,a1,w25];cases j:lt x z with
   |true=>
    rw[if_pos rfl,z6 ⟨by omega,by omega⟩,z6 ⟨by omega,by simp;omega⟩,z6 ⟨by omega,by simp;omega⟩,s1];rw[z6 ⟨by omega,by simp;omega⟩,s2];obtain⟨A,B,q1,q2,q3,q4⟩:=ih S (z::d) (λu hu=>hD u (by simp[hu])) (by simp;omega) (by omega);refine⟨A,B++[z],by rw[q1];simp,?_,q3,?_⟩
    .intro u hu;rcases w0j.1 hu with h|h
     .exact q2 u h
     .simp at h;rw[h];exact j
    .rw[q4];simp
   |false=>rw[if_neg (by simp)];exact⟨S++[z],[],by simp,by simp,.inr ⟨S,z,rfl,j⟩,by simp⟩
theorem ydj(hs:Swo lt)(hy:Cmp D y lt)(φ:Nat)(P Q:List α):∀(n:Nat)(S R:List α),S≠[]->Srt lt S->(∀z∈S,D z)->(∀z∈R,D z)->P.length+S.length+R.length+Q.length<=1000000->P.length+S.length+R.length<φ->R.length<n->
  ∃j,Srt lt j/\Stb lt (S++R) j/\zer φ n (P.length:Int) ((P.length:Int)+S.length+R.length) y ((P.length:Int)+S.length) (P++S++R++Q)=some (P++j++Q):=by
 intro n
 induction n with
 |zero=>intro S R _ _ _ _ _ _ h;omega
 |succ n ih=>
  intro S R a2 hS hD d hl hφ hn;cases R with
  |nil=>refine⟨S,hS,by simpa using Stb.refl S,?_⟩;rw[zer,if_neg (by simp)];simp
  |cons x R=>
   simp only[w0o] at hl hφ hn;rw[zer,if_pos (by simp;omega)];obtain⟨A,B,q1,q2,q3,q4⟩:=yi0 hy φ (zer φ n) ((P.length:Int)+S.length+(x::R).length) ((P.length:Int)+S.length) P x (d x (by simp)) φ S (R++Q) hD (by simp;omega) (by omega);rw[show P++S++x::R++Q=P++S++x::(R++Q) by simp,q4];have hA:∀u∈A,lt x u=false:=by
    rcases q3 with rfl|⟨A',z,rfl,f⟩
    .simp
    .intro u g;rcases w0j.1 g with h|h
     .subst q1;have:=(hS.parts.1).parts.2.2 u h z (by simp);exact hs.ntr _ _ _ f this
     .simp at h;rw[h];exact f
   have a0:Srt lt (A++x::B):=by
    subst q1;refine hS.parts.1.app (w13.2 ⟨λu g=>hs.asym _ _ (q2 u g),hS.parts.2.1⟩) λu g v hv=>?_
    rcases w05.1 hv with h|h
    .subst h;exact hA u g
    .exact hS.parts.2.2 u g v h
   obtain⟨j,p1,p2,p3⟩:=ih (A++x::B) R (by simp) a0 (λz f=>by
    subst q1;simp only[w0j,w05] at f;rcases f with h|h|h
    .exact hD z (by simp[h])
    .subst h;exact d _ (by simp)
    .exact hD z (by simp[h])) (λz f=>d z (by simp[f])) (by subst q1;simp at hl⊢;omega) (by subst q1;simp at hφ⊢;omega) (by omega)
   refine⟨j,p1,?_,?_⟩
   .have h1:Stb lt (S++[x]) (A++[x]++B):=by subst q1;exact y68 hs q2
    have:=h1.app (Stb.refl R);refine Stb.trans ?_ (Stb.trans this ?_)
    .simpa using Stb.refl (lt:=lt) (S++x::R)
    .simpa using p2
   .rw[<- p3];have e1:W ((P.length:Int)+S.length+1) =(P.length:Int)+S.length+1:=W_id (by omega) (by omega);have a1:S.length=A.length+B.length:=by rw[q1];simp
    have e2 :(P.length:Int)+S.length+1=P.length+(A++x::B).length:=by simp;omega
    have e3 :(P.length:Int)+S.length+(x::R).length=P.length+(A++x::B).length+R.length:=by simp;omega
    have e4:P++A++x::(B++(R++Q))=P++(A++x::B)++R++Q:=by simp
    rw[e1,e2,e3,e4]
theorem y98(u:Swo lt)(hy:Cmp D y lt)(φ:Nat)(P X Q:List α)(g:∀z∈X,D z)(j:P.length+X.length+Q.length<=1000000)(hφ:P.length+X.length<φ):
  ∃f,Srt lt f/\Stb lt X f/\gins φ (P++X++Q) (P.length:Int) ((P.length:Int)+X.length) y=some (P++f++Q):=by
 unfold gins;rw[W_id (x:=(P.length:Int)+1) (by omega) (by omega)];cases X with
 |nil=>refine⟨[],List.Pairwise.nil,Stb.refl _,?_⟩;obtain⟨n,rfl⟩:∃n,φ=n+1:=⟨φ-1,by omega⟩;rw[zer,if_neg (by simp;omega)]
 |cons x R=>simp only[w0o] at j hφ;obtain⟨h,p1,p2,p3⟩:=ydj u hy φ P Q φ [x] R (by simp) (w4k _ _) (λz d=>g z (by simp at d;simp[d])) (λz d=>g z (by simp[d])) (by simp;omega) (by simp;omega) (by omega);refine⟨h,p1,by simpa using p2,?_⟩;rw[<- p3];simp only[w0m,w2j,w0o,w2h,w1z];congr 1;simp;omega
theorem y3x(hs:Swo lt)(hy:Cmp D y lt)(φ:Nat)(v:List α)(hD:∀z∈v,D z)(hN:v.length<=20)(hφ:2*v.length+3<φ):
  ∃r,Srt lt r/\Stb lt v r/\yi2 φ v y=some r:=by
 obtain⟨r,h1,h2,h3⟩:=y98 hs hy φ [] v [] hD (by simp;omega) (by simp;omega);have hl:=h2.len;have f:gins φ v 0 (v.length:Int) y=some r:=by simpa using h3
 refine⟨r,h1,h2,?_⟩;obtain⟨r2,_,s2,g3⟩:=y98 hs hy φ r [] [] (λz hz=>by cases hz) (by simp;omega) (by simp;omega);have u:r2 = []:=List.length_eq_zero_iff.1 (by rw[s2.len];rfl);subst u;have g:gins φ r (r.length:Int) (r.length:Int) y=some r:=by simpa using g3
 have d:zp4 φ φ (v.length:Int) y 20 r=some r:=by obtain⟨n,rfl⟩:∃n,φ=n+1:=⟨φ-1,by omega⟩;rw[zp4,if_neg (by simp;omega)]
 have a3:∀n,zg2 φ (n+2) (v.length:Int) y 20 0 20 v=some r:=by
  intro n;rw[zg2];by_cases h:v.length=20
  .have j :(20:Int)=v.length:=by omega
   rw[if_pos (by simp;omega)];have a1:gins φ v 0 20 y=some r:=by rw[j];exact f
   have a0 :(20:Int)=r.length:=by omega
   have a2:gins φ r 20 (v.length:Int) y=some r:=by rw[<- hl,a0];exact g
   rw[a1,w00,zg2,W_id (x:=(20:Int)+20) (by omega) (by omega),if_neg (by simp;omega),a2,w00,d]
  .rw[if_neg (by simp;omega),f,w00,d]
 unfold yi2 ykz;obtain⟨n,hn⟩:∃n,φ=n+2:=⟨φ-2,by omega⟩;have:=a3 n;rw[<- hn] at this;rw[this];rfl
end
end Px
end
section
namespace Px
open Go
set_option maxRecDepth 100000
theorem zac{n b:Nat}(h:n<=100000)(d:b<=1000):fits n b:=by unfold fits;exact w1o (Nat.mul_le_mul h d) (by omega)
theorem y5i(φ:Nat)(v:List z7)(y:z7->z7->Option Int):z13 φ v y=yi2 φ v y:=by kernel_rfl
def ydz(a b:Ref):Bool:=decide (a.railway<b.railway)||(decide (a.railway=b.railway)&&decide (a.no<b.no))
def zfm(a b:z7):Bool:=decide (a.item.to<b.item.to)||(decide (a.item.to=b.item.to)&&ydz a.ref b.ref)
theorem zy6{a b:Ref}: ydz a b=true↔a.railway<b.railway\/(a.railway=b.railway/\a.no<b.no):=by simp[ydz]
theorem zg8{a b:z7}: zfm a b=true↔a.item.to<b.item.to\/(a.item.to=b.item.to/\(a.ref.railway<b.ref.railway\/(a.ref.railway=b.ref.railway/\a.ref.no<b.ref.no))):=by simp[zfm,zy6]
theorem y4g{a b:z7}: zfm a b=false↔¬(a.item.to<b.item.to\/(a.item.to=b.item.to/\(a.ref.railway<b.ref.railway\/(a.ref.railway=b.ref.railway/\a.ref.no<b.ref.no)))):=by rw[<- zg8];simp
theorem ze4:Swo zfm where
 asym:=λa b h=>by rw[y4g];rw[zg8] at h;omega
 ntr:=λa b c d f=>by rw[y4g] at *;omega
theorem yk8{α:Type}{lt:α->α->Bool}(h:Swo lt):Sort.SWO lt where
 irrefl:=λa=>h.irr a
 trans:=λa b c d f=>by
  cases g:lt a c with
  |true=>rfl
  |false=>have j:=h.asym _ _ f;rw[h.ntr a c b g j] at d;cases d
 ntrans:=λa b c d f=>h.ntr a b c d f
theorem ycf(φ:Nat)(h:3<=φ)(a b:z7):zdd φ a b=some (or2 (cmpI a.ref.railway b.ref.railway) (cmpI a.ref.no b.ref.no),()):=by unfold zdd;simp only[zgr,w00];rw[yly φ h];rfl
theorem yhh(φ:Nat)(h:3<=φ):Cmp (λ_=>True) (λa b=>(z63 φ a b).bind λr=>(some r.1)) zfm:=by
 intro a b _ _;refine⟨or2 (cmpI a.item.to b.item.to) (or2 (cmpI a.ref.railway b.ref.railway) (cmpI a.ref.no b.ref.no)),?_,?_⟩
 .simp only[z63,zgr,ycf φ h,w00];rw[yly φ h];rfl
 .rw[w0t,decide_eq_true_eq,zt0,zt0,zej,zej,zej,zkz,zkz,zg8]
section
variable{α:Type}{lt:α->α->Bool}
theorem yht(g:Swo lt){a x y:α}(d:eqv2 lt a x=true)(f:eqv2 lt a y=true):lt y x=false:=by simp only[eqv2,w02,w0v] at d f;exact g.ntr y a x f.2 d.1
theorem y40(g:Swo lt)(a x:α):∀r:List α,(insL lt x r).filter (eqv2 lt a) =(x::r).filter (eqv2 lt a)
 | []=>rfl
 |y::r=>by
  simp only[insL];cases h:lt y x with
  |false=>rfl
  |true=>simp only[cond_true];rw[w15,y40 g a x r];cases d:eqv2 lt a x<;>cases f:eqv2 lt a y<;>simp[w15,d,f];rw[yht g d f] at h;cases h
theorem zjm(d:Swo lt):∀l:List α,Stb lt l (zb4 lt l)
 | []=>Stb.refl _
 |x::l=>by refine⟨z0w _ _,λa=>?_⟩;show (insL lt x (zb4 lt l)).filter _=_;rw[y40 d,w15,w15,(zjm d l).2 a]
theorem zp9(d:Swo lt)(l:List α):Srt lt (zb4 lt l):=z7h (yk8 d) l
theorem zgk(d:Swo lt){l r:List α}(g:Srt lt r)(f:Stb lt l r):r=zb4 lt l:=by refine Srt.unique d g (zp9 d l) ⟨(z0w _ _).trans f.1.symm,λa=>?_⟩;rw[(zjm d l).2 a,f.2 a]
end
def zle(at_:Int)(r:z7):Bool:=((r.item.kind:Int)==9)&&decide ((r.item.to:Int)<=at_)
def hist(l:List z7)(at_:Int):List z7:=zb4 zfm (l.filter (zle at_))
theorem zue(l:List z7)(at_:Int):(hist l at_).length<=l.length:=by unfold hist;rw[(z0w _ _).length_eq];exact List.length_filter_le _ _
theorem zjl{l:List z7}{at_:Int}{r:z7}: r∈hist l at_↔r∈l/\zle at_ r=true:=by unfold hist;rw[(z0w _ _).mem_iff,w0i]
abbrev Cmps:=List (z8×List (Int×Bool))
def ofP(p:Part):z8:=⟨p.kind,p.serial⟩
def zqz(w:Int)(M:Cmps)(p:Part):Cmps:=
 if p.fitted=false then(match cget z72 M (ofP p) with
  |some s=>cset z72 M (ofP p) (cdel kl_0 s w)
  |none=>M)
 else(match cget z72 M (ofP p) with
  |some s=>cset z72 M (ofP p) (cset kl_0 s w true)
  |none=>cset z72 (cset z72 M (ofP p) (default:List (Int×Bool))) (ofP p) (cset kl_0 ([]:List (Int×Bool)) w true))
def y2k(M:Cmps)(r:z7):Cmps:=r.item.parts.foldl (zqz r.item.wagon) M
def zwq(rs:List z7):Cmps:=rs.foldl y2k []
theorem zbr{α:Type}(p:α->Bool)(l:List α):∀d:List α,l.foldl (λs r=>if p r=true then s++[r] else s) d=d++l.filter p:=by
 induction l with
 |nil=>intro d;simp
 |cons a l f=>intro d;rw[w1y,f,w15];cases p a<;>simp
theorem zoc(φ:Nat)(f)(d g:Int)(r:z7)(h:List z7)(hp:r.item.parts.length<=1000)(n:Nat)(u:r.item.parts.length<n)(M:Cmps):
  z0a φ f n d g r.item.parts (r.item.parts.length:Int) 0 M r h=f d (W (g+1)) (y2k M r) h:=by
 refine(z3c (λn i M=>z0a φ f n d g r.item.parts (r.item.parts.length:Int) i M r h) (λM=>f d (W (g+1)) M h) r.item.parts (zqz r.item.wagon) (λ_ _=>True) ?_ ?_ n M trivial u).1
 .intro n i M hi _;refine⟨?_,trivial⟩;rw[z0a,if_pos (by simp;omega),z6 ⟨by omega,by omega⟩,W_id (x:=(i:Int)+1) (by omega) (by omega)];simp only[ze2,w00];show _=z0a φ f n d g r.item.parts (r.item.parts.length:Int) ((i:Int)+1) (zqz r.item.wagon M (gt r.item.parts (i:Int))) r h;unfold zqz ofP;cases z :(gt r.item.parts (i:Int)).fitted with
  |false=>
   simp only[w2m,if_true];cases j:cget z72 M (⟨(gt r.item.parts (i:Int)).kind,(gt r.item.parts (i:Int)).serial⟩:z8) with
   |none=>simp[ck,rg,rg]
   |some s=>simp[ck,rg,rg]
  |true=>
   simp only[w21,w09,if_false];cases j:cget z72 M (⟨(gt r.item.parts (i:Int)).kind,(gt r.item.parts (i:Int)).serial⟩:z8) with
   |none=>simp[ck,rg,rg]
   |some s=>simp[ck,rg,rg]
 .intro n M _;rw[z0a,if_neg (by simp)]
theorem zob(φ:Nat)(hφ:1000<φ)(d:List z7)(u:d.length<=1000)(g:∀r∈d,r.item.parts.length<=1000)(n:Nat)(h:d.length<n):
  z10 φ n (d.length:Int) 0 [] d=some (zwq d,()):=by
 refine(z3c (λn i M=>z10 φ n (d.length:Int) i M d) (λM=>some (M,())) d y2k (λ_ _=>True) ?_ ?_ n [] trivial h).1
 .intro n i M j _;refine⟨?_,trivial⟩;rw[z10,if_pos (by simp;omega),z6 ⟨by omega,by omega⟩];have f:=z80 (l:=d) (i:=(i:Int)) (by omega) (by omega);rw[zoc φ _ _ _ _ d (g _ f) φ (by have:=g _ f;omega),W_id (x:=(i:Int)+1) (by omega) (by omega)]
 .intro n M _;rw[z10,if_neg (by simp)]
theorem y09(φ:Nat)(hφ:10000<φ)(l:List z7)(at_:Int)(hl:l.length<=20)(hp:∀r∈l,r.item.parts.length<=1000):z62 φ l at_=some (zwq (hist l at_),()):=by
 unfold z62;refine(z3c (λn i d=>z29 φ n at_ l (l.length:Int) i d) (λd=>(z13 φ d (λa b=>(z63 φ a b).bind λr=>(some r.1))).bind λj=>(z10 φ φ (j.length:Int) 0 (([] :(List (z8×(List (Int×Bool)))))) j)) l (λs r=>if zle at_ r=true then s++[r] else s) (λi s=>s.length<=i) ?_ ?_ φ [] (by simp) (by omega)).1.trans ?_
 .intro n i d hi ha;refine⟨?_,?_⟩
  .rw[z29,if_pos (by simp;omega),z6 ⟨by omega,by omega⟩,W_id (x:=(i:Int)+1) (by omega) (by omega)];show (if zle at_ (gt l (i:Int))=true then _ else _)=_;cases h:zle at_ (gt l (i:Int)) with
   |false=>simp
   |true=>simp only[if_true];rw[z6 (zac (by simp;omega) (by omega))]
  .show (if zle at_ (gt l (i:Int))=true then _ else _:List z7).length<=_;split
   .simp;omega
   .omega
 .intro n d _;rw[z29,if_neg (by simp)]
 .rw[zbr,w1z,y5i];have a0 :(l.filter (zle at_)).length<=20:=w1o (List.length_filter_le _ _) hl;obtain⟨r,u,z,h3⟩:=y3x ze4 (yhh φ (by omega)) φ (l.filter (zle at_)) (λ_ _=>trivial) (by omega) (by omega);have f:r=hist l at_:=zgk ze4 u z;subst f;rw[h3,w00];have g:=zue l at_;exact zob φ (by omega) _ (by omega) (λr f=>hp r (zjl.1 f).1) φ (by omega)
end Px
end
section
namespace Px
open Go
set_option maxRecDepth 100000
def ltT(a b:z7):Bool:=decide (a.item.from_<b.item.from_)||(decide (a.item.from_=b.item.from_)&&ydz a.ref b.ref)
theorem zlj{a b:z7}: ltT a b=true↔a.item.from_<b.item.from_\/(a.item.from_=b.item.from_/\(a.ref.railway<b.ref.railway\/(a.ref.railway=b.ref.railway/\a.ref.no<b.ref.no))):=by simp[ltT,zy6]
theorem yg9{a b:z7}: ltT a b=false↔¬(a.item.from_<b.item.from_\/(a.item.from_=b.item.from_/\(a.ref.railway<b.ref.railway\/(a.ref.railway=b.ref.railway/\a.ref.no<b.ref.no)))):=by rw[<- zlj];simp
theorem zd1:Swo ltT where
 asym:=λa b h=>by rw[yg9];rw[zlj] at h;omega
 ntr:=λa b c d f=>by rw[yg9] at *;omega
theorem ymq(φ:Nat)(h:6<=φ):Cmp (λ_=>True) (λa b=>(z6m φ a b).bind λr=>(some r.1)) ltT:=by
 intro a b _ _;refine⟨or2 (cmpI a.item.from_ b.item.from_) (or2 (cmpI a.ref.railway b.ref.railway) (cmpI a.ref.no b.ref.no)),?_,?_⟩
 .simp only[z6m,zgr,w00];rw[ygi φ h];rfl
 .rw[w0t,decide_eq_true_eq,zt0,zt0,zej,zej,zej,zkz,zkz,zlj]
def sT(l:List z7):List z7:=zb4 ltT l
theorem zqt(l:List z7):(sT l).length=l.length:=(z0w _ _).length_eq
theorem yb3{l:List z7}{r:z7}: r∈sT l↔r∈l:=(z0w _ _).mem_iff
theorem ygq(φ:Nat)(hφ:5000<φ)(l:List z7)(h:l.length<=20):z13 φ l (λa b=>(z6m φ a b).bind λr=>(some r.1))=some (sT l):=by rw[y5i];obtain⟨r,d,f,g⟩:=y3x zd1 (ymq φ (by omega)) φ l (λ_ _=>trivial) (by omega) (by omega);rw[g,zgk zd1 d f];rfl
theorem zz8(q:z7->Bool)(L:List z7):(sT L).filter q=sT (L.filter q):=by
 refine zgk zd1 ((zp9 zd1 L).filter q) ⟨(z0w ltT L).filter q,λa=>?_⟩;have h:=(zjm zd1 L).2 a;rw[List.filter_filter,List.filter_filter];have e:∀M:List z7,M.filter (λx=>eqv2 ltT a x&&q x) =(M.filter (eqv2 ltT a)).filter q:=λM=>by rw[List.filter_filter];exact w3l λx _=>Bool.and_comm _ _
 show (sT L).filter (λx=>eqv2 ltT a x&&q x)=L.filter (λx=>eqv2 ltT a x&&q x);rw[e,e];exact congrArg (List.filter q) h
theorem yjo(L:List z7)(r:z7){d:List z7}(f:Srt ltT d)(g:Stb ltT (sT L++[r]) d):d=sT (L++[r]):=zgk zd1 f ((Stb.app (zjm zd1 L) (Stb.refl _)).trans g)
theorem y0k(φ:Nat)(a b:z7):z7x φ a b=some (ltT a b,()):=by
 unfold z7x;by_cases h :(a.item.from_:Int)=b.item.from_
 .rw[if_neg (by simp[h])];by_cases d :(a.ref.railway:Int)=b.ref.railway
  .rw[if_neg (by simp[d])];congr 2;rw[w0t,zlj];simp[h,d]
  .rw[if_pos (by simp[d])];congr 2;rw[w0t,zlj];simp[h,d]
 .rw[if_pos (by simp[h])];congr 2;rw[w0t,zlj];simp[h]
theorem yic(φ:Nat)(r:z7):∀(f Q:List z7)(n:Nat),Srt ltT f->f.length<n->f.length+Q.length<=1000->
  ∃g,Srt ltT g/\Stb ltT (f++[r]) g/\z2v φ n (f.length:Int) (f++r::Q)=some (g++Q,()):=by
 intro f;generalize hm:f.length=m
 induction m generalizing f with
 |zero=>intro Q n hs hn hl;have:=List.length_eq_zero_iff.1 hm;subst this;obtain⟨n,rfl⟩:∃k,n=k+1:=⟨n-1,by omega⟩;refine⟨[r],by simp[Srt],Stb.refl _,?_⟩;rw[z2v,z6 (λh=>by simp at h),z6 (λh=>by simp at h)];rw[show zi (default,()) ((decide ((0:Int)<((0:Nat):Int)))=true) (z7x φ (gt ([]++r::Q) ((0:Nat):Int)) (gt ([]++r::Q) (W (((0:Nat):Int)-1))))=some (default,()) from if_neg (by simp),w00,if_neg (by simp)];rfl
 |succ m ih=>
  intro Q n hs hn hl;obtain⟨n,rfl⟩:∃k,n=k+1:=⟨n-1,by omega⟩;rcases zpt f with rfl|⟨A,z,rfl⟩
  .simp at hm
  have hA:A.length=m:=by simp at hm;omega
  obtain⟨a1,_,u⟩:=Srt.parts hs;have u:∀x∈A,ltT z x=false:=λx hx=>u x hx z (by simp)
  have a2 :((A++[z]++r::Q).length:Int) =(m:Int)+2+Q.length:=by simp;omega
  have g1:gt (A++[z]++r::Q) ((m+1:Nat):Int)=r:=by rw[z68 (by simp;omega),List.getElem_append_right (by simp;omega)];simp[hA]
  have g0:gt (A++[z]++r::Q) ((m:Nat):Int)=z:=by rw[z68 (by simp;omega),List.getElem_append_left (by simp;omega),List.getElem_append_right (by omega)];simp[hA]
  have hW:W (((m+1:Nat):Int)-1) =(m:Int):=by rw[W_id (by omega) (by omega)];omega
  rw[z2v,hW,z6 (λ_=>⟨by omega,by omega⟩),z6 (λ_=>⟨by omega,by omega⟩),g1,g0];rw[show zi (default,()) ((decide ((0:Int)<((m+1:Nat):Int)))=true) (z7x φ r z)=some (ltT r z,()) from by unfold zi;rw[if_pos (by simp),y0k],w00];cases hz:ltT r z with
  |false=>
   rw[if_neg (by simp)];refine⟨A++[z]++[r],?_,Stb.refl _,by simp⟩;refine Srt.app hs (by simp[Srt]) λx hx y hy=>?_
   simp only[w0d] at hy;subst hy;rcases w0j.1 hx with hx|hx
   .exact zd1.ntr _ _ _ hz (u x hx)
   .simp only[w0d] at hx;subst hx;exact hz
  |true=>
   have a0:zo (zo (A++[z]++r::Q) ((m+1:Nat):Int) z) (m:Int) r=A++r::(z::Q):=by
    refine w5o (by simp[zo]) λj h1 h2=>?_
    simp only[zo,w1i];rw[List.getElem_set,List.getElem_set];split
    .rename_i e;subst e;rw[List.getElem_append_right (by omega)];simp[hA]
    .split
     .rename_i e;subst e;rw[List.getElem_append_right (by omega)];simp[hA]
     .rename_i e1 e2;by_cases hj:j<m
      .rw[List.getElem_append_left (by simp;omega),List.getElem_append_left (by omega),List.getElem_append_left (by omega)]
      .rw[List.getElem_append_right (by simp;omega),List.getElem_append_right (by omega)];simp only[w0h,w0o,w2h,hA];obtain⟨d,rfl⟩:∃d,j=m+2+d:=⟨j-(m+2),by omega⟩;have q1:m+2+d-(m+(0+1))=d+1:=by omega
       have q2:m+2+d-m=d+2:=by omega
       simp only[q1,q2,List.getElem_cons_succ]
   rw[if_pos (by simp),z6 ⟨by omega,by omega⟩,z6 ⟨by omega,by omega⟩,z6 ⟨by omega,by omega⟩,z6 ⟨by omega,by rw[show (zo (A++[z]++r::Q) ((m+1:Nat):Int) z).length =(A++[z]++r::Q).length from by simp[zo]];omega⟩,a0];obtain⟨g,h1,h2,h3⟩:=ih A hA (z::Q) n a1 (by omega) (by simp;omega);refine⟨g++[z],?_,?_,by rw[h3];simp⟩
   .refine Srt.app h1 (by simp[Srt]) λx hx y hy=>?_
    simp only[w0d] at hy;subst hy;rcases w0j.1 (h2.mem.1 hx) with hx|hx
    .exact u x hx
    .simp only[w0d] at hx;subst hx;exact zd1.asym _ _ hz
   .have s1:Stb ltT ([z]++[r]) ([r]++[z]):=Stb.swap zd1 λx hx y hy=>by simp only[w0d] at hx hy;subst hx;subst hy;exact hz
    have s2:=Stb.app (Stb.refl (lt:=ltT) A) s1;have s3:=Stb.app h2 (Stb.refl (lt:=ltT) [z]);rw[<- w0m,<- w0m] at s2;exact s2.trans s3
theorem zp7(φ:Nat)(hφ:5000<φ)(L:List z7)(r:z7)(z:L.length<=900):z6j φ (sT L) r=some (sT (L++[r]),()):=by
 have u:=zqt L;unfold z6j;rw[w1z,z6 (zac (by simp;omega) (by omega)),z6 (zac (by simp;omega) (by omega))];have d:W (((sT L++[r]).length:Int)-1) =((sT L).length:Int):=by rw[w0h,w3y,W_id (by omega) (by omega)];omega
 obtain⟨j,f,g,h⟩:=yic φ r (sT L) [] φ (zp9 zd1 L) (by omega) (by simp;omega);rw[d,h,w0e,yjo L r f g]
def zuf(at_:Int)(r:z7):Bool:=((r.item.kind:Int)==15)&&decide ((at_:Int)<=r.item.to)
def ordR(r:z7):zp:=⟨r.item.number,r.item.class_,r.item.place,r.item.from_,r.item.to,r.item.weight,r.item.amount⟩
def wanted(l:List z7)(at_:Int):List zp:=(sT (l.filter (zuf at_))).map ordR
theorem y8u{α β:Type}(p:α->Bool)(f:α->β)(l:List α):∀d:List β,l.foldl (λs r=>if p r=true then s++[f r] else s) d=d++(l.filter p).map f:=by
 induction l with
 |nil=>intro d;simp
 |cons a l g=>intro d;rw[w1y,g];cases h:p a<;>simp[w15,h]
theorem ybx(φ:Nat)(l:List z7)(d:l.length<=1000):z8n φ l=some (l,()):=by
 unfold z8n;cases l with
 |nil=>rfl
 |cons a l=>rw[if_neg (by simp)];unfold zdu;rw[z6 (show (a::l).isEmpty=false from rfl),z6 (zac (by simp at d⊢;omega) (by omega)),w1z]
theorem y7q(φ:Nat)(hφ:5000<φ)(l:List z7)(at_:Int)(f:l.length<=20):z6l φ l at_=some (wanted l at_,()):=by
 unfold z6l;rw[ybx φ l (by omega),w00,ygq φ hφ l f,w00];have g:=zqt l;refine(z3c (λn i d=>z1r φ n at_ ((sT l).length:Int) i d (sT l)) (λd=>some (d,())) (sT l) (λs r=>if zuf at_ r=true then s++[ordR r] else s) (λi s=>s.length<=i) ?_ ?_ φ [] (by simp) (by omega)).1.trans ?_
 .intro n i d u j;refine⟨?_,?_⟩
  .rw[z1r,if_pos (by simp;omega),z6 ⟨by omega,by omega⟩,W_id (x:=(i:Int)+1) (by omega) (by omega)];show (if zuf at_ (gt (sT l) (i:Int))=true then _ else _)=_;cases h:zuf at_ (gt (sT l) (i:Int)) with
   |false=>simp
   |true=>simp only[if_true];rw[z6 (zac (by simp;omega) (by omega))];rfl
  .show (if zuf at_ (gt (sT l) (i:Int))=true then _ else _:List zp).length<=_;split
   .simp;omega
   .omega
 .intro n d _;rw[z1r,if_neg (by simp)]
 .rw[y8u,w1z,zz8];rfl
theorem zw0(φ:Nat)(hφ:5000<φ)(S:List z7)(j:S.length<=1000):z3n φ φ 0 S []=some (S.map ordR,()):=by
 refine(z3c (λn i d=>z3n φ n i S d) (λd=>some (d,())) S (λs r=>s++[ordR r]) (λi s=>s.length<=i) ?_ ?_ φ [] (by simp) (by omega)).1.trans ?_
 .intro n i d g f;refine⟨?_,by simp;omega⟩;rw[z3n,if_pos (by simp;omega),z6 ⟨by omega,by omega⟩,W_id (x:=(i:Int)+1) (by omega) (by omega),z6 (zac (by simp;omega) (by omega))];rfl
 .intro n d _;rw[z3n,if_neg (by simp)]
 .have h:=y8u (λ_:z7=>true) ordR S [];rw[w1z,w3b.2 (λ_ _=>rfl)] at h;simpa using h
theorem zz2(φ:Nat)(hφ:5000<φ)(l:List z7)(at_:Int)(z:l.length<=800):zd9 φ l at_=some (wanted l at_,()):=by
 unfold zd9;refine zu (λn i d=>z4f φ n l at_ i d) l.length (λi d=>d=sT ((l.take i).filter (zuf at_))) (λo=>o=some (wanted l at_,())) ?_ ?_ φ [] rfl (by omega)
 .intro n i d g f j;have u :((l.take i).filter (zuf at_)).length<=800:=w1o (List.length_filter_le _ _) (by rw[w1e];omega);rw[z4f,if_pos (by simp;omega),z6 ⟨by omega,by omega⟩,z6 (λ_=>⟨by omega,by omega⟩),W_id (x:=(i:Int)+1) (by omega) (by omega)];show (if zuf at_ (gt l (i:Int))=true then _ else _)=_;cases h:zuf at_ (gt l (i:Int)) with
  |false=>rw[if_neg (by simp)];refine j d ?_;rw[z03 l i g,w12,f];simp[h]
  |true=>rw[if_pos rfl,z6 ⟨by omega,by omega⟩,f,zp7 φ hφ _ _ (by omega),w00];refine j _ ?_;rw[z03 l i g,w12];simp[h]
 .intro n d f;rw[z4f,if_neg (by simp),f,w11];exact zw0 φ hφ _ (by rw[zqt];exact w1o (List.length_filter_le _ _) (by omega))
end Px
end
section
namespace Px
open Go
set_option maxRecDepth 100000
abbrev StkM:=List (zc×Int)
theorem y4a{a b:zc}(h:zlh a=zlh b):a=b:=by obtain⟨d,f,a3⟩:=a;obtain⟨g,j,u⟩:=b;have h : [d,f,a3] = [g,j,u]:=h;cases h;rfl
instance:DecidableEq zc:=λa b=>decidable_of_iff (a.kind=b.kind/\a.class_=b.class_/\a.place=b.place) ⟨λh=>by cases a;cases b;cases h.1;cases h.2.1;cases h.2.2;rfl,λh=>by rw[h];exact⟨rfl,rfl,rfl⟩⟩
def cntK(ks:List zc)(k:zc):Nat:=(ks.filter (λx=>decide (x=k))).length
def incK(m:StkM)(k:zc):StkM:=cset zlh m k (W ((cget zlh m k).getD (default:Int)+1))
theorem y85(d:List zc)(k:zc):cntK d k<=d.length:=List.length_filter_le _ _
theorem zxc(f:List zc)(k d:zc):cntK (f++[k]) d=cntK f d+if k=d then 1 else 0:=by unfold cntK;rw[w12,w0h];by_cases h:k=d<;>simp[w15,h]
structure zr8(ks:List zc)(m:StkM):Prop where
 srt:Srt' zlh m
 get:∀k,cget zlh m k=if cntK ks k=0 then none else some (cntK ks k:Int)
theorem zr8.nil:zr8 [] []:=⟨List.Pairwise.nil,λk=>rfl⟩
theorem zr8.inc{d:List zc}{m:StkM}(h:zr8 d m)(k:zc)(u:d.length<=100000):zr8 (d++[k]) (incK m k) where
 srt:=h.srt.set _ _
 get:=λf=>by
  have g:=y85 d k;have j:W ((cget zlh m k).getD (default:Int)+1) =(cntK d k:Int)+1:=by
   rw[h.get k];by_cases e:cntK d k=0
   .rw[if_pos e,e];show W (0+1)=_;rw[W_id (by omega) (by omega)];rfl
   .rw[if_neg e];show W ((cntK d k:Int)+1)=_;rw[W_id (by omega) (by omega)]
  unfold incK;rw[zto h.srt,j,zxc];by_cases e:k=f
  .subst e;simp
  .have :(zlh f==zlh k)=false:=by rw[beq_eq_false_iff_ne];exact λq=>e (y4a q).symm
   rw[this,if_neg e,cond_false,h.get f];rfl
theorem zr8.mem{g:List zc}{m:StkM}(h:zr8 g m)(k:zc)(c:Int):(k,c)∈m↔c =(cntK g k:Int)/\1<=c:=by
 constructor
 .intro z;have d:=zoe h.srt.ndp z rfl;rw[h.get k] at d;split at d
  .cases d
  .have:=w0f d;omega
 .rintro⟨e,d⟩;have f:=h.get k;rw[if_neg (by omega),<- e] at f;obtain⟨a,j,u⟩:=zb0 f;rw[y4a u];exact j
def supE(at_:Int)(e:zc×Int):za:=⟨e.1.kind,e.1.class_,e.1.place,at_,e.2⟩
def keyS(x:za):zc:=⟨x.type_,x.class_,x.place⟩
theorem zsu{a b:za}: keyS a=keyS b↔¬z2z a b<0/\¬z2z b a<0:=by
 rw[z6c,z6c];constructor
 .intro h;have d:=congrArg zc.kind h;have f:=congrArg zc.class_ h;have g:=congrArg zc.place h;simp only[keyS] at d f g;omega
 .intro h;have d:a.type_=b.type_:=by omega
  have f:a.class_=b.class_:=by omega
  have g:a.place=b.place:=by omega
  unfold keyS;rw[d,f,g]
theorem zx8{a d b f:za}(h:keyS a=keyS d)(k:keyS b=keyS f):z2z a b=z2z d f:=by have g:=congrArg zc.kind h;have j:=congrArg zc.class_ h;have u:=congrArg zc.place h;have z:=congrArg zc.kind k;have k2:=congrArg zc.class_ k;have k3:=congrArg zc.place k;simp only[keyS] at g j u z k2 k3;unfold z2z;rw[g,j,u,z,k2,k3]
theorem yfs(a:za):¬z2z a a<0:=by rw[z6c];omega
theorem ykf{a b c:za}(h:z2z a b<0)(k:z2z b c<0):z2z a c<0:=by rw[z6c] at *;omega
theorem yke{a b:za}(h:z2z a b<0):¬z2z b a<0:=by rw[z6c] at *;omega
structure ze8(at_:Int)(ks:List zc)(out:List za):Prop where
 srt:out.Pairwise λa b=>z2z a b<0
 mem:∀x,x∈out↔x.at_=at_/\x.count =(cntK ks (keyS x):Int)/\1<=x.count
theorem ze8.uniq{at_:Int}{h:List zc}{a b:List za}(f:ze8 at_ h a)(g:ze8 at_ h b):a=b:=by
 have d:∀{l:List za},(l.Pairwise λa b=>z2z a b<0)->l.Nodup:=λz=>List.Pairwise.imp (λ{x y}q e=>by subst e;exact yfs x q) z
 refine List.Perm.eq_of_pairwise (le:=λa b=>z2z a b<0) (λx y _ _ j u=>absurd u (yke j)) f.srt g.srt ?_;exact(w48 (d f.srt) (d g.srt)).2 λx=>(f.mem x).trans (g.mem x).symm
theorem ze8.nil(at_:Int):ze8 at_ [] [] where
 srt:=List.Pairwise.nil
 mem:=λx=>by
  constructor
  .intro h;cases h
  .rintro⟨_,d,f⟩;have d:x.count=0:=d;omega
theorem zwb{at_:Int}{u:List zc}{m:StkM}(h:zr8 u m)(hl:m.length<=100000):∃out,zmb (m.map (supE at_))=some out/\ze8 at_ u out:=by
 have j :(m.map (supE at_)).Pairwise λa b=>z2z a b<0\/z2z b a<0:=by
  refine w2x.2 (h.srt.ndp.imp λ{a b}hn=>?_);by_cases e:keyS (supE at_ a)=keyS (supE at_ b)
  .exact absurd (congrArg zlh (show a.1=b.1 from e)) hn
  .rw[zsu] at e;omega
 have hs:Sort.SWO (λa b:za=>decide (z2z a b<0)):=⟨λa=>by simpa using yfs a,λa b c f g=>by simp at *;exact ykf f g,λa b c f g=>by simp only[decide_eq_false_iff_not] at *;rw[z6c] at *;omega⟩;refine⟨zb4 (λa b=>decide (z2z a b<0)) (m.map (supE at_)),y5g (λ_ _=>rfl) (by simp;omega) j,?_,λx=>?_⟩
 .have f:=z7h hs (m.map (supE at_));have g :(zb4 (λa b=>decide (z2z a b<0)) (m.map (supE at_))).Pairwise λa b=>z2z a b<0\/z2z b a<0:=((z0w _ _).pairwise_iff (λ{a b}h=>h.symm)).2 j
  refine(f.and g).imp λ{a b} ⟨q1,d⟩=>?_
  simp only[decide_eq_false_iff_not] at q1;exact d.resolve_right q1
 .rw[(z0w _ _).mem_iff,w0b];constructor
  .rintro⟨⟨k,c⟩,z,rfl⟩;obtain⟨q1,d⟩:=(h.mem k c).1 z;exact⟨rfl,q1,d⟩
  .rintro⟨q1,d,q3⟩;refine⟨(keyS x,x.count),(h.mem _ _).2 ⟨d,q3⟩,?_⟩;subst q1;rfl
theorem zo2(φ:Nat)(at_:Int):∀(m:StkM)(n:Nat)(d:List za),m.length<n->d.length+m.length<=10000->z00 φ n at_ d m =(zmb (d++m.map (supE at_))).bind λy=>some (y,0,())
 | [],n,d,f,g=>by obtain⟨n,rfl⟩:∃k,n=k+1:=⟨n-1,by simp at f;omega⟩;rw[z00,z0q];simp
 |e::m,n,d,f,g=>by obtain⟨n,rfl⟩:∃k,n=k+1:=⟨n-1,by simp at f;omega⟩;rw[z00,z0q];simp only[w0o] at f g;rw[z6 (zac (by simp;omega) (by omega)),zo2 φ at_ m n _ (by omega) (by simp;omega),w0l,<- List.append_cons];rfl
theorem zpb(φ:Nat)(a b:za):zbh φ a b=some (decide (z2z a b<0),()):=by
 unfold zbh;by_cases h :(a.type_:Int)=b.type_
 .rw[if_neg (by simp[h])];by_cases d :(a.class_:Int)=b.class_
  .rw[if_neg (by simp[d])];congr 2;rw[w0t,decide_eq_true_eq,decide_eq_true_eq,z6c];omega
  .rw[if_pos (by simp[d])];congr 2;rw[w0t,decide_eq_true_eq,decide_eq_true_eq,z6c];omega
 .rw[if_pos (by simp[h])];congr 2;rw[w0t,decide_eq_true_eq,decide_eq_true_eq,z6c];omega
def ltX(x a:za):Bool:=decide (z2z a x<0)
def gtX(x a:za):Bool:=decide (z2z x a<0)
def cntX(x:za)(c:Int):za:=⟨x.type_,x.class_,x.place,x.at_,c⟩
theorem zr3{α:Type}(p q:α->Bool):∀l:List α,(∀a∈l,¬(p a=true/\q a=true))->(l.filter p).length+(l.filter q).length<=l.length
 | [],_=>by simp
 |a::l,h=>by
  have u:=zr3 p q l λb f=>h b (w0g _ f)
  have d:=h a (by simp);cases g:p a<;>cases j:q a<;>simp[w15,g,j] at d⊢<;>omega
theorem zgo(x:za)(N:Int)(u:0<=N/\N<=100000):∀(l:List za)(d:List za)(c:Int),(∀a∈l,keyS a=keyS x->a.count=N)->
  l.foldl (λ(s:List za×za)r=>if decide (z2z r s.2<0)=true then(s.1++[r],s.2) else if(!decide (z2z s.2 r<0))=true then(s.1,cntX s.2 (W (r.count+1))) else s) (d,cntX x c) =
   (d++l.filter (ltX x),cntX x (if l.any (λa=>decide (keyS a=keyS x))=true then N+1 else c))
 | [],d,c,_=>by simp
 |r::l,d,c,h=>by
  have e1:z2z r (cntX x c)=z2z r x:=zx8 rfl rfl;have e2:z2z (cntX x c) r=z2z x r:=zx8 rfl rfl;rw[w1y];simp only[e1,e2];have z:=λa ha=>h a (w0g r ha)
  by_cases f:z2z r x<0
  .have g:keyS r≠keyS x:=λq=>(zsu.1 q).1 f
   rw[if_pos (by simpa using f),zgo x N u l _ c z];simp[w15,ltX,f,g]
  .rw[if_neg (by simpa using f)];by_cases j:z2z x r<0
   .have g:keyS r≠keyS x:=λq=>(zsu.1 q).2 j
    rw[if_neg (by simpa using j),zgo x N u l _ c z];simp[w15,ltX,f,g]
   .have g:keyS r=keyS x:=zsu.2 ⟨f,j⟩;have hr:=h r (by simp) g;rw[if_pos (by simpa using j),hr,W_id (by omega) (by omega)];show List.foldl _ (d,cntX x (N+1)) l=_;rw[zgo x N u l _ (N+1) z];simp[w15,ltX,f,g]
theorem yc8{φ:Nat}(hφ:20000<φ){at_:Int}{d:List zc}{out:List za}(h:ze8 at_ d out)(x:za)(hx:x.at_=at_)(hl:out.length<=10000)(hk:d.length<=100000):
  ∃f,z7w φ out x=some (f,())/\ze8 at_ (d++[keyS x]) f/\f.length<=out.length+1:=by
 have hN:=y85 d (keyS x);have u:∀a∈out,keyS a=keyS x->a.count =(cntK d (keyS x):Int):=λa g hq=>by rw[<- hq];exact((h.mem a).1 g).2.1
 have j :(if out.any (λa=>decide (keyS a=keyS x))=true then(cntK d (keyS x):Int)+1 else 1) =(cntK d (keyS x):Int)+1:=by
  split
  .rfl
  .rename_i hn;have:cntK d (keyS x)=0:=by
    refine Decidable.byContradiction λq=>hn (w1q.2 ⟨cntX x (cntK d (keyS x)),(h.mem _).2 ⟨hx,rfl,?_⟩,by simp[keyS,cntX]⟩)
    show (1:Int)<=(cntK d (keyS x):Int);omega
   omega
 have a0:=λa(g:a∈out)(q:ltX x a=true/\gtX x a=true)=>yke (by simpa[ltX] using q.1) (by simpa[gtX] using q.2)
 have a2:=zr3 (ltX x) (gtX x) out a0;refine⟨out.filter (ltX x)++cntX x ((cntK d (keyS x):Int)+1)::out.filter (gtX x),?_,⟨?_,λy=>?_⟩,by simp;omega⟩
 .unfold z7w;have a1:=z3c (λn i(s:List za×za)=>z2e φ n out i s.2 s.1) (λs=>ck (fits (s.1.length + [s.2].length) 40) (z1i φ φ out 0 s.2 (s.1++[s.2]))) out
   (λs r=>if decide (z2z r s.2<0)=true then(s.1++[r],s.2) else if(!decide (z2z s.2 r<0))=true then(s.1,cntX s.2 (W (r.count+1))) else s) (λi s=>s.1.length<=i) ?_ ?_ φ ([],cntX x 1) (by simp) (by omega)
  .refine a1.1.trans ?_;rw[zgo x _ ⟨by omega,by omega⟩ out [] 1 u,j];simp only[w1z];rw[z6 (zac (by simp;omega) (by omega))];refine(z3c (λn i(s:List za)=>z1i φ n out i (cntX x ((cntK d (keyS x):Int)+1)) s) (λs=>some (s,())) out (λs r=>if gtX x r=true then s++[r] else s) (λi s=>s.length<=out.length+1+i) ?_ ?_ φ _ (by simp;omega) (by omega)).1.trans ?_
   .intro n i s hi hs;refine⟨?_,?_⟩
    .have e2:z2z (cntX x ((cntK d (keyS x):Int)+1)) (gt out (i:Int))=z2z x (gt out (i:Int)):=zx8 rfl rfl;rw[z1i,if_pos (by simp;omega),z6 ⟨by omega,by omega⟩,zpb,w00,W_id (x:=(i:Int)+1) (by omega) (by omega),e2];show (if gtX x (gt out (i:Int))=true then _ else _)=_;cases hg:gtX x (gt out (i:Int)) with
     |false=>simp
     |true=>simp only[if_true];rw[z6 ⟨by omega,by omega⟩,z6 (zac (by simp;omega) (by omega))]
    .show (if gtX x (gt out (i:Int))=true then _ else _:List za).length<=_;split
     .simp;omega
     .omega
   .intro n s _;rw[z1i,if_neg (by simp)]
   .rw[zbr];simp
  .intro n i s hi hs;refine⟨?_,?_⟩
   .rw[z2e,if_pos (by simp;omega),z6 ⟨by omega,by omega⟩,zpb,w00,W_id (x:=(i:Int)+1) (by omega) (by omega)];simp only;by_cases z:z2z (gt out (i:Int)) s.2<0
    .rw[if_pos (by simpa using z),if_pos (by simpa using z),z6 ⟨by omega,by omega⟩,z6 (zac (by simp;omega) (by omega))]
    .rw[if_neg (by simpa using z),if_neg (by simpa using z),z6 ⟨by omega,by omega⟩,zpb,w00];simp only;by_cases h2:z2z s.2 (gt out (i:Int))<0
     .rw[if_neg (by simpa using h2),if_neg (by simpa using h2)]
     .rw[if_pos (by simpa using h2),if_pos (by simpa using h2),z6 ⟨by omega,by omega⟩];rfl
   .show (if _ then _ else if _ then _ else _:List za×za).1.length<=_;split
    .simp;omega
    .split
     .show s.1.length<=_;omega
     .omega
  .intro n s _;rw[z2e,if_neg (by simp)]
 .refine w47.2 ⟨h.srt.filter _,w13.2 ⟨λb hb=>?_,h.srt.filter _⟩,λa g b hb=>?_⟩
  .rw[show z2z (cntX x ((cntK d (keyS x):Int)+1)) b=z2z x b from zx8 rfl rfl];simpa[gtX] using(w0i.1 hb).2
  .have g:=(w0i.1 g).2;have g:z2z a x<0:=by simpa[ltX] using g
   rcases w05.1 hb with rfl|hb
   .rw[show z2z a (cntX x ((cntK d (keyS x):Int)+1))=z2z a x from zx8 rfl rfl];exact g
   .have hb:=(w0i.1 hb).2;exact ykf g (by simpa[gtX] using hb)
 .rw[zxc,w0j,w05,w0i,w0i];by_cases e:keyS x=keyS y
  .have e':=zsu.1 e;rw[if_pos e,<- e];constructor
   .rintro(⟨_,q⟩|rfl|⟨_,q⟩)
    .exact absurd (by simpa[ltX] using q) e'.2
    .exact⟨hx,by simp[cntX],by simp only[cntX];omega⟩
    .exact absurd (by simpa[gtX] using q) e'.1
   .rintro⟨q1,q2,q3⟩;refine .inr (.inl ?_);have k1:=congrArg zc.kind e;have k2:=congrArg zc.class_ e;have k3:=congrArg zc.place e;simp only[keyS] at k1 k2 k3;obtain⟨y1,y2,y3,y4,y5⟩:=y;simp only at k1 k2 k3 q1 q2;unfold cntX;rw[k1,k2,k3,hx,q1,q2];simp
  .rw[if_neg e,w3r];have e':z2z y x<0\/z2z x y<0:=by refine Decidable.byContradiction λq=>e (zsu.2 ?_);omega
   constructor
   .rintro(⟨q,_⟩|rfl|⟨q,_⟩)
    .exact(h.mem y).1 q
    .exact absurd (by simp[keyS,cntX]) e
    .exact(h.mem y).1 q
   .intro q;have hm:=(h.mem y).2 q;rcases e' with e'|e'
    .exact .inl ⟨hm,by simpa[ltX] using e'⟩
    .exact .inr (.inr ⟨hm,by simpa[gtX] using e'⟩)
end Px
end
section
namespace Px
open Go
def ze6(s:List Int)(w:Int):List Int:=s.filter (λx=>decide (x<w))++w::s.filter (λx=>decide (w<x))
def zhh(s:List Int)(w:Int):List Int:=s.filter (λx=>x !=w)
abbrev Inc(s:List Int):Prop:=s.Pairwise λa b=>a<b
theorem y1b{a b:List Int}(d:Inc a)(f:Inc b)(h:∀x,x∈a↔x∈b):a=b:=by
 have g:a.Nodup:=d.imp λh=>by omega
 have nb:b.Nodup:=f.imp λh=>by omega
 refine List.Perm.eq_of_pairwise (le:=λa b:Int=>a<=b) (λa b _ _ j u=>by omega) (d.imp λh=>by omega) (f.imp λh=>by omega) ?_;exact(w48 g nb).2 h
theorem zkt{s:List Int}{w x:Int}: x∈ze6 s w↔x=w\/x∈s:=by
 unfold ze6;simp only[w0j,w0i,w05,decide_eq_true_eq];constructor
 .rintro(h|h|h)
  .exact .inr h.1
  .exact .inl h
  .exact .inr h.1
 .rintro(h|h)
  .exact .inr (.inl h)
  .rcases Int.lt_trichotomy x w with q|q|q
   .exact .inl ⟨h,q⟩
   .exact .inr (.inl q)
   .exact .inr (.inr ⟨h,q⟩)
theorem zzq{s:List Int}(h:Inc s)(w:Int):Inc (ze6 s w):=by
 unfold ze6 Inc;rw[w47];refine⟨h.filter _,w13.2 ⟨λx hx=>?_,h.filter _⟩,λa f b hb=>?_⟩
 .simpa using(w0i.1 hx).2
 .have d:a<w:=by simpa using(w0i.1 f).2
  rcases w05.1 hb with rfl|hb
  .exact d
  .have g:w<b:=by simpa using(w0i.1 hb).2
   omega
theorem zn2{s:List Int}{w x:Int}: x∈zhh s w↔x∈s/\x≠w:=by simp[zhh]
theorem zzt{s:List Int}(h:Inc s)(w:Int):Inc (zhh s w):=h.filter _
theorem yl5{a b:Int}: ltI (kl_0 a) (kl_0 b)=true↔a<b:=by
 show ltI [a] [b]=true↔_;simp only[ltI];by_cases h:a<b
 .simp[h]
 .by_cases d:a=b
  .simp[d]
  .simp[h,d]
theorem zh0{s:List (Int×Bool)}(h:Srt' kl_0 s):Inc (s.map (·.1)):=w2x.2 (List.Pairwise.imp (λ{a b}q=>yl5.1 q) h)
theorem y9l{a b:Int}(h:kl_0 a=kl_0 b):a=b:=by have h : [a] = [b]:=h;cases h;rfl
theorem ydv{a b:z8}(h:z72 a=z72 b):a=b:=by obtain⟨d,f⟩:=a;obtain⟨g,j⟩:=b;have h : [d,f] = [g,j]:=h;cases h;rfl
theorem zuj{s:List (Int×Bool)}(h:Srt' kl_0 s)(w:Int)(v:Bool):(cset kl_0 s w v).map (·.1)=ze6 (s.map (·.1)) w:=by
 refine y1b (zh0 (h.set w v)) (zzq (zh0 h) w) λx=>?_
 rw[zkt];simp only[w0b];constructor
 .rintro⟨p,d,rfl⟩;rcases(z4k h).1 d with rfl|⟨d,_⟩
  .exact .inl rfl
  .exact .inr ⟨p,d,rfl⟩
 .rintro(rfl|⟨p,d,rfl⟩)
  .exact⟨_,(z4k h).2 (.inl rfl),rfl⟩
  .by_cases e:p.1=w
   .exact⟨(w,v),(z4k h).2 (.inl rfl),e.symm⟩
   .exact⟨p,(z4k h).2 (.inr ⟨d,λq=>e (y9l q).symm⟩),rfl⟩
theorem ydu{s:List (Int×Bool)}(h:Srt' kl_0 s)(w:Int):(cdel kl_0 s w).map (·.1)=zhh (s.map (·.1)) w:=by
 refine y1b (zh0 (h.del w)) (zzt (zh0 h) w) λx=>?_
 rw[zn2,zbl h.ndp];simp only[w0b,w0i,w0v,beq_eq_false_iff_ne];constructor
 .rintro⟨p,⟨f,d⟩,rfl⟩;exact⟨⟨p,f,rfl⟩,λe=>d (by rw[e])⟩
 .rintro⟨⟨p,f,rfl⟩,d⟩;exact⟨p,⟨f,λe=>d (y9l e).symm⟩,rfl⟩
instance:DecidableEq z8:=λa b=>decidable_of_iff (a.kind=b.kind/\a.serial=b.serial) ⟨λh=>by cases a;cases b;cases h.1;cases h.2;rfl,λh=>by rw[h];exact⟨rfl,rfl⟩⟩
def OkS(s:List (Int×Bool)):Prop:=Srt' kl_0 s/\∀q∈s,q.2=true
theorem OkS.nil:OkS []:=⟨List.Pairwise.nil,λq d=>by cases d⟩
theorem OkS.set{s:List (Int×Bool)}(h:OkS s)(w:Int):OkS (cset kl_0 s w true):=
 ⟨h.1.set w true,λq d=>by
  rcases(z4k h.1).1 d with rfl|⟨d,_⟩
  .rfl
  .exact h.2 q d⟩
theorem OkS.del{s:List (Int×Bool)}(h:OkS s)(w:Int):OkS (cdel kl_0 s w):=⟨h.1.del w,λq d=>h.2 q ((zns s w).subset d)⟩
structure OkM(M:Cmps):Prop where
 srt:Srt' z72 M
 vals:∀p∈M,OkS p.2
def wk(M:Cmps)(c:z8):List (Int×Bool):=(cget z72 M c).getD (default:List (Int×Bool))
theorem OkM.nil:OkM []:=⟨List.Pairwise.nil,λq d=>by cases d⟩
theorem OkM.set{M:Cmps}(h:OkM M)(c:z8){s:List (Int×Bool)}(f:OkS s):OkM (cset z72 M c s):=
 ⟨h.srt.set c s,λq d=>by
  rcases(z4k h.srt).1 d with rfl|⟨d,_⟩
  .exact f
  .exact h.vals q d⟩
theorem OkM.get{M:Cmps}(h:OkM M){c:z8}{s:List (Int×Bool)}(d:cget z72 M c=some s):OkS s:=by obtain⟨a,f,_⟩:=zb0 d;exact h.vals _ f
theorem OkM.wk{M:Cmps}(h:OkM M)(c:z8):OkS (wk M c):=by
 unfold Px.wk;cases d:cget z72 M c with
 |none=>exact OkS.nil
 |some s=>exact h.get d
theorem OkM.step{M:Cmps}(h:OkM M)(w:Int)(p:Part):OkM (zqz w M p):=by
 unfold zqz;split
 .split
  .rename_i s d;exact h.set _ ((h.get d).del w)
  .exact h
 .split
  .rename_i s d;exact h.set _ ((h.get d).set w)
  .exact(h.set _ OkS.nil).set _ (OkS.nil.set w)
theorem y5k{M:Cmps}(h:Srt' z72 M)(c d:z8)(s:List (Int×Bool)):wk (cset z72 M c s) d=if d=c then s else wk M d:=by
 unfold wk;rw[zto h];by_cases e:d=c
 .subst e;simp
 .have :(z72 d==z72 c)=false:=by rw[beq_eq_false_iff_ne];exact λq=>e (ydv q)
  rw[this,if_neg e];rfl
def znq(c:z8)(w:Int)(s:List Int)(p:Part):List Int:=if ofP p=c then(if p.fitted=true then ze6 s w else zhh s w) else s
theorem yk3{M:Cmps}(h:OkM M)(w:Int)(p:Part)(c:z8):(wk (zqz w M p) c).map (·.1)=znq c w ((wk M c).map (·.1)) p:=by
 unfold zqz znq;cases f:p.fitted with
 |false=>
  simp only[if_true];split
  .rename_i s d;rw[y5k h.srt];by_cases e:c=ofP p
   .rw[if_pos e,if_pos e.symm,if_neg (by simp),ydu (h.get d).1];have:wk M c=s:=by unfold wk;rw[e,d];rfl
    rw[this]
   .rw[if_neg e,if_neg (λq=>e q.symm)]
  .rename_i d;by_cases e:c=ofP p
   .rw[if_pos e.symm,if_neg (by simp)];have:wk M c = []:=by unfold wk;rw[e,d];rfl
    rw[this];rfl
   .rw[if_neg (λq=>e q.symm)]
 |true=>
  simp only[Bool.true_eq_false,if_false];split
  .rename_i s d;rw[y5k h.srt];by_cases e:c=ofP p
   .rw[if_pos e,if_pos e.symm,if_pos trivial,zuj (h.get d).1];have:wk M c=s:=by unfold wk;rw[e,d];rfl
    rw[this]
   .rw[if_neg e,if_neg (λq=>e q.symm)]
  .rename_i d;rw[y5k (h.srt.set _ _),y5k h.srt];by_cases e:c=ofP p
   .rw[if_pos e,if_pos e.symm,if_pos trivial,zuj OkS.nil.1];have:wk M c = []:=by unfold wk;rw[e,d];rfl
    rw[this]
   .rw[if_neg e,if_neg e,if_neg (λq=>e q.symm)]
def posR(c:z8)(s:List Int)(r:z7):List Int:=r.item.parts.foldl (znq c r.item.wagon) s
def posW(c:z8)(rs:List z7):List Int:=rs.foldl (posR c) []
theorem y4s(w:Int)(c:z8):∀(ps:List Part)(M:Cmps),OkM M->OkM (ps.foldl (zqz w) M)/\(wk (ps.foldl (zqz w) M) c).map (·.1)=ps.foldl (znq c w) ((wk M c).map (·.1))
 | [],M,h=>⟨h,rfl⟩
 |p::ps,M,h=>by have:=y4s w c ps (zqz w M p) (h.step w p);rw[yk3 h] at this;exact this
theorem y2d(c:z8):∀(d:List z7)(M:Cmps),OkM M->OkM (d.foldl y2k M)/\(wk (d.foldl y2k M) c).map (·.1)=d.foldl (posR c) ((wk M c).map (·.1))
 | [],M,h=>⟨h,rfl⟩
 |r::d,M,h=>by have f:=y4s r.item.wagon c r.item.parts M h;have:=y2d c d (y2k M r) f.1;show _/\_=d.foldl (posR c) (posR c _ r);rw[show posR c ((wk M c).map (·.1)) r =(wk (y2k M r) c).map (·.1) from f.2.symm];exact this
theorem y2v(d:List z7):OkM (zwq d):=(y2d ⟨0,0⟩ d [] OkM.nil).1
theorem zin(d:List z7)(c:z8):(wk (zwq d) c).map (·.1)=posW c d:=(y2d c d [] OkM.nil).2
theorem yev(c:z8)(d:List z7):Inc (posW c d):=by rw[<- zin];exact zh0 ((y2v d).wk c).1
theorem zzj(c:z8)(w:Int):∀(ps:List Part)(s:List Int)(x:Int),x∈ps.foldl (znq c w) s->x=w\/x∈s
 | [],s,x,h=>.inr h
 |p::ps,s,x,h=>by
  rcases zzj c w ps _ x h with q|q
  .exact .inl q
  .unfold znq at q;split at q
   .split at q
    .exact zkt.1 q
    .exact .inr (zn2.1 q).1
   .exact .inr q
theorem y4v(c:z8):∀(d:List z7)(s:List Int)(x:Int),x∈d.foldl (posR c) s->x∈s\/∃r∈d,x=r.item.wagon
 | [],s,x,h=>.inl h
 |r::d,s,x,h=>by
  rcases y4v c d _ x h with q|⟨g,f,q⟩
  .rcases zzj c _ _ _ x q with q|q
   .exact .inr ⟨r,by simp,q⟩
   .exact .inl q
  .exact .inr ⟨g,by simp[f],q⟩
theorem zh6{c:z8}{d:List z7}{x:Int}(h:x∈posW c d):∃r∈d,x=r.item.wagon:=by
 rcases y4v c d [] x h with q|q
 .cases q
 .exact q
theorem zes:∀{a:List Int}{b:List Int},Inc a->(∀x∈a,x∈b)->a.length<=b.length
 | [],b,_,_=>w30 _
 |x::a,b,f,h=>by
  have hx:=h x (by simp);have d:=w13.1 f;have:=zes (a:=a) (b:=b.erase x) d.2 λy hy=>(List.mem_erase_of_ne (λe=>by have:=d.1 y hy;omega)).2 (h y (by simp[hy]))
  rw[List.length_erase_of_mem hx] at this;have:=List.length_pos_of_mem hx;simp only[w0o];omega
theorem y4u(c:z8)(d:List z7):(posW c d).length<=d.length:=by
 have:=zes (yev c d) (b:=d.map λr=>r.item.wagon) λx hx=>by obtain⟨r,f,e⟩:=zh6 hx;exact w0b.2 ⟨r,f,e.symm⟩
 simpa using this
end Px
end
section
namespace Px
open Go
structure FewP(l:List z7):Prop where
 len:l.length<=20
 parts:∀r∈l,r.item.parts.length<=40
 wagon:∀r∈l,-9223372036854775808<=r.item.wagon/\r.item.wagon<9223372036854775808
theorem FewP.carriers{l:List z7}(h:FewP l)(φ:Nat)(hφ:10000<φ)(at_:Int):z62 φ l at_=some (zwq (hist l at_),()):=y09 φ hφ l at_ (by have:=h.len;omega) (λr d=>by have:=h.parts r d;omega)
theorem y6q{l:List z7}(h:FewP l){c:z8}{at_ x:Int}(f:x∈posW c (hist l at_)): -9223372036854775808<=x/\x<9223372036854775808:=by obtain⟨r,d,rfl⟩:=zh6 f;exact h.wagon r (zjl.1 d).1
theorem ymd{s:List (Int×Bool)}(h:∀x∈s.map (·.1),-9223372036854775808<=x/\x<9223372036854775808)(j:s.length<=100000):soK kl_0 s=true:=by unfold soK;rw[w02];refine⟨w0a.2 λp g=>?_,Nat.ble_eq_true_of_le (by omega)⟩;obtain⟨d,f⟩:=h p.1 (w0b.2 ⟨p,g,rfl⟩);show inI [p.1]=true;simp[inI,d,f]
theorem yd0{κ ν:Type}{e:κ->List Int}{m:List (κ×ν)}(h:Srt' e m)(k:κ)(v:ν):(cset e m k v).length<=m.length+1:=by rw[(zix h k v).length_eq,w0o];have:=(zns (e:=e) m k).length_le;omega
end Px
end
section
namespace Px
open Go
def cpM(m s:List (Int×Bool)):List (Int×Bool):=s.foldl (λm e=>cset kl_0 m e.1 e.2) m
theorem yft:∀{s m:List (Int×Bool)},OkS m->(∀q∈s,q.2=true)->OkS (cpM m s)/\∀x,x∈(cpM m s).map (·.1)↔x∈m.map (·.1)\/x∈s.map (·.1)
 | [],m,h,_=>⟨h,λx=>by simp[cpM]⟩
 |e::s,m,h,d=>by
  have u:e.2=true:=d e (by simp);have f:OkS (cset kl_0 m e.1 e.2):=by rw[u];exact h.set e.1
  obtain⟨g,j⟩:=yft (s:=s) f λq z=>d q (by simp[z])
  refine⟨g,λx=>(j x).trans ?_⟩;rw[zuj h.1,zkt];simp only[w0l,w05];constructor
  .rintro((q|q)|q)
   .exact .inr (.inl q)
   .exact .inl q
   .exact .inr (.inr q)
  .rintro(q|q|q)
   .exact .inl (.inr q)
   .exact .inl (.inl q)
   .exact .inr q
theorem zhn(φ:Nat)(j):∀(s:List (Int×Bool))(n:Nat)(a b c d e f g i)(m:List (Int×Bool)),s.length<n->z4y φ j n a b c d e f g i m s=j a b c d e f g (W (i+1)) (cpM m s)
 | [],n+1,a,b,c,d,e,f,g,i,m,_=>rfl
 |x::s,n+1,a,b,c,d,e,f,g,i,m,h=>by simp only[w0o] at h;simp only[z4y,zdc];rw[zhn φ j s n _ _ _ _ _ _ _ _ _ (by omega)];rfl
def zi9(at_:Int)(r:z7):Bool:=((r.item.kind:Int)==10)&&decide ((r.time:Int)<=at_)
def blkR(at_:Int)(M:Cmps)(m:List (Int×Bool))(r:z7):List (Int×Bool):=if zi9 at_ r=true then r.item.parts.foldl (λm p=>cpM m (wk M (ofP p))) m else m
theorem zr6(φ:Nat)(d)(at_:Int)(M:Cmps)(l:List z7)(f i:Int)(ps:List Part)(z:ps.length<=1000)(g:∀c,(wk M c).length<φ)(n:Nat)(h:ps.length<n)(m:List (Int×Bool)):
  z27 φ d n at_ M l f i ps (ps.length:Int) 0 m=d at_ M l f (W (i+1)) (ps.foldl (λm p=>cpM m (wk M (ofP p))) m):=by
 refine(z3c (λn j m=>z27 φ d n at_ M l f i ps (ps.length:Int) j m) (λm=>d at_ M l f (W (i+1)) m) ps (λm p=>cpM m (wk M (ofP p))) (λ_ _=>True) ?_ ?_ n m trivial h).1
 .intro n j m u _;refine⟨?_,trivial⟩;rw[z27,if_pos (by simp;omega),z6 ⟨by omega,by omega⟩];simp only[ze2,w00];show z4y φ (z27 φ d n) φ at_ M l f i ps (ps.length:Int) (j:Int) m (wk M (ofP (gt ps (j:Int))))=_;rw[zhn φ _ _ φ _ _ _ _ _ _ _ _ _ (g _),W_id (x:=(j:Int)+1) (by omega) (by omega)]
 .intro n m _;rw[z27,if_neg (by simp)]
theorem zwk(φ:Nat){l:List z7}(h:FewP l)(hφ:10000<φ)(at_:Int)(M:Cmps)(g:∀c,(wk M c).length<φ):
  z21 φ φ at_ M l (l.length:Int) 0 []=ck (soK kl_0 (l.foldl (blkR at_ M) [])=true) (some ((l.foldl (blkR at_ M) []).map (·.1),())):=by
 have z:=h.len;refine(z3c (λn i m=>z21 φ n at_ M l (l.length:Int) i m) (λm=>ck (soK kl_0 m=true) (some (m.map (·.1),()))) l (blkR at_ M) (λ_ _=>True) ?_ ?_ φ [] trivial (by omega)).1
 .intro n i m u _;refine⟨?_,trivial⟩;rw[z21,if_pos (by simp;omega),z6 ⟨by omega,by omega⟩];have f:=z80 (l:=l) (i:=(i:Int)) (by omega) (by omega);rw[W_id (x:=(i:Int)+1) (by omega) (by omega)];unfold blkR zi9;by_cases d :((gt l (i:Int)).item.kind:Int)=10
  .by_cases j :((gt l (i:Int)).time:Int)<=at_
   .rw[if_neg (by simp;omega),if_pos (by simp[d,j]),zr6 φ _ at_ M l _ _ _ (by have:=h.parts _ f;omega) g φ (by have:=h.parts _ f;omega),W_id (x:=(i:Int)+1) (by omega) (by omega)]
   .rw[if_pos (by simp;omega),if_neg (by simp;omega)]
  .rw[if_pos (by simp[d]),if_neg (by simp[d])]
 .intro n m _;rw[z21,if_neg (by simp)]
theorem zyj{M:Cmps}(f:OkM M):∀(ps:List Part){m:List (Int×Bool)},OkS m->OkS (ps.foldl (λm p=>cpM m (wk M (ofP p))) m)/\∀x,x∈(ps.foldl (λm p=>cpM m (wk M (ofP p))) m).map (·.1)↔x∈m.map (·.1)\/∃p∈ps,x∈(wk M (ofP p)).map (·.1)
 | [],m,h=>⟨h,λx=>by simp⟩
 |p::ps,m,h=>by
  obtain⟨g,j⟩:=yft h (f.wk (ofP p)).2;obtain⟨u,z⟩:=zyj f ps g;refine⟨u,λx=>(z x).trans ?_⟩;rw[j x];constructor
  .rintro((q|q)|⟨d,hp,q⟩)
   .exact .inl q
   .exact .inr ⟨p,by simp,q⟩
   .exact .inr ⟨d,by simp[hp],q⟩
  .rintro(q|⟨d,hp,q⟩)
   .exact .inl (.inl q)
   .rcases w05.1 hp with rfl|hp
    .exact .inl (.inr q)
    .exact .inr ⟨d,hp,q⟩
theorem y4x(at_:Int){M:Cmps}(j:OkM M):∀(d:List z7){m:List (Int×Bool)},OkS m->OkS (d.foldl (blkR at_ M) m)/\
  ∀x,x∈(d.foldl (blkR at_ M) m).map (·.1)↔x∈m.map (·.1)\/∃r∈d,zi9 at_ r=true/\∃p∈r.item.parts,x∈(wk M (ofP p)).map (·.1)
 | [],m,h=>⟨h,λx=>by simp⟩
 |r::d,m,h=>by
  have g:OkS (blkR at_ M m r)/\∀x,x∈(blkR at_ M m r).map (·.1)↔x∈m.map (·.1)\/(zi9 at_ r=true/\∃p∈r.item.parts,x∈(wk M (ofP p)).map (·.1)):=by
   unfold blkR;cases hr:zi9 at_ r with
   |false=>simp only[w09,if_false];exact⟨h,λx=>by simp⟩
   |true=>simp only[if_true];obtain⟨q1,q2⟩:=zyj j r.item.parts h;exact⟨q1,λx=>(q2 x).trans (by simp)⟩
  obtain⟨u,z⟩:=y4x at_ j d g.1;refine⟨u,λx=>(z x).trans ?_⟩;rw[g.2 x];constructor
  .rintro((q|q)|⟨f,hr,q⟩)
   .exact .inl q
   .exact .inr ⟨r,by simp,q⟩
   .exact .inr ⟨f,by simp[hr],q⟩
  .rintro(q|⟨f,hr,q⟩)
   .exact .inl (.inl q)
   .rcases w05.1 hr with rfl|hr
    .exact .inl (.inr q)
    .exact .inr ⟨f,hr,q⟩
theorem y5n{l:List z7}(h:FewP l)(φ:Nat)(hφ:10000<φ)(at_:Int):∃b,za9 φ l at_=some (b,())/\Inc b/\b.length<=100/\
  ∀x,x∈b↔∃r∈l,zi9 at_ r=true/\∃p∈r.item.parts,x∈posW (ofP p) (hist l at_):=by
 unfold za9;rw[h.carriers φ hφ,w00];simp only;have hM:=y2v (hist l at_);have hw:∀c,(wk (zwq (hist l at_)) c).length<φ:=λc=>by have u:=congrArg List.length (zin (hist l at_) c);rw[w0q] at u;have:=y4u c (hist l at_);have:=zue l at_;have:=h.len;omega
 rw[zwk φ h hφ at_ _ hw];obtain⟨u,h2⟩:=y4x at_ hM l OkS.nil;have hx:∀x,x∈(l.foldl (blkR at_ (zwq (hist l at_))) []).map (·.1)↔∃r∈l,zi9 at_ r=true/\∃p∈r.item.parts,x∈posW (ofP p) (hist l at_):=by
  intro x;rw[h2 x];simp only[List.map_nil,w0y,false_or];constructor
  .rintro⟨r,z,q,p,f,hx⟩;exact⟨r,z,q,p,f,by rw[<- zin];exact hx⟩
  .rintro⟨r,z,q,p,f,hx⟩;exact⟨r,z,q,p,f,by rw[zin];exact hx⟩
 have d:=zh0 u.1;generalize l.foldl (blkR at_ (zwq (hist l at_))) []=m at *;have j:m.length<=100:=by
  have:=zes d (b:=l.map λr=>r.item.wagon) λx g=>by obtain⟨r,_,_,p,_,f⟩:=(hx x).1 g;obtain⟨r',a0,e⟩:=zh6 f;exact w0b.2 ⟨r',(zjl.1 a0).1,e.symm⟩
  rw[w0q,w0q] at this;have:=h.len;omega
 rw[z6 (ymd (λx g=>by obtain⟨r,_,_,p,_,f⟩:=(hx x).1 g;exact y6q h f) (by omega))];exact⟨_,rfl,d,by rw[w0q];exact j,hx⟩
theorem zr7(φ:Nat)(l:List z7)(at_:Int):zav φ l at_=za9 φ l at_:=by kernel_rfl
end Px
end
section
namespace Px
open Go
theorem z2c(φ:Nat)(a b c:Int):zx φ a b c=some (bet a b c,()):=rfl
def zhr(t:z34):Bool:=bet t.load 0 1000000&&bet t.tare 0 1000000&&bet t.length 0 1000000&&bet t.brake 0 1000000&&bet t.gauge 0 7&&bet t.life 1 1073741824&&bet t.floor 0 100
def zev(n:Int)(w:zo5):Bool:=bet w.type_ 0 (n-1)&&bet w.owner 0 63&&bet w.home 0 511&&bet w.built 0 1073741824&&bet w.worth 0 1099511627776
def zhq(n:Int)(s:Swap):Bool:=bet s.wanted 0 (n-1)&&bet s.given 0 (n-1)&&(s.wanted !=s.given)&&bet s.cost 0 1000000000
def zsz(w:Wash):Bool:=bet w.from_ 0 63&&bet w.to 0 63&&(w.from_ !=w.to)&&bet w.minutes 0 100000
def keyW(w:Wash):Int:=64*w.from_+w.to
def z4m(l:List Wash)(i:Nat):Bool:=zsz (gt l (i:Int))&&!(l.take i).any λv=>keyW v==keyW (gt l (i:Int))
def z6h(l:List Wash):Bool:=(List.range l.length).all (z4m l)
def z0j(x:z2h):Int:=
 bif decide (32<x.types.length)||decide (4096<x.wagons.length)||decide (1024<x.swaps.length)||decide (4096<x.washes.length) then 2 else
 bif x.types.all zhr&&x.wagons.all (zev x.types.length)&&x.swaps.all (zhq x.types.length)&&z6h x.washes then 0 else 1
theorem z9y(p:Nat->Bool)(i:Nat):(List.range (i+1)).all p =((List.range i).all p&&p i):=by rw[w1n,w4e];simp
theorem zla(φ:Nat)(x:z2h)(h:x.swaps.length<=1024)(j:x.types.length<=32):
  ∀n s,x.swaps.length<n->z16 φ n x.swaps (x.swaps.length:Int) 0 x s=z05 φ φ x.washes (x.washes.length:Int) 0 (bif x.swaps.all (zhq (x.types.length:Int)) then s else 1) (λ_=>default):=by
 have f:W ((x.types.length:Int)-1) =(x.types.length:Int)-1:=W_id (by omega) (by omega);refine znz (λn i s=>z16 φ n x.swaps (x.swaps.length:Int) i x s) (λs=>z05 φ φ x.washes (x.washes.length:Int) 0 s (λ_=>default)) _ _ ?_ ?_
 .intro n i s g;have d:W ((i:Int)+1) =(i:Int)+1:=W_id (by omega) (by omega);rw[z16,if_pos (by simp;omega),z6 ⟨by omega,by omega⟩];simp only[z2c,w00,zhq,zi,d,f];cases bet (gt x.swaps i).wanted 0 ((x.types.length:Int)-1)<;>cases bet (gt x.swaps i).given 0 ((x.types.length:Int)-1)<;>cases ((gt x.swaps i).wanted !=(gt x.swaps i).given)<;>
   cases bet (gt x.swaps i).cost 0 1000000000<;>rfl
 .intro n s;rw[z16,if_neg (by simp)]
theorem zj7(φ:Nat)(x:z2h)(h:x.wagons.length<=4096)(j:x.types.length<=32):
  ∀n s,x.wagons.length<n->z0r φ n x.wagons (x.wagons.length:Int) 0 x s=z16 φ φ x.swaps (x.swaps.length:Int) 0 x (bif x.wagons.all (zev (x.types.length:Int)) then s else 1):=by
 have f:W ((x.types.length:Int)-1) =(x.types.length:Int)-1:=W_id (by omega) (by omega);refine znz (λn i s=>z0r φ n x.wagons (x.wagons.length:Int) i x s) (λs=>z16 φ φ x.swaps (x.swaps.length:Int) 0 x s) _ _ ?_ ?_
 .intro n i s g;have d:W ((i:Int)+1) =(i:Int)+1:=W_id (by omega) (by omega);rw[z0r,if_pos (by simp;omega),z6 ⟨by omega,by omega⟩];simp only[z2c,w00,zev,zi,d,f];cases bet (gt x.wagons i).type_ 0 ((x.types.length:Int)-1)<;>cases bet (gt x.wagons i).owner 0 63<;>cases bet (gt x.wagons i).home 0 511<;>
   cases bet (gt x.wagons i).built 0 1073741824<;>cases bet (gt x.wagons i).worth 0 1099511627776<;>rfl
 .intro n s;rw[z0r,if_neg (by simp)]
theorem znd(φ:Nat)(k:List z34->Int->Int->z2h->Int->Option (Int×Unit))(d:List z34)(len i:Int)(x:z2h)(t:z34)(n:Nat)(s:Int)(u:4<n):
  z37 φ k n d len i 4 0 x s t [t.load,t.tare,t.length,t.brake]=k d len (W (i+1)) x (bif zhr t then s else 1):=by
 have h:=znz (λn j s=>z37 φ k n d len i 4 j x s t [t.load,t.tare,t.length,t.brake]) (λs=>k d len (W (i+1)) x (bif (bet t.gauge 0 7&&bet t.life 1 1073741824&&bet t.floor 0 100) then s else 1))
  [t.load,t.tare,t.length,t.brake] (λa=>bet a 0 1000000) (λn j s f=>by
   rw[z37,if_pos (by simp at f⊢;omega),z6 ⟨by omega,by omega⟩];simp at f;have g:W ((j:Int)+1) =(j:Int)+1:=W_id (by omega) (by omega);simp only[z2c,w00,g];cases bet (gt [t.load,t.tare,t.length,t.brake] (j:Int)) 0 1000000<;>rfl) (λn s=>by
   rw[z37,if_neg (by simp)];simp only[z2c,w00,zi];cases bet t.gauge 0 7<;>cases bet t.life 1 1073741824<;>cases bet t.floor 0 100<;>rfl) n s u
 rw[h];simp only[zhr,w1h,List.all_nil];cases bet t.load 0 1000000<;>cases bet t.tare 0 1000000<;>cases bet t.length 0 1000000<;>cases bet t.brake 0 1000000<;>
   cases bet t.gauge 0 7<;>cases bet t.life 1 1073741824<;>cases bet t.floor 0 100<;>rfl
theorem zlb(φ:Nat)(hφ:4<φ)(x:z2h)(g:x.types.length<=32):
  ∀n s,x.types.length<n->z5b φ n x.types (x.types.length:Int) 0 x s=z0r φ φ x.wagons (x.wagons.length:Int) 0 x (bif x.types.all zhr then s else 1):=by
 refine znz (λn i s=>z5b φ n x.types (x.types.length:Int) i x s) (λs=>z0r φ φ x.wagons (x.wagons.length:Int) 0 x s) _ _ ?_ ?_
 .intro n i s f;rw[z5b,if_pos (by simp;omega),z6 ⟨by omega,by omega⟩];have d:W ((i:Int)+1) =(i:Int)+1:=W_id (by omega) (by omega);refine(znd φ _ x.types (x.types.length:Int) (i:Int) x (gt x.types i) φ s hφ).trans ?_;rw[d]
 .intro n s;rw[z5b,if_neg (by simp)]
theorem zj8(φ:Nat)(x:z2h)(hl:x.washes.length<=4096)(n:Nat)(s:Int)(hn:x.washes.length<n):
  z05 φ n x.washes (x.washes.length:Int) 0 s (λ_=>default)=some (bif z6h x.washes then s else 1,()):=by
 refine zu (λn i(t:Int×(Nat->Bool))=>z05 φ n x.washes (x.washes.length:Int) i t.1 t.2) x.washes.length
  (λi t=>t.1 =(bif (List.range i).all (z4m x.washes) then s else 1)/\((List.range i).all (z4m x.washes)=true->∀j:Nat,t.2 j =(x.washes.take i).any λv=>keyW v==(j:Int)))
  (λo=>o=some (bif z6h x.washes then s else 1,())) ?_ ?_ n (s,λ_=>false) ⟨by simp,by simp⟩ hn
 .intro n i t hi ⟨h1,h2⟩ hs;have hW:W ((i:Int)+1) =(i:Int)+1:=W_id (by omega) (by omega);rw[z05,if_pos (by simp;omega),z6 ⟨by omega,by omega⟩];simp only[z2c,w00,zi,hW];have u:zsz (gt x.washes i) =(bet (gt x.washes i).from_ 0 63&&bet (gt x.washes i).to 0 63&&((gt x.washes i).from_ !=(gt x.washes i).to)&&bet (gt x.washes i).minutes 0 100000):=rfl;have g:=z9y (z4m x.washes) i;cases hw:zsz (gt x.washes i) with
  |false=>
   have hf :(List.range (i+1)).all (z4m x.washes)=false:=by rw[g];simp[z4m,hw]
   have h3:z05 φ n x.washes (x.washes.length:Int) ((i:Int)+1) 1 t.2=some (bif z6h x.washes then s else 1,()):=hs (1,t.2) ⟨by rw[hf];rfl,by rw[hf];intro h;cases h⟩;rw[hw] at u;rw[<- h3];generalize bet (gt x.washes i).from_ 0 63=a at *;generalize bet (gt x.washes i).to 0 63=b at *;generalize ((gt x.washes i).from_ !=(gt x.washes i).to)=c at *;generalize bet (gt x.washes i).minutes 0 100000=d at *;cases a<;>cases b<;>cases c<;>cases d<;>first |(exact absurd u (by decide))|rfl
  |true=>
   rw[hw] at u;have hb:=u.symm;simp only[w02] at hb;obtain⟨⟨⟨b1,b2⟩,b3⟩,b4⟩:=hb;have c1:=zth b1;have c2:=zth b2;simp only[b1,b2,b3,b4,w4a,if_true,w00,w21,w09,if_false];rw[z6 ⟨by omega,by omega⟩,z6 ⟨by omega,by omega⟩];have a2 :((gt x.washes i).from_.toNat*64+(gt x.washes i).to.toNat:Nat) =(keyW (gt x.washes i)).toNat:=by unfold keyW;omega
   have a1 :((keyW (gt x.washes i)).toNat:Int)=keyW (gt x.washes i):=by unfold keyW;omega
   have key:∀e,(e=bif (List.range (i+1)).all (z4m x.washes) then s else 1)->
     z05 φ n x.washes (x.washes.length:Int) ((i:Int)+1) e (upd t.2 (keyW (gt x.washes i)).toNat true)=some (bif z6h x.washes then s else 1,()):=by
    intro e he;refine hs (e,_) ⟨he,λf j=>?_⟩;rw[g,w02] at f;rw[zec _ _ _ hi,<- h2 f.1 j];show (if j =(keyW (gt x.washes i)).toNat then true else t.2 j)=_;by_cases hj:j =(keyW (gt x.washes i)).toNat
    .simp[hj,a1]
    .have :(keyW (gt x.washes i)==(j:Int))=false:=by simp;intro h;exact hj (by omega)
     simp[hj,this]
   have z:∀(p:Prop)[Decidable p](y:Option (Int×Unit)),p->ck p y=y:=λp _ y hp=>z6 hp
   rw[a2];simp only[z _ _ (show (0:Int)<=(gt x.washes i).from_/\(gt x.washes i).from_<64 by omega),z _ _ (show (0:Int)<=(gt x.washes i).to/\(gt x.washes i).to<64 by omega)];cases f :(List.range i).all (z4m x.washes) with
   |true=>
    have a0:z4m x.washes i = !(t.2 (keyW (gt x.washes i)).toNat):=by rw[h2 f];simp only[z4m,hw,w25,a1]
    cases a3:t.2 (keyW (gt x.washes i)).toNat with
    |true=>simp only[w21,w2m,if_true];refine key 1 ?_;rw[g,a0,a3];simp
    |false=>simp only[w21,w2m,w09,if_false];refine key t.1 ?_;rw[g,a0,a3,h1,f];simp
   |false=>
    have hf :(List.range (i+1)).all (z4m x.washes)=false:=by rw[g,f];rfl
    have a4:t.1=1:=by rw[h1,f];rfl
    rw[a4];split<;>exact key 1 (by rw[hf];rfl)
 .intro n t ⟨h1,_⟩;rw[z05,if_neg (by simp),h1];rfl
theorem zdh(φ:Nat)(hφ:5000<φ)(x:z2h):z9n φ x=some (z0j x,()):=by
 have e :(((decide (32<(x.types.length:Int))||decide (4096<(x.wagons.length:Int)))||decide (1024<(x.swaps.length:Int)))||decide (4096<(x.washes.length:Int))) =
   (decide (32<x.types.length)||decide (4096<x.wagons.length)||decide (1024<x.swaps.length)||decide (4096<x.washes.length)):=by
  congr 1
  .congr 1
   .congr 1<;>(apply decide_eq_decide.2;omega)
   .apply decide_eq_decide.2;omega
  .apply decide_eq_decide.2;omega
 unfold z9n z0j;rw[e];cases h :(decide (32<x.types.length)||decide (4096<x.wagons.length)||decide (1024<x.swaps.length)||decide (4096<x.washes.length)) with
 |true=>rfl
 |false=>simp only[w1l,decide_eq_false_iff_not,w4x] at h;obtain⟨⟨⟨d,f⟩,g⟩,j⟩:=h;rw[if_neg (by simp),zlb φ (by omega) x d _ _ (by omega),zj7 _ _ f d _ _ (by omega),zla _ _ g d _ _ (by omega),zj8 _ _ j _ _ (by omega)];cases x.types.all zhr<;>cases x.wagons.all (zev x.types.length)<;>cases x.swaps.all (zhq x.types.length)<;>cases z6h x.washes<;>rfl
theorem z1n{x:z2h}(h:z0j x=0):x.types.length<=32/\x.wagons.length<=4096/\x.swaps.length<=1024/\x.washes.length<=4096/\
  (∀t∈x.types,zhr t=true)/\(∀t∈x.wagons,zev x.types.length t=true)/\(∀t∈x.swaps,zhq x.types.length t=true)/\z6h x.washes=true:=by
 unfold z0j at h;cases f :(decide (32<x.types.length)||decide (4096<x.wagons.length)||decide (1024<x.swaps.length)||decide (4096<x.washes.length)) with
 |true=>rw[f] at h;cases h
 |false=>
  rw[f] at h;simp only[w1l,decide_eq_false_iff_not,w4x] at f;obtain⟨⟨⟨g,j⟩,a3⟩,a4⟩:=f;cases d :(x.types.all zhr&&x.wagons.all (zev x.types.length)&&x.swaps.all (zhq x.types.length)&&z6h x.washes) with
  |false=>rw[d] at h;cases h
  |true=>simp only[w02,w0a] at d;exact⟨g,j,a3,a4,d.1.1.1,d.1.1.2,d.1.2,d.2⟩
end Px
end
section
namespace Px
open Go
theorem z9t{c:Int}(h:0<=c)(d:c<18446744073709551616):(BitVec.ofInt 64 c).toNat=c.toNat:=by rw[BitVec.toNat_ofInt];omega
theorem ygx{n:Nat}(h:n<18446744073709551616):U (n:Int)=n:=U_id (by omega) (by omega)
theorem yfq{a b:Nat}(h:a<18446744073709551616):a&&& b<18446744073709551616:=w5a Nat.and_le_left h
theorem yey{k:Nat}(h:k<=63):(2 ^ k:Nat)<18446744073709551616:=w2t (Nat.pow_lt_pow_right (by decide) (by omega:k<64)) (by decide)
theorem yma{c k:Int}(h:0<=c)(g:0<=k)(f:k<=63):c.fdiv (2 ^ (min (k:Int).toNat (IntKind.bits .u64))) =((c.toNat / 2 ^ k.toNat:Nat):Int):=by
 have e:min (k:Int).toNat (IntKind.bits .u64)=k.toNat:=by simp[IntKind.bits];omega
 rw[e];have d :((2:Int) ^ k.toNat) =((2 ^ k.toNat:Nat):Int):=by simp
 rw[d,w27 _ (Int.natCast_nonneg _)];have:c =(c.toNat:Int):=by omega
 rw[this];simp
end Px
end
section
namespace Px
open Go
set_option maxRecDepth 100000
theorem y6c :((List.range 256).all λi=>decide (0<=z75 z08 i/\z75 z08 i<=8/\i<2 ^ (z75 z08 i).toNat/\(0<i->0<z75 z08 i/\2 ^ ((z75 z08 i).toNat-1)<=i)))=true:=by decide+kernel
theorem zpa{i:Int}(h:0<=i)(f:i<256):∃n:Nat,z75 z08 i=n/\n<=8/\i.toNat<2 ^ n/\(0<i->0<n/\2 ^ (n-1)<=i.toNat):=by have:=w0a.1 y6c i.toNat (by simp;omega);rw[decide_eq_true_eq,show ((i.toNat:Nat):Int)=i by omega] at this;obtain⟨a,b,c,d⟩:=this;exact⟨(z75 z08 i).toNat,by omega,by omega,c,λg=>⟨by have:=(d (by omega)).1;omega,(d (by omega)).2⟩⟩
def z9h(v:Nat)(n:Nat):Prop:=v<2 ^ n/\(0<v->0<n/\2 ^ (n-1)<=v)
theorem z9h.up{v:Nat}(k:Nat){n:Nat}(h:z9h (v / 2 ^ k) n)(z:2 ^ k<=v):z9h v (n+k):=by
 have f:=Nat.two_pow_pos k;have d:0<v / 2 ^ k:=Nat.div_pos z f;obtain⟨g,j⟩:=h;obtain⟨h3,u⟩:=j d;refine⟨?_,λ_=>⟨by omega,?_⟩⟩
 .rw[w55];exact(Nat.div_lt_iff_lt_mul f).1 g
 .have:n+k-1 =(n-1)+k:=by omega
  rw[this,w55];exact(Nat.le_div_iff_mul_le f).1 u
theorem y9n(φ:Nat)(v w:Int)(h:0<=v)(d:v<256)(z:0<=w)(j:w<=64):∃n:Nat,z1m φ v w=some (64-(w+n),())/\n<=8/\z9h v.toNat n:=by
 obtain⟨n,e,g,a,b⟩:=zpa h d;have f:IntKind.wrap .u8 v=v:=by simp[IntKind.wrap,IntKind.bits,IntKind.signed];omega
 refine⟨n,?_,g,a,λu=>b (by omega)⟩;unfold z1m;rw[f,z6 ⟨h,d⟩,e,W_id (x:=(n:Int)) (by omega) (by omega),W_id (x:=w+n) (by omega) (by omega),W_id (by omega) (by omega)]
theorem sh8(v:Int):v.fdiv (2 ^ (min (8:Int).toNat 64))=v / 256:=by rw[show ((2:Int) ^ (min (8:Int).toNat 64))=256 by decide];exact w27 _ (by omega)
theorem sh16(v:Int):v.fdiv (2 ^ (min (16:Int).toNat 64))=v / 65536:=by rw[show ((2:Int) ^ (min (16:Int).toNat 64))=65536 by decide];exact w27 _ (by omega)
theorem sh32(v:Int):v.fdiv (2 ^ (min (32:Int).toNat 64))=v / 4294967296:=by rw[show ((2:Int) ^ (min (32:Int).toNat 64))=4294967296 by decide];exact w27 _ (by omega)
theorem yg7(φ:Nat)(v w:Int)(h:0<=v)(j:v<65536)(u:0<=w)(g:w<=48):∃n:Nat,z2j φ v w=some (64-(w+n),())/\n<=16/\z9h v.toNat n:=by
 unfold z2j;by_cases c:256<=v
 .rw[if_pos (by simpa using c),if_pos (by decide),sh8,W_id (by omega) (by omega)];obtain⟨n,e,f,d⟩:=y9n φ (v / 256) (w+8) (by omega) (by omega) (by omega) (by omega);refine⟨n+8,by rw[e];congr 2;omega,by omega,?_⟩;refine z9h.up 8 ?_ (by omega)
  rwa [show v.toNat / 2 ^ 8 =(v / 256).toNat by omega]
 .rw[if_neg (by simpa using c)];obtain⟨n,e,f,d⟩:=y9n φ v w h (by omega) (by omega) (by omega);exact⟨n,e,by omega,d⟩
theorem yg6(φ:Nat)(v w:Int)(h:0<=v)(j:v<4294967296)(u:0<=w)(g:w<=32):∃n:Nat,z2i φ v w=some (64-(w+n),())/\n<=32/\z9h v.toNat n:=by
 unfold z2i;by_cases c:65536<=v
 .rw[if_pos (by simpa using c),if_pos (by decide),sh16,W_id (by omega) (by omega)];obtain⟨n,e,f,d⟩:=yg7 φ (v / 65536) (w+16) (by omega) (by omega) (by omega) (by omega);refine⟨n+16,by rw[e];congr 2;omega,by omega,?_⟩;refine z9h.up 16 ?_ (by omega)
  rwa [show v.toNat / 2 ^ 16 =(v / 65536).toNat by omega]
 .rw[if_neg (by simpa using c)];obtain⟨n,e,f,d⟩:=yg7 φ v w h (by omega) (by omega) (by omega);exact⟨n,e,by omega,d⟩
theorem ymo(φ:Nat)(v:Int)(h:0<=v)(g:v<18446744073709551616):∃n:Nat,z4a φ v=some (64-(n:Int),())/\n<=64/\z9h v.toNat n:=by
 unfold z4a;by_cases c:4294967296<=v
 .rw[if_pos (by simpa using c),if_pos (by decide),sh32];obtain⟨n,e,f,d⟩:=yg6 φ (v / 4294967296) 32 (by omega) (by omega) (by omega) (by omega);refine⟨n+32,by rw[e];congr 2;omega,by omega,?_⟩;refine z9h.up 32 ?_ (by omega)
  rwa [show v.toNat / 2 ^ 32 =(v / 4294967296).toNat by omega]
 .rw[if_neg (by simpa using c)];obtain⟨n,e,f,d⟩:=yg6 φ v 0 h (by omega) (by omega) (by omega);exact⟨n,by rw[e];simp,by omega,d⟩
theorem zpg{v:Int}(h:0<=v)(d:v<18446744073709551616):U ((BitVec.ofInt 64 v&&& BitVec.ofInt 64 4294967295).toNat)=v % 4294967296:=by
 show U ((BitVec.ofInt 64 v&&& BitVec.ofInt 64 4294967295).toNat:Int)=_;rw[w5p,z9t h d,z9t (by omega) (by omega),ygx (yfq (by omega))];have :(4294967295:Int).toNat=2 ^ 32-1:=by decide
 rw[this,Nat.and_two_pow_sub_one_eq_mod];omega
theorem zpj{a b m n:Int}(g:0<=a)(d:0<=b)(h:a<=m)(f:b<=n):0<=a*b/\a*b<=m*n:=⟨w3q g d,Int.mul_le_mul h f d (by omega)⟩
theorem yc4(φ:Nat)(x y:Int)(hx:0<=x)(u:x<18446744073709551616)(hy:0<=y)(z:y<18446744073709551616):
  z9j φ x y=some (x*y / 18446744073709551616,x*y % 18446744073709551616,()):=by
 unfold z9j;simp only[show (0:Int)<=32 by decide,if_true];rw[zpg hx u,zpg hy z];simp only[sh32];have ex:x=x / 4294967296*4294967296+x % 4294967296:=by omega
 have ey:y=y / 4294967296*4294967296+y % 4294967296:=by omega
 have f:0<=x / 4294967296/\x / 4294967296<=4294967295:=by omega
 have a0:0<=x % 4294967296/\x % 4294967296<=4294967295:=by omega
 have h:0<=y / 4294967296/\y / 4294967296<=4294967295:=by omega
 have g:0<=y % 4294967296/\y % 4294967296<=4294967295:=by omega
 have j:x*y =(x / 4294967296)*(y / 4294967296)*18446744073709551616+((x / 4294967296)*(y % 4294967296)+(x % 4294967296)*(y / 4294967296))*4294967296+(x % 4294967296)*(y % 4294967296):=by
  conv=>lhs;rw[ex,ey]
  generalize x / 4294967296=a;generalize x % 4294967296=b;generalize y / 4294967296=c;generalize y % 4294967296=d;rw[w4d,w56,w56,w4d];have e1:a*4294967296*(c*4294967296)=a*c*18446744073709551616:=by rw[w38,Int.mul_left_comm 4294967296 c,<- w38];rfl
  have e2:a*4294967296*d=a*d*4294967296:=by rw[w5b]
  have e3:b*(c*4294967296)=b*c*4294967296:=by rw[w38]
  rw[e1,e2,e3];omega
 have a5:=zpj f.1 h.1 f.2 h.2;have a4:=zpj f.1 g.1 f.2 g.2;have a3:=zpj a0.1 h.1 a0.2 h.2;have a2:=zpj a0.1 g.1 a0.2 g.2;rw[y5s (x*y),j];generalize (x / 4294967296)*(y / 4294967296)=p at *;generalize (x / 4294967296)*(y % 4294967296)=q at *;generalize (x % 4294967296)*(y / 4294967296)=r at *;generalize (x % 4294967296)*(y % 4294967296)=s at *;clear j ex ey f a0 h g;rw[U_id (x:=p) (by omega) (by omega),U_id (x:=q) (by omega) (by omega),U_id (x:=r) (by omega) (by omega),U_id (x:=s) (by omega) (by omega)];rw[U_id (x:=q+s / 4294967296) (by omega) (by omega),zpg (by omega) (by omega),
  U_id (x:=(q+s / 4294967296) % 4294967296+r) (by omega) (by omega),U_id (x:=p+(q+s / 4294967296) / 4294967296) (by omega) (by omega),U_id (by omega) (by omega)]
 refine congrArg some (Prod.ext ?_ rfl);show _=_;omega
theorem ykn{f g u d q r:Int}(h1:2147483648<=f)(a5:f<4294967296)(h0:0<=g)(a4:g<4294967296)(hd:0<=d)(a6:d<4294967296)(hu:0<=u)
  (aa:u<f*4294967296+g) (a3:q*f+r=u) (hr:0<=r) (a8:r<4294967296) (hq :(u*4294967296+d) /(f*4294967296+g)<=q) :
  0<=q/\q<=4294967297/\0<=(u*4294967296+d) /(f*4294967296+g)/\(u*4294967296+d) /(f*4294967296+g)<4294967296/\
  (4294967296<=q\/4294967296*r+d<q*g->(u*4294967296+d) /(f*4294967296+g)<=q-1)/\
  (¬(4294967296<=q\/4294967296*r+d<q*g)->q =(u*4294967296+d) /(f*4294967296+g))/\
  (4294967296<=q\/4294967296*r+d<q*g->4294967296<=r+f->q-1 =(u*4294967296+d) /(f*4294967296+g)):=by
 have hY:0<f*4294967296+g:=by omega
 have j:0<=(u*4294967296+d) /(f*4294967296+g):=w3i (by omega) (by omega);have a0 :(u*4294967296+d) /(f*4294967296+g)<4294967296:=w3z hY (by omega);have a1:0<=q:=by omega
 have key:q*(f*4294967296+g) =(u-r)*4294967296+q*g:=by rw[w56,<- w38,<- a3];omega
 have a2:q<=4294967297:=by
  rcases Int.lt_or_le 4294967297 q with h|h
  .have:4294967298*f<=q*f:=w4y (by omega) (by omega);omega
  .exact h
 have lt_of:∀{z:Int},(u*4294967296+d) /(f*4294967296+g)<z↔u*4294967296+d<z*(f*4294967296+g):=λ{z}=>Int.ediv_lt_iff_lt_mul hY
 refine⟨a1,a2,j,a0,λh=>?_,λh=>?_,λh a9=>?_⟩
 .have :(u*4294967296+d) /(f*4294967296+g)<q:=by
   rcases h with h|h
   .omega
   .rw[lt_of,key];omega
  omega
 .have:¬(u*4294967296+d) /(f*4294967296+g)<q:=by rw[lt_of,key];omega
  omega
 .have a7 :(u*4294967296+d) /(f*4294967296+g)<q:=by
   rcases h with h|h
   .omega
   .rw[lt_of,key];omega
  have h2:¬(u*4294967296+d) /(f*4294967296+g)<q-1:=by
   rw[lt_of];have e :(q-1)*(f*4294967296+g) =(u-(r+f))*4294967296+(q-1)*g:=by
    have :(q-1)*f+(r+f)=u:=by rw[Int.sub_mul];omega
    rw[w56,<- w38,<- this];omega
   have b:=(zpj (by omega:0<=q-1) h0 (by omega:q-1<=4294967296) (by omega:g<=4294967295)).2;rw[e];omega
  omega
theorem mulB{a b:Int}(h:0<=a)(f:a<4294967296)(g:0<=b)(d:b<4294967296):0<=a*b/\a*b<=18446744065119617025:=zpj h g (by omega:a<=4294967295) (by omega:b<=4294967295)
theorem zsm{ρ:Type}(L:Nat->Int->Int->Option ρ)(k:Int->Option ρ){f g u d:Int}(h1:2147483648<=f)(z:f<4294967296)(h0:0<=g)(j:g<4294967296)(hd:0<=d)(a0:d<4294967296)(hu:0<=u)
  (a5:u<f*4294967296+g)
  (step:∀n q r,L (n+1) q r=if(decide (4294967296<=q)||decide (U (U (4294967296*r)+d)<U (q*g)))=true then(if decide (4294967296<=U (r+f))=true then k (U (q-1)) else L n (U (q-1)) (U (r+f))) else k q) :
  ∀(n:Nat)q r,q*f+r=u->0<=r->r<4294967296->(u*4294967296+d) /(f*4294967296+g)<=q->4294967296-r<=2147483648*n->L (n+1) q r=k ((u*4294967296+d) /(f*4294967296+g)):=by
 intro n
 induction n with
 |zero=>intro q r _ _ _ _ h;omega
 |succ n ih=>
  intro q r a2 hr a3 hq hn;obtain⟨g0,g1,g2,g3,g4,g5,g6⟩:=ykn h1 z h0 j hd a0 hu a5 a2 hr a3 hq;have hc :(decide (4294967296<=q)||decide (U (U (4294967296*r)+d)<U (q*g)))=true↔(4294967296<=q\/4294967296*r+d<q*g):=by
   rw[w0w,decide_eq_true_eq,decide_eq_true_eq];by_cases a1:4294967296<=q
   .simp[a1]
   .have:=mulB g0 (by omega:q<4294967296) h0 j
    rw[U_id (x:=4294967296*r) (by omega) (by omega),U_id (by omega) (by omega),U_id (by omega) (by omega)]
  rw[step];by_cases c:4294967296<=q\/4294967296*r+d<q*g
  .have a4:=g4 c;rw[if_pos (hc.2 c),U_id (x:=r+f) (by omega) (by omega),U_id (x:=q-1) (by omega) (by omega)];by_cases e:4294967296<=r+f
   .rw[if_pos (by simpa using e),g6 c e]
   .rw[if_neg (by simpa using e)];exact ih _ _ (by rw[Int.sub_mul];omega) (by omega) (by omega) a4 (by omega)
  .rw[if_neg (λh=>c (hc.1 h)),<- g5 c]
theorem zoj{f g u d:Int}(h1:2147483648<=f)(a3:f<4294967296)(h0:0<=g)(a2:g<4294967296)(hd:0<=d)(a4:d<4294967296)(hu:0<=u)
  (a8:u<f*4294967296+g):U (u.tdiv f)=u / f/\U (u-U (U (u.tdiv f)*f))=u % f/\u / f*f+u % f=u/\0<=u % f/\u % f<4294967296/\
  (u*4294967296+d) /(f*4294967296+g)<=u / f:=by
 have e1:u.tdiv f=u / f:=w3k hu;have a0:u / f*f+u % f=u:=by have:=w3j u f;exact this
 have a1:=w4f u (by omega:f≠0);have a5:=w4g u (by omega:0<f);have h:0<=u / f:=w3i hu (by omega);have a6:u / f<=u:=Int.ediv_le_self _ hu;have a7:0<=u / f*f:=w3q h (by omega);rw[e1,U_id h (by omega),U_id (x:=u / f*f) (by omega) (by omega),U_id (by omega) (by omega)];refine⟨rfl,by omega,a0,a1,by omega,?_⟩;have hY:0<f*4294967296+g:=by omega
 have j:0<=(u*4294967296+d) /(f*4294967296+g):=w3i (by omega) (by omega);have hQ:=Int.ediv_mul_le (u*4294967296+d) (b:=f*4294967296+g) (by omega);generalize (u*4294967296+d) /(f*4294967296+g)=z at *;rw[w56,<- w38] at hQ;have:=w3q j h0;exact(Int.le_ediv_iff_mul_le (by omega)).2 (by omega)
theorem ygr(a b c:Int):U (U (U a+b)-U c)=U (a+b-c):=by simp only[y5s];omega
theorem ylx{a b:Int}{s:Nat}(hs:s<=63)(g:0<=a)(h:a*2 ^ s<18446744073709551616)(j:0<=b)(f:b<2 ^ s):
  U ((BitVec.ofInt 64 (U (a*2 ^ s))||| BitVec.ofInt 64 b).toNat)=a*2 ^ s+b:=by
 have hp :(0:Int)<2 ^ s:=Int.pow_pos (by decide);have z:=w3q g (Int.le_of_lt hp);have d :(2:Int) ^ s =((2 ^ s:Nat):Int):=by simp
 have a0 :(2 ^ s:Nat)<18446744073709551616:=yey hs;rw[U_id z (by omega)];show U ((BitVec.ofInt 64 (a*2 ^ s)||| BitVec.ofInt 64 b).toNat:Int)=_;have u:=(BitVec.ofInt 64 (a*2 ^ s)||| BitVec.ofInt 64 b).isLt;rw[ygx (by omega),BitVec.toNat_or,z9t z h,z9t j (by omega)];obtain⟨n,rfl⟩:=Int.eq_ofNat_of_zero_le g;obtain⟨m,rfl⟩:=Int.eq_ofNat_of_zero_le j;have e :((n:Int)*2 ^ s).toNat=2 ^ s*n:=by rw[d,<- w4z,w1i,w4s]
 rw[e,w1i,<- Nat.two_pow_add_eq_or_of_lt (by rw[d] at f;omega)];simp[w50]
theorem zkv(φ:Nat)(v:Int)(h:0<v)(f:v<18446744073709551616):∃s:Nat,z4a φ v=some ((s:Int),())/\s<=63/\
  9223372036854775808<=v*2 ^ s/\v*2 ^ s<18446744073709551616/\v<=2 ^ (64-s):=by
 obtain⟨n,e,hn,g,j⟩:=ymo φ v (by omega) f;obtain⟨z,u⟩:=j (by omega);refine⟨64-n,?_,by omega,?_,?_,?_⟩
 .rw[e];congr 2;omega
 .have:2 ^ (n-1)*2 ^ (64-n)<=v.toNat*2 ^ (64-n):=w1p _ u;rw[<- w55,show n-1+(64-n)=63 by omega] at this;have d :((v.toNat*2 ^ (64-n):Nat):Int)=v*2 ^ (64-n):=by rw[w4z,Int.natCast_pow];congr 1;omega
  omega
 .have:v.toNat*2 ^ (64-n)<2 ^ n*2 ^ (64-n):=Nat.mul_lt_mul_of_pos_right g (Nat.two_pow_pos _);rw[<- w55,show n+(64-n)=64 by omega] at this;have d :((v.toNat*2 ^ (64-n):Nat):Int)=v*2 ^ (64-n):=by rw[w4z,Int.natCast_pow];congr 1;omega
  omega
 .rw[show 64-(64-n)=n by omega];have d :((2 ^ n:Nat):Int) =(2:Int) ^ n:=by simp
  omega
theorem yby(φ:Nat)(hφ:5<φ)(g f y:Int)(h0:0<=g)(hy:g<y)(ar:y<18446744073709551616)(hl:0<=f)(b4:f<18446744073709551616):
  z8j φ g f y=some ((g*18446744073709551616+f) / y,(g*18446744073709551616+f) % y,()):=by
 unfold z8j;rw[if_neg (by simp;omega),if_neg (by simp;omega)];by_cases hz:g=0
 .subst hz;rw[if_pos (by simp),z6 (by omega),z6 (by omega),w3k hl,w28 hl,U_id (w3i hl (by omega)) (by have:=Int.ediv_le_self y hl;omega)];simp
 rw[if_neg (by simpa using hz)];obtain⟨s,es,hs,ah,ai,b5⟩:=zkv φ y (by omega) ar;have a4:min (s:Int).toNat 64=s:=by omega
 have ag:min (64-(s:Int)).toNat 64=64-s:=by omega
 have hp :(0:Int)<2 ^ s:=Int.pow_pos (by decide);have hP :(0:Int)<2 ^ (64-s):=Int.pow_pos (by decide);have ab :(2:Int) ^ s*2 ^ (64-s)=18446744073709551616:=by rw[<- Int.pow_add,show s+(64-s)=64 by omega];rfl
 have aj:g*2 ^ s<y*2 ^ s:=w5c hy hp;have a9:0<=f / 2 ^ (64-s):=w3i hl (by omega);have aa:f / 2 ^ (64-s)<2 ^ s:=w3z hP (by omega);have b3:0<=g*2 ^ s:=w3q h0 (by omega)
 have z:U (f*2 ^ s)=f % 2 ^ (64-s)*2 ^ s:=by
  have e:f=f / 2 ^ (64-s)*2 ^ (64-s)+f % 2 ^ (64-s):=(w3j f _).symm;have e2:f*2 ^ s=f / 2 ^ (64-s)*18446744073709551616+f % 2 ^ (64-s)*2 ^ s:=by
   conv=>lhs;rw[e]
   rw[w4d,w38,w50 (2 ^ (64-s)),ab]
  have m0:=w4f f (by omega :(2:Int) ^ (64-s)≠0);have m1:=w4g f hP;have m2:f % 2 ^ (64-s)*2 ^ s<2 ^ (64-s)*2 ^ s:=w5c m1 hp;have m3:=w3q m0 (Int.le_of_lt hp);rw[w50 (2 ^ (64-s))] at m2;rw[e2,y5s];omega
 have hN :(g*2 ^ s+f / 2 ^ (64-s))*18446744073709551616+f % 2 ^ (64-s)*2 ^ s =(g*18446744073709551616+f)*2 ^ s:=by
  have e:f=f / 2 ^ (64-s)*2 ^ (64-s)+f % 2 ^ (64-s):=(w3j f _).symm;have e2:f*2 ^ s=f / 2 ^ (64-s)*18446744073709551616+f % 2 ^ (64-s)*2 ^ s:=by
   conv=>lhs;rw[e]
   rw[w4d,w38,w50 (2 ^ (64-s)),ab]
  have e3 :(g*18446744073709551616+f)*2 ^ s=g*2 ^ s*18446744073709551616+f*2 ^ s:=by rw[w4d,w5b]
  rw[e3,e2];omega
 have ae:0<=f % 2 ^ (64-s)*2 ^ s:=w3q (w4f f (by omega)) (by omega);have af:f % 2 ^ (64-s)*2 ^ s<18446744073709551616:=by rw[<- z,y5s];omega
 have ac:g*2 ^ s+f / 2 ^ (64-s)<y*2 ^ s:=by have :(g+1)*2 ^ s<=y*2 ^ s:=w4y (by omega) (by omega);rw[w4d] at this;omega
 have am:U (s:Int)=s:=U_id (by omega) (by omega);have ao:U (64-(s:Int))=64-(s:Int):=U_id (by omega) (by omega);have ef:f.fdiv (2 ^ (64-s))=f / 2 ^ (64-s):=w27 _ (by omega);have a5:=ylx hs h0 (by omega:g*2 ^ s<18446744073709551616) a9 aa;obtain⟨Y,a1⟩:∃Y,Y=y*2 ^ s:=⟨_,rfl⟩;have eY:U (y*2 ^ s)=Y:=by rw[a1];exact U_id (by omega) (by omega)
 obtain⟨u,ap⟩:∃u,u=g*2 ^ s+f / 2 ^ (64-s):=⟨_,rfl⟩;obtain⟨w,aq⟩:∃w,w=f % 2 ^ (64-s)*2 ^ s:=⟨_,rfl⟩;rw[<- aq] at z hN ae af;rw[<- ap] at hN ac a5;rw[<- a1] at ac ah ai aj;have ad:0<=u:=by omega
 have fY:Y.fdiv 4294967296=Y / 4294967296:=w27 _ (by omega);have fw:w.fdiv 4294967296=w / 4294967296:=w27 _ (by omega);have mY:=zpg (v:=Y) (by omega) (by omega);have mw:=zpg (v:=w) (by omega) (by omega);have j:2147483648<=Y / 4294967296/\Y / 4294967296<4294967296/\0<=Y % 4294967296/\Y % 4294967296<4294967296:=by omega
 have b2:0<=w / 4294967296/\w / 4294967296<4294967296/\0<=w % 4294967296/\w % 4294967296<4294967296:=by omega
 have a3:Y / 4294967296*4294967296+Y % 4294967296=Y:=by omega
 obtain⟨m,rfl⟩:∃m,φ=m+3:=⟨φ-3,by omega⟩;rw[es];simp only[w00,am,ao,a4,ag,sh32,eY,z,mY,mw,ef,a5,show (0:Int)<=32 by decide,if_true];rw[z6 (by omega),z6 (by omega),z6 (by omega),z6 (by omega),z6 (by omega)];obtain⟨i1,i2,i3,i4,i5,i6⟩:=zoj (u:=u) (d:=w / 4294967296) j.1 j.2.1 j.2.2.1 j.2.2.2 b2.1 b2.2.1 ad (by omega);rw[i1] at i2⊢;rw[i2];refine(zsm (λn q r=>z86 (m+3) n Y s (Y / 4294967296) (Y % 4294967296) u (w / 4294967296) (w % 4294967296) q r) (λq=>z87 (m+3) Y s (Y / 4294967296) (Y % 4294967296) u (w / 4294967296) (w % 4294967296) q)
  j.1 j.2.1 j.2.2.1 j.2.2.2 b2.1 b2.2.1 ad (by omega) (λn q r=>by rw[z86]) (m+2) _ _ i3 i4 i5 i6 (by omega)).trans ?_
 rw[a3];unfold z87;rw[z6 (by omega)];have ay:0<=(u*4294967296+w / 4294967296) / Y/\(u*4294967296+w / 4294967296) / Y<4294967296:=⟨w3i (by omega) (by omega),w3z (by omega) (by omega)⟩;have b0:=w3j (u*4294967296+w / 4294967296) Y;have a0:=w4f (u*4294967296+w / 4294967296) (by omega:Y≠0);have aw:=w4g (u*4294967296+w / 4294967296) (by omega:0<Y);generalize (u*4294967296+w / 4294967296) / Y=q1 at *;generalize (u*4294967296+w / 4294967296) % Y=r1 at *;have eu21:U (U (U (u*4294967296)+w / 4294967296)-U (q1*Y))=r1:=by rw[ygr,show u*4294967296+w / 4294967296-q1*Y=r1 by omega];exact U_id a0 (by omega)
 rw[eu21];obtain⟨j1,j2,j3,j4,j5,j6⟩:=zoj (u:=r1) (d:=w % 4294967296) j.1 j.2.1 j.2.2.1 j.2.2.2 b2.2.2.1 b2.2.2.2 a0 (by omega);rw[j1] at j2⊢;rw[j2];refine(zsm (λn q r=>z85 (m+3) n Y s (Y / 4294967296) (Y % 4294967296) (w % 4294967296) q1 r r1 q) (λq=>z88 (m+3) Y s (w % 4294967296) q1 r1 q)
  j.1 j.2.1 j.2.2.1 j.2.2.2 b2.2.2.1 b2.2.2.2 a0 (by omega) (λn q r=>by rw[z85]) (m+2) _ _ j3 j4 j5 j6 (by omega)).trans ?_
 rw[a3];unfold z88;rw[a4,z6 (by omega)];have ax:0<=(r1*4294967296+w % 4294967296) / Y/\(r1*4294967296+w % 4294967296) / Y<4294967296:=⟨w3i (by omega) (by omega),w3z (by omega) (by omega)⟩;have az:=w3j (r1*4294967296+w % 4294967296) Y;have a6:=w4f (r1*4294967296+w % 4294967296) (by omega:Y≠0);have a7:=w4g (r1*4294967296+w % 4294967296) (by omega:0<Y);generalize (r1*4294967296+w % 4294967296) / Y=q0 at *;generalize (r1*4294967296+w % 4294967296) % Y=r0 at *;rw[ygr,show r1*4294967296+w % 4294967296-q0*Y=r0 by omega,U_id (x:=r0) a6 (by omega),U_id (x:=q1*4294967296) (by omega) (by omega),U_id (by omega) (by omega),w27 _ (by omega)];have a2 :(g*18446744073709551616+f-(q1*4294967296+q0)*y)*2 ^ s=r0:=by rw[Int.sub_mul,<- hN,w38,<- a1,w4d,w5b];omega
 have au:0<=g*18446744073709551616+f-(q1*4294967296+q0)*y:=by
  rcases Int.lt_or_le (g*18446744073709551616+f-(q1*4294967296+q0)*y) 0 with h|h
  .have:=Int.mul_neg_of_neg_of_pos h hp;omega
  .exact h
 have av:g*18446744073709551616+f-(q1*4294967296+q0)*y<y:=by refine Int.lt_of_mul_lt_mul_right (a:=2 ^ s) ?_ (by omega);rw[a2,<- a1];exact a7
 have ak:r0 / 2 ^ s=g*18446744073709551616+f-(q1*4294967296+q0)*y:=by rw[<- a2];exact Int.mul_ediv_cancel _ (by omega)
 have a8 :(g*18446744073709551616+f) / y=q1*4294967296+q0/\(g*18446744073709551616+f) % y=g*18446744073709551616+f-(q1*4294967296+q0)*y:=(Int.ediv_emod_unique (by omega)).2 ⟨by rw[w50 y];omega,au,av⟩;rw[ak,a8.1,a8.2]
end Px
end
section
namespace Px
open Go
set_option maxRecDepth 100000
def PP:Nat:=2305843009213690799
def QQ:Nat:=1152921504606845399
def pw(b n:Nat):Nat:=b ^ n % PP
theorem y1w(b n:Nat):pw b n<PP:=w44 _ (by decide)
theorem zux(b:Nat):pw b 0=1:=by simp[pw,PP]
theorem yau(b m n:Nat):pw b m*pw b n % PP=pw b (m+n):=by unfold pw;rw[w55,<- Nat.mul_mod]
theorem ygm(b:Nat):pw b 1=b % PP:=by simp[pw]
theorem yld{a:Nat}(h:a<PP):((a:Int)).tmod 2305843009213690799 =(a:Int):=by unfold PP at h;rw[w28 (by omega)];omega
theorem yle(b:Nat):((b:Int)).tmod 2305843009213690799 =((b % PP:Nat):Int):=by rw[w28 (by omega)];unfold PP;omega
theorem y9x{ρ:Type}{a b:Nat}(d:a<PP)(g:b<PP)(φ:Nat)(hφ:5<φ)(K:Int->Option ρ):((z9j φ (a:Int) (b:Int)).bind λy=>(z8j φ y.1 y.2.1 2305843009213690799).bind λz=>K z.2.1)=K ((a*b % PP:Nat):Int):=by
 have f :(a:Int)<2305843009213690799:=by unfold PP at d;omega
 have h :(b:Int)<2305843009213690799:=by unfold PP at g;omega
 have u:=zpj (by omega:0<=(a:Int)) (by omega:0<=(b:Int)) (by omega :(a:Int)<=2305843009213690798) (by omega :(b:Int)<=2305843009213690798);rw[yc4 φ _ _ (by omega) (by omega) (by omega) (by omega),w00];generalize j :(a:Int)*(b:Int)=z at *;show (z8j φ (z / 18446744073709551616) (z % 18446744073709551616) 2305843009213690799).bind _=_;rw[yby φ hφ _ _ _ (by omega) (by omega) (by omega) (by omega) (by omega),w00];congr 1;have:z / 18446744073709551616*18446744073709551616+z % 18446744073709551616=z:=by omega
 show (z / 18446744073709551616*18446744073709551616+z % 18446744073709551616) % 2305843009213690799=_;rw[this,<- j,Int.natCast_emod,w4z];rfl
theorem z9h.uniq{v m n:Nat}(d:0<v)(h:z9h v m)(k:z9h v n):m=n:=by obtain⟨f,g⟩:=h;obtain⟨u,z⟩:=k;obtain⟨h3,j⟩:=g d;obtain⟨k3,k4⟩:=z d;have a:m-1<n:=(Nat.pow_lt_pow_iff_right (by decide:1<2)).1 (w5a j u);have b:n-1<m:=(Nat.pow_lt_pow_iff_right (by decide:1<2)).1 (w5a k4 f);omega
section first
variable(φ:Nat)(b n a p:Int)
theorem yaq(v w:Int)(h:0<=v)(d:v<256)(z:0<=w)(j:w<=64):∃m:Nat,zaj φ v w b n a p=z12 φ φ b n a (w+m) 0 p/\m<=8/\z9h v.toNat m:=by
 obtain⟨m,e,g,x,y⟩:=zpa h d;have f:IntKind.wrap .u8 v=v:=by simp[IntKind.wrap,IntKind.bits,IntKind.signed];omega
 refine⟨m,?_,g,x,λu=>y (by omega)⟩;unfold zaj;rw[f,z6 ⟨h,d⟩,e,W_id (x:=(m:Int)) (by omega) (by omega),W_id (x:=w+m) (by omega) (by omega)]
theorem yap(v w:Int)(h:0<=v)(j:v<65536)(u:0<=w)(g:w<=48):∃m:Nat,zai φ v w b n a p=z12 φ φ b n a (w+m) 0 p/\m<=16/\z9h v.toNat m:=by
 unfold zai;by_cases c:256<=v
 .rw[if_pos (by simpa using c),if_pos (by decide),sh8,W_id (by omega) (by omega)];obtain⟨m,e,f,d⟩:=yaq φ b n a p (v / 256) (w+8) (by omega) (by omega) (by omega) (by omega);refine⟨m+8,by rw[e];congr 1;omega,by omega,?_⟩;refine z9h.up 8 ?_ (by omega)
  rwa [show v.toNat / 2 ^ 8 =(v / 256).toNat by omega]
 .rw[if_neg (by simpa using c)];obtain⟨m,e,f,d⟩:=yaq φ b n a p v w h (by omega) (by omega) (by omega);exact⟨m,e,by omega,d⟩
theorem ygk(v w:Int)(h:0<=v)(j:v<4294967296)(u:0<=w)(g:w<=32):∃m:Nat,zcy φ v w b n a p=z12 φ φ b n a (w+m) 0 p/\m<=32/\z9h v.toNat m:=by
 unfold zcy;by_cases c:65536<=v
 .rw[if_pos (by simpa using c),if_pos (by decide),sh16,W_id (by omega) (by omega)];obtain⟨m,e,f,d⟩:=yap φ b n a p (v / 65536) (w+16) (by omega) (by omega) (by omega) (by omega);refine⟨m+16,by rw[e];congr 1;omega,by omega,?_⟩;refine z9h.up 16 ?_ (by omega)
  rwa [show v.toNat / 2 ^ 16 =(v / 65536).toNat by omega]
 .rw[if_neg (by simpa using c)];obtain⟨m,e,f,d⟩:=yap φ b n a p v w h (by omega) (by omega) (by omega);exact⟨m,e,by omega,d⟩
end first
def zlp(φ:Nat)(k:Int->Int->Int->Int->Int->Int->t03)(L b c d e f g i a:Int):t03:=ck (0<=(W ((W (L-1))-e))) (if(((U ((BitVec.ofInt 64 ((i:Int).fdiv (2 ^ (min ((W ((W (L-1))-e)):Int).toNat 64)))&&& BitVec.ofInt 64 1).toNat)):Int)==1)=true then(ck (a≠0) (ck (a≠0) ((z9j φ ((d:Int).tmod a) ((b:Int).tmod a)).bind λh=>((z8j φ h.1 h.2.1 a).bind λj=>(k b c j.2.1 f (W (g+1)) a))))) else(k b c d f (W (g+1)) a))
section second
variable(φ:Nat)(k:Int->Int->Int->Int->Int->Int->Option (Int×Unit))(x57 x58 x59 x60 x61 x62 x63 x64:Int)
theorem yat(v w:Int)(h:0<=v)(d:v<256)(z:0<=w)(j:w<=64):∃m:Nat,zal φ k v w x57 x58 x59 x60 x61 x62 x63 x64=zlp φ k (w+m) x57 x58 x59 x60 x61 x62 x63 x64/\m<=8/\z9h v.toNat m:=by
 obtain⟨m,e,g,x,y⟩:=zpa h d;have f:IntKind.wrap .u8 v=v:=by simp[IntKind.wrap,IntKind.bits,IntKind.signed];omega
 refine⟨m,?_,g,x,λu=>y (by omega)⟩;unfold zal zlp;rw[f,z6 ⟨h,d⟩,e,W_id (x:=(m:Int)) (by omega) (by omega),W_id (x:=w+m) (by omega) (by omega)]
theorem yas(v w:Int)(h:0<=v)(j:v<65536)(u:0<=w)(g:w<=48):∃m:Nat,zak φ k v w x57 x58 x59 x60 x61 x62 x63 x64=zlp φ k (w+m) x57 x58 x59 x60 x61 x62 x63 x64/\m<=16/\z9h v.toNat m:=by
 unfold zak;by_cases c:256<=v
 .rw[if_pos (by simpa using c),if_pos (by decide),sh8,W_id (by omega) (by omega)];obtain⟨m,e,f,d⟩:=yat φ k x57 x58 x59 x60 x61 x62 x63 x64 (v / 256) (w+8) (by omega) (by omega) (by omega) (by omega);refine⟨m+8,by rw[e];congr 1;omega,by omega,?_⟩;refine z9h.up 8 ?_ (by omega)
  rwa [show v.toNat / 2 ^ 8 =(v / 256).toNat by omega]
 .rw[if_neg (by simpa using c)];obtain⟨m,e,f,d⟩:=yat φ k x57 x58 x59 x60 x61 x62 x63 x64 v w h (by omega) (by omega) (by omega);exact⟨m,e,by omega,d⟩
theorem yar(v w:Int)(h:0<=v)(j:v<4294967296)(u:0<=w)(g:w<=32):∃m:Nat,z4z φ k v w x57 x58 x59 x60 x61 x62 x63 x64=zlp φ k (w+m) x57 x58 x59 x60 x61 x62 x63 x64/\m<=32/\z9h v.toNat m:=by
 unfold z4z;by_cases c:65536<=v
 .rw[if_pos (by simpa using c),if_pos (by decide),sh16,W_id (by omega) (by omega)];obtain⟨m,e,f,d⟩:=yas φ k x57 x58 x59 x60 x61 x62 x63 x64 (v / 65536) (w+16) (by omega) (by omega) (by omega) (by omega);refine⟨m+16,by rw[e];congr 1;omega,by omega,?_⟩;refine z9h.up 16 ?_ (by omega)
  rwa [show v.toNat / 2 ^ 16 =(v / 65536).toNat by omega]
 .rw[if_neg (by simpa using c)];obtain⟨m,e,f,d⟩:=yas φ k x57 x58 x59 x60 x61 x62 x63 x64 v w h (by omega) (by omega) (by omega);exact⟨m,e,by omega,d⟩
theorem ym0(v:Int)(h:0<=v)(g:v<18446744073709551616):∃m:Nat,(if(decide ((4294967296:Int)<=v))=true then(if 0<=(32:Int) then(z4z φ k (((v:Int).fdiv (2 ^ (min (32:Int).toNat 64)))) 32 x57 x58 x59 x60 x61 x62 x63 x64) else none) else(z4z φ k v 0 x57 x58 x59 x60 x61 x62 x63 x64)) =
  zlp φ k m x57 x58 x59 x60 x61 x62 x63 x64/\m<=64/\z9h v.toNat m:=by
 by_cases c:4294967296<=v
 .rw[if_pos (by simpa using c),if_pos (by decide),sh32];obtain⟨m,e,f,d⟩:=yar φ k x57 x58 x59 x60 x61 x62 x63 x64 (v / 4294967296) 32 (by omega) (by omega) (by omega) (by omega);refine⟨m+32,by rw[e];congr 1;omega,by omega,?_⟩;refine z9h.up 32 ?_ (by omega)
  rwa [show v.toNat / 2 ^ 32 =(v / 4294967296).toNat by omega]
 .rw[if_neg (by simpa using c)];obtain⟨m,e,f,d⟩:=yar φ k x57 x58 x59 x60 x61 x62 x63 x64 v 0 h (by omega) (by omega) (by omega);exact⟨m,by rw[e];simp,by omega,d⟩
end second
theorem y2g(φ:Nat)(hφ:100<φ)(b n:Nat)(u:0<n)(hn:n<18446744073709551616):zkp φ (b:Int) (n:Int)=some (((pw b n:Nat):Int),()):=by
 have hstart:∃L:Nat,zkp φ (b:Int) (n:Int)=z12 φ φ b n 1 L 0 2305843009213690799/\L<=64/\z9h n L:=by
  unfold zkp;by_cases c :(4294967296:Int)<=n
  .rw[if_pos (by simpa using c),if_pos (by decide),sh32];obtain⟨m,e,hm,g⟩:=ygk φ b n 1 2305843009213690799 ((n:Int) / 4294967296) 32 (by omega) (by omega) (by omega) (by omega);refine⟨m+32,by rw[e];congr 1;omega,by omega,?_⟩;refine z9h.up 32 ?_ (by omega)
   rwa [show n / 2 ^ 32 =((n:Int) / 4294967296).toNat by omega]
  .rw[if_neg (by simpa using c)];obtain⟨m,e,hm,g⟩:=ygk φ b n 1 2305843009213690799 (n:Int) 0 (by omega) (by omega) (by omega) (by omega);exact⟨m,by rw[e];simp,by omega,by rwa [w1i] at g⟩
 obtain⟨L,e0,hL,h⟩:=hstart;rw[e0];obtain⟨h1,h2⟩:=h;refine zu (λk i v=>z12 φ k (b:Int) (n:Int) v (L:Int) i 2305843009213690799) L (λi v=>v =((pw b (n / 2 ^ (L-i)):Nat):Int)) (λo=>o=some (((pw b n:Nat):Int),())) ?_ ?_ φ 1 ?_ (by omega)
 .intro k i v hi hv hs;rw[z12,if_pos (by simp;omega),z6 (by decide),z6 (by decide)];subst hv;rw[yld (y1w _ _)];refine(y9x (y1w _ _) (y1w _ _) φ (by omega) (λz=>(if(decide ((4294967296:Int)<=(n:Int)))=true then(if 0<=(32:Int) then(z4z φ (z12 φ k) ((((n:Int):Int).fdiv (2 ^ (min (32:Int).toNat 64)))) 32 b n z i L i n 2305843009213690799) else none) else(z4z φ (z12 φ k) n 0 b n z i L i n 2305843009213690799)))).trans ?_;rw[yau];obtain⟨m,em,hm,g⟩:=ym0 φ (z12 φ k) b n ((pw b (n / 2 ^ (L-i)+n / 2 ^ (L-i)):Nat):Int) i L i n 2305843009213690799 (n:Int) (by omega) (by omega);refine em.trans ?_;rw[w1i] at g;have:=z9h.uniq u g ⟨h1,h2⟩;subst this;unfold zlp;have a1:W ((m:Int)-1) =(m:Int)-1:=W_id (by omega) (by omega);have a2:W ((m:Int)-1-(i:Int)) =((m-1-i:Nat):Int):=by rw[W_id (by omega) (by omega)];omega
  rw[a1,a2,z6 (by omega)];have a0:=yma (c:=(n:Int)) (k:=((m-1-i:Nat):Int)) (by omega) (by omega) (by omega);have j:U ((BitVec.ofInt 64 ((n:Int).fdiv (2 ^ (min (((m-1-i:Nat):Int)).toNat 64)))&&& BitVec.ofInt 64 1).toNat) =((n / 2 ^ (m-1-i) % 2:Nat):Int):=by rw[show ((n:Int).fdiv (2 ^ (min (((m-1-i:Nat):Int)).toNat 64)))=_ from a0,w1i,w1i];have hd:n / 2 ^ (m-1-i)<=n:=Nat.div_le_self _ _;rw[w5p,z9t (Int.natCast_nonneg _) (by omega),z9t (by omega) (by omega),ygx (yfq (by omega)),w1i];show ((n / 2 ^ (m-1-i)&&& 1:Nat):Int)=_;rw[Nat.and_one_is_mod]
  rw[j];have d:n / 2 ^ (m-i)=n / 2 ^ (m-1-i) / 2:=by rw[Nat.div_div_eq_div_mul,<- Nat.pow_succ];congr 2;omega
  have f:m-(i+1)=m-1-i:=by omega
  have hW:W ((i:Int)+1) =(i:Int)+1:=W_id (by omega) (by omega);have hbit:=w4c (n / 2 ^ (m-1-i));rcases hbit with hbit|hbit
  .rw[hbit,if_neg (by simp),hW];refine hs _ ?_;rw[f,d];congr 2;omega
  .rw[hbit,if_pos (by simp),yld (y1w _ _),yle,z6 (by decide),z6 (by decide),hW];refine(y9x (y1w _ _) (w44 b (by decide:0<PP)) φ (by omega) (λz=>z12 φ k b n z m ((i:Int)+1) 2305843009213690799)).trans ?_;refine hs _ ?_;rw[<- ygm b,yau,f,d];congr 2;omega
 .intro k v hv;rw[z12,if_neg (by simp),hv];rw[Nat.sub_self,Nat.pow_zero,Nat.div_one]
 .rw[w3f,w5i h1,zux];rfl
def y6o(x:Int):Bool:=decide (2<=x)&&decide (x<2305843009213690799)&&(pw x.toNat QQ==1)
theorem zpk(a:Nat):(((a:Nat):Int)==1) =(a==1):=by rw[w0t,beq_iff_eq,beq_iff_eq];omega
theorem zw8(φ:Nat)(hφ:100<φ)(x:Int):zhd φ x=some (y6o x,()):=by
 unfold zhd y6o zi;cases h:decide (2<=x)&&decide (x<2305843009213690799) with
 |false=>rw[if_neg (by simp),w00];simp only[Bool.false_and]
 |true=>simp only[w02,decide_eq_true_eq] at h;have:=y2g φ hφ x.toNat QQ (by decide) (by decide);rw[show ((x.toNat:Nat):Int)=x by omega,show ((QQ:Nat):Int)=1152921504606845399 by decide] at this;rw[if_pos rfl,this,w00,w25,w25];show some ((((pw x.toNat QQ:Nat):Int)==1),())=_;rw[zpk]
end Px
end
section
namespace Px
open Go
theorem gz_t{α:Type}{z:α}{p:Prop}[Decidable p]{x:Option α}(h:p):zi z p x=x:=if_pos h
theorem gz_f{α:Type}{z:α}{p:Prop}[Decidable p]{x:Option α}(h:¬p):zi z p x=some z:=if_neg h
def z98(p:z8f):Bool:=bet p.kind 1 5&&bet p.railway 0 15&&(bif p.kind==3 then bet p.other 0 15&&(p.other !=p.railway) else p.other==(-1))
def zay(n:Int)(e:Edge):Bool:=bet e.a 0 (n-1)&&bet e.b 0 (n-1)&&(e.a !=e.b)&&bet e.railway 0 15&&bet e.minutes 1 100000&&bet e.km 0 10000
def z7c(x:zk):Int:=bif decide (512<x.places.length)||decide (2048<x.edges.length) then 2 else bif x.places.all z98&&x.edges.all (zay x.places.length) then 0 else 1
theorem zne(φ:Nat)(p:z8f):zb5 φ p=some (z98 p,()):=by
 have f :(((decide (p.kind<1)||decide (5<p.kind))||decide (p.railway<0))||decide (16<=p.railway)) = !(bet p.kind 1 5&&bet p.railway 0 15):=by rw[w0t];simp[bet];omega
 unfold zb5 z98;rw[f];cases bet p.kind 1 5&&bet p.railway 0 15 with
 |false=>rfl
 |true=>
  rw[if_neg (by simp)];by_cases h:p.kind=3
  .have :(decide (0<=p.other)&&decide (p.other<16))=bet p.other 0 15:=by rw[w0t];simp[bet];omega
   rw[if_neg (by simp[h]),this];simp[h]
  .have d :(p.kind==3)=false:=by simpa using h
   rw[if_pos (by simp[h]),d];rfl
theorem y8i(n:Int)(e:Edge):((((((decide ((min2 (min2 (min2 (e.a) (e.b)) (e.railway)) (e.km))<0)||decide (n<=(max2 (e.a) (e.b))))||(e.a==e.b))||decide (16<=e.railway))||decide (e.minutes<1))||decide (100000<e.minutes))||decide (10000<e.km)) = !zay n e:=by
 have f:∀x y z:Int,z<=max2 x y↔z<=x\/z<=y:=by intro x y z;unfold max2;split<;>omega
 have d:zay n e=true↔((((((0<=e.a/\e.a<=n-1)/\0<=e.b/\e.b<=n-1)/\¬e.a=e.b)/\0<=e.railway/\e.railway<=15)/\1<=e.minutes/\e.minutes<=100000)/\0<=e.km/\e.km<=10000):=by simp only[zay,w02,z4n,bne_iff_ne,ne_eq]
 rw[w0t,w0v,<- w1k,d];simp only[w0w,decide_eq_true_eq,yio,f,beq_iff_eq];omega
theorem y4k(x:zk):(decide (512<(x.places.length:Int))||decide (2048<(x.edges.length:Int))) =(decide (512<x.places.length)||decide (2048<x.edges.length)):=by congr 1<;>(apply decide_eq_decide.2;omega)
theorem z8a(φ:Nat)(hφ:5000<φ)(x:zk):z97 φ x=some (z7c x,()):=by
 unfold z97 z7c;rw[y4k];cases h:decide (512<x.places.length)||decide (2048<x.edges.length) with
 |true=>rfl
 |false=>
  simp only[w1l,decide_eq_false_iff_not,w4x] at h;rw[if_neg (by simp),z79 (λn i=>z4o φ n (x.places.length:Int) x.places (x.places.length:Int) i x) (z2n φ φ (x.places.length:Int) x.edges (x.edges.length:Int) 0) (some (1,())) x.places (λt=>!z98 t) ?_ ?_ φ (by omega)]
  .rw[z79 (λn i=>z2n φ n (x.places.length:Int) x.edges (x.edges.length:Int) i) (some (0,())) (some (1,())) x.edges (λt=>!zay x.places.length t) ?_ ?_ φ (by omega)]
   .simp only[w3u,Bool.not_not];cases x.places.all z98<;>cases x.edges.all (zay x.places.length)<;>rfl
   .intro n i d;rw[z2n,if_pos (by simp;omega),z6 ⟨by omega,by omega⟩,y8i,W_id (by omega) (by omega)];cases zay x.places.length (gt x.edges i)<;>rfl
   .intro n;rw[z2n,if_neg (by simp)]
  .intro n i d;rw[z4o,if_pos (by simp;omega),z6 ⟨by omega,by omega⟩,zne,w00,W_id (by omega) (by omega)];cases z98 (gt x.places i)<;>rfl
  .intro n;rw[z4o,if_neg (by simp)]
theorem zdx{x:zk}(h:z7c x=0):x.places.length<=512/\x.edges.length<=2048/\(∀p∈x.places,z98 p=true)/\∀e∈x.edges,zay x.places.length e=true:=by
 unfold z7c at h;cases d:decide (512<x.places.length)||decide (2048<x.edges.length) with
 |true=>rw[d] at h;cases h
 |false=>
  rw[d] at h;cases f:x.places.all z98&&x.edges.all (zay x.places.length) with
  |false=>rw[f] at h;cases h
  |true=>simp only[w1l,decide_eq_false_iff_not,w4x] at d;simp only[w02,w0a] at f;exact⟨d.1,d.2,f⟩
def zyh:Int->List Int->Bool
 |_,[]=>true
 |p,h::t=>decide (p<h)&&decide (h<=745654)&&zyh h t
def zjt(s:Span):Bool:=decide (0<=s.from_)&&decide (s.from_<=s.to)&&decide (s.to<=1440)
def zln(c:z6a):Bool:=((List.range 7).all λi=>zjt (c.open_ i))&&zyh (-1) c.holidays
theorem yh4(φ:Nat)(c:z6a):∀(n i:Nat)(p:Int),-1<=p->(i:Int)<=p+1->p<=745654->i<=c.holidays.length->745656<=(n:Int)+p->z3g φ n p c.holidays (c.holidays.length:Int) i=some (bif zyh p (c.holidays.drop i) then 0 else 1,()):=by
 intro n
 induction n with
 |zero=>intro i p _ _ _ _ _;omega
 |succ n u=>
  intro i p hp g j z hn;by_cases h:i=c.holidays.length
  .rw[h,z3g,if_neg (by simp),List.drop_length];rfl
  .rw[z3g,if_pos (by simp;omega),z6 ⟨by omega,by omega⟩,y8h _ _ (by omega)];by_cases d:gt c.holidays i<=p\/745654<gt c.holidays i
   .have :(decide (p<gt c.holidays i)&&decide (gt c.holidays i<=745654))=false:=by simp;omega
    rw[if_pos (by simpa using d)];simp[zyh,this]
   .have f :(decide (p<gt c.holidays i)&&decide (gt c.holidays i<=745654))=true:=by simp;omega
    rw[if_neg (by simpa using d),W_id (by omega) (by omega)];have:=u (i+1) (gt c.holidays i) (by omega) (by omega) (by omega) (by omega) (by omega);rw[show ((i+1:Nat):Int) =(i:Int)+1 by omega] at this;rw[this];simp[zyh,f]
theorem zis(s:Span):((decide (s.from_<0)||decide (s.to<s.from_))||decide (1440<s.to)) = !zjt s:=by
 rw[w0t];simp[zjt]
 try omega
theorem zkx(φ:Nat)(hφ:800000<φ)(c:z6a):z9z φ c=some (bif zln c then 0 else 1,()):=by
 unfold z9z;refine zu (λn i(_:Unit)=>z40 φ n c.open_ i c) 7 (λi _=>((List.range i).all λj=>zjt (c.open_ j))=true) (λo=>o=some (bif zln c then 0 else 1,())) ?_ ?_ φ () (by simp) (by omega)
 .intro n i _ g h f;rw[z40,if_pos (by simp;omega),z6 ⟨by omega,by omega⟩,w1i,zis,W_id (by omega) (by omega)];cases d:zjt (c.open_ i) with
  |true=>rw[if_neg (by simp)];exact f () (by rw[z9y,h,d];rfl)
  |false=>
   have:zln c=false:=by
    unfold zln;have :((List.range 7).all λj=>zjt (c.open_ j))=false:=by rw[w3m];exact⟨i,by simp;omega,by simp[d]⟩
    rw[this];rfl
   rw[if_pos (by simp),this];rfl
 .intro n _ h;rw[z40,if_neg (by simp)];unfold zln;rw[h,w25];have:=yh4 φ c φ 0 (-1) (by omega) (by omega) (by omega) (by omega) (by omega);simpa using this
theorem zli{α ρ:Type}[Inhabited α](L:Nat->Bool->Int->Option ρ)(k:Bool->Option ρ)(l:List α)(p:α->Bool)
  (step:∀(n i:Nat)(s:Bool),i<l.length->L (n+1) s i=L n (s||p (gt l i)) ((i:Int)+1)) (d:∀n s,L (n+1) s l.length=k s) (n:Nat) (s:Bool) (h:l.length<n):L n s 0=k (s||l.any p):=by
 refine zu (λn i t=>L n t i) l.length (λi t=>t =(s||(l.take i).any p)) (λo=>o=k (s||l.any p)) ?_ ?_ n s (by simp) h
 .intro n i t g f j;rw[step n i t g];exact j _ (by rw[zec _ _ _ g,f,Bool.or_assoc])
 .intro n t f;rw[w11] at f;rw[d,f]
def z8r(n:Int)(r:zil):Bool:=(((!bet r.place 0 (n-1))||decide (r.low<(-1000)))||decide (r.high<r.low))||decide (1000<r.high)
def z7p(x:zk)(s:ze9):Bool:=(!bet s.place 0 ((x.places.length:Int)-1))||((gt x.places s.place).kind !=4)
def zi5(r:z6b):Bool:=!zln r.calendar||!y6o r.key
def zkw(x:Pool):Bool:=
 ((((((x.railways.length:Int)==0)||x.readers.any (z8r x.network.places.length))||x.shippers.any (z7p x.network))||x.fleet.wagons.any (λw=>decide ((x.network.places.length:Int)<=w.home)))||
 x.network.places.any (λp=>decide ((x.railways.length:Int)<=p.railway)||decide ((x.railways.length:Int)<=p.other)))||x.network.edges.any (λe=>decide ((x.railways.length:Int)<=e.railway))||x.railways.any zi5
def zed(x:Pool):Bool:=(decide (256<(x.readers.length:Int))||decide (256<(x.shippers.length:Int)))||decide (16<(x.railways.length:Int))
def z1j(x:Pool):Int:=if z7c x.network≠0 then z7c x.network else if z0j x.fleet≠0 then z0j x.fleet else bif zed x then 2 else bif zkw x then 1 else 0
theorem z3h(φ:Nat)(hφ:800000<φ)(x:Pool):z0z φ x=some (z1j x,()):=by
 unfold z0z z1j;rw[z8a _ (by omega),w00];by_cases j:z7c x.network=0
 case neg=>rw[if_pos (by simp[j]),if_pos j]
 rw[if_neg (by simp[j]),if_neg (λe:z7c x.network≠0=>e j),zdh _ (by omega),w00];by_cases g:z0j x.fleet=0
 case neg=>rw[if_pos (by simp[g]),if_pos g]
 rw[if_neg (by simp[g]),if_neg (λe:z0j x.fleet≠0=>e g)];cases z:zed x with
 |true=>have e :(((decide (256<(x.readers.length:Int))||decide (256<(x.shippers.length:Int)))||decide (16<(x.railways.length:Int))))=zed x:=rfl;rw[e,z];rfl
 |false=>
  have f:¬(((decide (256<(x.readers.length:Int))||decide (256<(x.shippers.length:Int)))||decide (16<(x.railways.length:Int)))=true):=by rw[show (((decide (256<(x.readers.length:Int))||decide (256<(x.shippers.length:Int)))||decide (16<(x.railways.length:Int))))=zed x from rfl,z];simp
  rw[if_neg f];simp only[w0w,decide_eq_true_eq,not_or] at f;obtain⟨n1,n2,_,_⟩:=zdx j;obtain⟨f1,f2,_⟩:=z1n g;have hp:W ((x.network.places.length:Int)-1) =(x.network.places.length:Int)-1:=W_id (by omega) (by omega);have a1:=zli (λn s i=>z2l φ n x.network.places (x.railways.length:Int) s x.readers (x.readers.length:Int) i x) (λs=>z19 φ φ x.network.places (x.railways.length:Int) s x.shippers (x.shippers.length:Int) 0 x) x.readers (z8r x.network.places.length) (λn i s h=>by
   rw[z2l,if_pos (by simp;omega),z6 ⟨by omega,by omega⟩,hp,W_id (by omega) (by omega)];unfold z8r;cases s with
   |true=>rw[gz_f (by simp)];rfl
   |false=>rw[gz_t rfl];rfl) (λn s=>by rw[z2l,if_neg (by simp)]) φ ((x.railways.length:Int)==0) (by omega)
  refine a1.trans ?_;have a2:=λd=>zli (λn s i=>z19 φ n x.network.places (x.railways.length:Int) s x.shippers (x.shippers.length:Int) i x) (λs=>z1a φ φ x.network.places (x.railways.length:Int) s x.fleet.wagons (x.fleet.wagons.length:Int) 0 x) x.shippers (z7p x.network) (λn i s h=>by
   rw[z19,if_pos (by simp;omega),z6 ⟨by omega,by omega⟩,hp,W_id (by omega) (by omega)];unfold z7p;cases s with
   |true=>rw[gz_f (by simp),w00,z6 (by simp)];rfl
   |false=>
    rw[gz_t rfl,z2c,w00];cases u:bet (gt x.shippers i).place 0 ((x.network.places.length:Int)-1) with
    |true=>rw[z6 (λ_=>by have:=zth u;omega)];rfl
    |false=>rw[z6 (by simp)];rfl) (λn s=>by rw[z19,if_neg (by simp)]) φ d (by omega)
  refine(a2 _).trans ?_;have a3:=λd=>zli (λn s i=>z1a φ n x.network.places (x.railways.length:Int) s x.fleet.wagons (x.fleet.wagons.length:Int) i x) (λs=>z1b φ φ (x.railways.length:Int) s x.network.places (x.network.places.length:Int) 0 x) x.fleet.wagons (λw=>decide ((x.network.places.length:Int)<=w.home)) (λn i s h=>by rw[z1a,if_pos (by simp;omega),z6 ⟨by omega,by omega⟩,W_id (by omega) (by omega)]) (λn s=>by rw[z1a,if_neg (by simp)]) φ d (by omega)
  refine(a3 _).trans ?_;have a4:=λd=>zli (λn s i=>z1b φ n (x.railways.length:Int) s x.network.places (x.network.places.length:Int) i x) (λs=>z1c φ φ (x.railways.length:Int) s x.network.edges (x.network.edges.length:Int) 0 x) x.network.places (λp=>decide ((x.railways.length:Int)<=p.railway)||decide ((x.railways.length:Int)<=p.other)) (λn i s h=>by rw[z1b,if_pos (by simp;omega),z6 ⟨by omega,by omega⟩,W_id (by omega) (by omega),Bool.or_assoc]) (λn s=>by rw[z1b,if_neg (by simp)]) φ d (by omega)
  refine(a4 _).trans ?_;have a5:=λd=>zli (λn s i=>z1c φ n (x.railways.length:Int) s x.network.edges (x.network.edges.length:Int) i x) (λs=>z1d φ φ s x.railways (x.railways.length:Int) 0) x.network.edges (λe=>decide ((x.railways.length:Int)<=e.railway)) (λn i s h=>by rw[z1c,if_pos (by simp;omega),z6 ⟨by omega,by omega⟩,W_id (by omega) (by omega)]) (λn s=>by rw[z1c,if_neg (by simp)]) φ d (by omega)
  refine(a5 _).trans ?_;have a6:=λd=>zli (λn s i=>z1d φ n s x.railways (x.railways.length:Int) i) (λs=>if s=true then some (1,()) else some (0,())) x.railways zi5 (λn i s h=>by
   rw[z1d,if_pos (by simp;omega),z6 ⟨by omega,by omega⟩,W_id (by omega) (by omega)];unfold zi5;cases s with
   |true=>rw[gz_f (by simp),w00,gz_f (by simp)];rfl
   |false=>
    rw[gz_t rfl,zkx _ hφ,w00];cases zln (gt x.railways i).calendar with
    |false=>rw[gz_f (by simp)];rfl
    |true=>rw[gz_t (by simp),zw8 _ (by omega)];rfl) (λn s=>by rw[z1d,if_neg (by simp)]) φ d (by omega)
  refine(a6 _).trans ?_;show (if zkw x=true then some ((1:Int),()) else some (0,()))=_;cases zkw x<;>rfl
theorem zgq{p:Pool}(h:z1j p=0):z7c p.network=0/\z0j p.fleet=0/\p.readers.length<=256/\p.shippers.length<=256/\p.railways.length<=16/\zkw p=false:=by
 unfold z1j at h;by_cases f:z7c p.network=0
 case neg=>rw[if_pos f] at h;exact absurd h f
 rw[if_neg (λe:z7c p.network≠0=>e f)] at h;by_cases d:z0j p.fleet=0
 case neg=>rw[if_pos d] at h;exact absurd h d
 rw[if_neg (λe:z0j p.fleet≠0=>e d)] at h;cases g:zed p with
 |true=>rw[g] at h;cases h
 |false=>
  rw[g] at h;cases j:zkw p with
  |true=>rw[j] at h;cases h
  |false=>simp only[zed,w1l,decide_eq_false_iff_not] at g;exact⟨f,d,by omega,by omega,by omega,rfl⟩
end Px
end
section
namespace Px
open Go
set_option maxHeartbeats 4000000
def zaf(fit:Bool)(x:Part):Bool:=!(((((decide ((x.kind:Int)<1))||(decide ((3:Int)<x.kind)))||(decide ((x.serial:Int)<0)))||(decide ((1073741824:Int)<x.serial)))||(x.fitted&&(!fit)))
theorem z67(φ:Nat)(l:List Part)(d:Bool)(h:l.length<=1000)(hφ:1000<φ):zfz φ l d=some (l.all (zaf d)&&decide ((l.length:Int)<=16),()):=by
 unfold zfz;rw[z79 (λn i=>z8l φ n l d l (l.length:Int) i) (some (decide ((l.length:Int)<=16),())) (some (false,())) l (λx=>!zaf d x) ?_ ?_ φ (by omega)]
 .simp only[w3u,Bool.not_not];cases l.all (zaf d)<;>rfl
 .intro n i f;rw[z8l,if_pos (by simp;omega),z6 ⟨by omega,by omega⟩,W_id (by omega) (by omega)];show _=bif !!_ then _ else _;rw[Bool.not_not];cases (((((decide (((gt l i).kind:Int)<1))||(decide ((3:Int)<(gt l i).kind)))||(decide (((gt l i).serial:Int)<0)))||(decide ((1073741824:Int)<(gt l i).serial)))||((gt l i).fitted&&(!d)))<;>rfl
 .intro n;rw[z8l,if_neg (by simp)]
structure y7l(p:Pool)(it:Item):Prop where
 kind:1<=it.kind/\it.kind<=15
 wagon:it.kind<=9->0<=it.wagon/\it.wagon<(p.fleet.wagons.length:Int)
 read:it.kind=1->0<=it.other/\it.other<(p.readers.length:Int)
 place:it.kind=2\/it.kind=3\/it.kind=4\/it.kind=6\/it.kind=7\/it.kind=9->0<=it.place/\it.place<(p.network.places.length:Int)
 from_:it.kind<=9->0<=it.from_/\it.from_<=1073741824
 to:it.kind=2\/it.kind=9->it.from_<=it.to/\it.to<=1073741824
theorem zmm{ρ:Type}(c q:Bool)(K:Bool->Option ρ):((zi (default,()) (c=true) (some (q,()))).bind λy=>K (c&&y.1))=K (c&&q):=by unfold zi;cases c<;>rfl
theorem y8r(p:Pool)(d:Item)(f:d.parts.length<=1000)(hw:p.fleet.wagons.length<=4096)(hr:p.readers.length<=256)(hs:p.shippers.length<=256)(a2:p.network.places.length<=512)(ht:p.fleet.types.length<=32):
  ∃b,(∀φ,1000<φ->z0m φ p d=some (b,()))/\(b=true->y7l p d):=by
 have w1:W ((p.fleet.wagons.length:Int)-1) =(p.fleet.wagons.length:Int)-1:=W_id (by omega) (by omega);have w2:W ((p.readers.length:Int)-1) =(p.readers.length:Int)-1:=W_id (by omega) (by omega);have w3:W ((p.shippers.length:Int)-1) =(p.shippers.length:Int)-1:=W_id (by omega) (by omega);have w4:W ((p.network.places.length:Int)-1) =(p.network.places.length:Int)-1:=W_id (by omega) (by omega);have w5:W ((p.fleet.types.length:Int)-1) =(p.fleet.types.length:Int)-1:=W_id (by omega) (by omega);have hm:∀x z:Int,max2 x 0<=z↔x<=z/\0<=z:=by intro x z;unfold max2;split<;>omega
 by_cases a0:d.kind<1
 .refine⟨false,λφ hφ=>?_,λh=>by cases h⟩;unfold z0m zf;rw[if_pos (by simp;omega),if_pos (by simpa using a0)];simp
 by_cases a1:15<d.kind
 .refine⟨false,λφ hφ=>?_,λh=>by cases h⟩;have e:∀k:Int,k<=15->(d.kind==k)=false:=λk hk=>by simp;omega
  unfold z0m;rw[if_neg (by simp;omega)];simp[e,z1l,zf]
 have hcases:d.kind=1\/d.kind=2\/d.kind=3\/d.kind=4\/d.kind=5\/d.kind=6\/d.kind=7\/d.kind=8\/d.kind=9\/d.kind=10\/d.kind=11\/d.kind=12\/d.kind=13\/d.kind=14\/d.kind=15:=by omega
 by_cases j:0<=d.place/\d.place<(p.network.places.length:Int)
 .have u :(decide ((0:Int)<=d.place)&&decide ((d.place:Int)<(p.network.places.length:Int)))=true:=by simp[j]
  rcases hcases with hk|hk|hk|hk|hk|hk|hk|hk|hk|hk|hk|hk|hk|hk|hk
  case inr.inr.inr.inr.inr.inr.inr.inr.inl=>refine⟨_,λφ hφ=>by unfold z0m;simp only[hk,u,z59,z6 j,w1,w2,w3,w4,w5,z67 φ _ _ f hφ,w00,Int.reduceLE,Int.reduceLT,Int.reduceBEq,decide_true,decide_false,if_true,w09,if_false];refine(zmm _ _ (λb=>zf φ ⟨_,_,b⟩)).trans ?_;unfold zf;rfl,λg=>?_⟩;simp only[w02,decide_eq_true_eq,hm,beq_iff_eq,bne_iff_ne,ne_eq,w0w] at g;constructor<;>omega
  case inr.inr.inr.inr.inr.inr.inr.inr.inr.inl=>refine⟨_,λφ hφ=>by unfold z0m;simp only[hk,u,z6 j,w1,w2,w3,w4,w5,z67 φ _ _ f hφ,w00,Int.reduceLE,Int.reduceLT,Int.reduceBEq,decide_true,decide_false,if_true,w09,if_false];refine(zmm _ _ (λb=>zf φ ⟨_,_,b⟩)).trans ?_;unfold zf;rfl,λg=>?_⟩;constructor<;>omega
  all_goals
   refine⟨_,λφ hφ=>by unfold z0m;simp only[hk,u,z6d,z52,z54,z56,z57,z58,z1l,z5a,zf,z6 j,w1,w2,w3,w4,w5,w00,Int.reduceLE,Int.reduceLT,Int.reduceBEq,Int.reduceBNe,Int.reduceNe,decide_true,decide_false,if_true,w09,if_false];rfl,λg=>?_⟩;simp only[w02,decide_eq_true_eq,hm,beq_iff_eq,bne_iff_ne,ne_eq,w0w] at g;constructor<;>omega
 .have u :(decide ((0:Int)<=d.place)&&decide ((d.place:Int)<(p.network.places.length:Int)))=false:=by rw[<- w1k];simpa using j
  rcases hcases with hk|hk|hk|hk|hk|hk|hk|hk|hk|hk|hk|hk|hk|hk|hk
  case inr.inr.inr.inr.inr.inr.inr.inr.inl=>refine⟨_,λφ hφ=>by unfold z0m;simp only[hk,u,z59,w1,w2,w3,w4,w5,z67 φ _ _ f hφ,w00,Int.reduceLE,Int.reduceLT,Int.reduceBEq,decide_true,decide_false,if_true,w09,if_false];refine(zmm _ _ (λb=>zf φ ⟨_,_,b⟩)).trans ?_;unfold zf;rfl,λg=>?_⟩;simp at g
  case inr.inr.inr.inr.inr.inr.inr.inr.inr.inl=>refine⟨_,λφ hφ=>by unfold z0m;simp only[hk,u,w1,w2,w3,w4,w5,z67 φ _ _ f hφ,w00,Int.reduceLE,Int.reduceLT,Int.reduceBEq,decide_true,decide_false,if_true,w09,if_false];refine(zmm _ _ (λb=>zf φ ⟨_,_,b⟩)).trans ?_;unfold zf;rfl,λg=>?_⟩;constructor<;>omega
  all_goals
   refine⟨_,λφ hφ=>by unfold z0m;simp only[hk,u,z6d,z52,z54,z56,z57,z58,z1l,z5a,zf,w1,w2,w3,w4,w5,w00,Int.reduceLE,Int.reduceLT,Int.reduceBEq,Int.reduceBNe,Int.reduceNe,decide_true,decide_false,if_true,w09,if_false];rfl,λg=>?_⟩;simp only[w02,decide_eq_true_eq,hm,beq_iff_eq,bne_iff_ne,ne_eq,w0w] at g
   first |(constructor<;>omega) |(simp at g;done) |(simp at g;constructor<;>omega)
def zh2(p:Pool)(it:Item):Bool:=((z0m 2000 p it).getD (false,())).1
def y1n(it:Item):Bool:=((z7q 0 it).getD (false,())).1
theorem zz3(φ:Nat)(d:Item):z7q φ d=some (y1n d,()):=by unfold y1n z7q;split<;>rfl
def zgc(p:Pool)(it:Item):Bool:=y1n it&&zh2 p it
theorem zor{p:Pool}(hc:z1j p=0){f:Item}(d:f.parts.length<=1000):(∀φ,1000<φ->z0m φ p f=some (zh2 p f,()))/\(zh2 p f=true->y7l p f):=by
 obtain⟨hn,hf,u,z,h3,hb⟩:=zgq hc;obtain⟨n1,n2,_,_⟩:=zdx hn;obtain⟨h,j,_⟩:=z1n hf;obtain⟨b,hφ,g⟩:=y8r p f d j u z n1 h;have:zh2 p f=b:=by unfold zh2;rw[hφ 2000 (by omega)];rfl
 rw[this];exact⟨hφ,g⟩
theorem zxg(φ:Nat)(hφ:800000<φ){p:Pool}(g:z1j p=0){f:Item}(d:f.parts.length<=1000):zj4 φ p f=some (bif zgc p f then 0 else 110,()):=by
 unfold zj4 zgc;rw[z3h φ hφ,w00,if_neg (by simp[g]),zz3,w00];cases y1n f with
 |false=>rfl
 |true=>rw[gz_t (by simp),(zor g d).1 φ (by omega),w00];cases zh2 p f<;>rfl
theorem yac{p:Pool}(g:z1j p=0){f:Item}(d:f.parts.length<=1000)(h:zgc p f=true):y7l p f:=by simp only[zgc,w02] at h;exact(zor g d).2 h.2
end Px
end
